/-
  What the laws rest on, part 30: walks of the program's functions and plain laws. Conditions: none but those that each theorem names.
-/
import Derived.Test.YtlcidkiplidamaaDoorB24
import Derived.Test.YtlcidkiplidamaaDoorB25
import Derived.Test.YtlcidkiplidamaaDoorB26
import Derived.Laws.EntriesVeiled
import Derived.WalkMore
import Derived.Lib.SmallJoins
import Derived.RegionTactic
import Derived.Test.YtlcidkiplidamaaDoorB19
import Derived.Test.YtlcidkiplidamaaDoorB23
import Derived.Test.YtlcidkiplidamaaDoorB27
import Derived.Test.YtlcidkiplidamaaDoorB28
import Derived.Test.YtlcidkiplidamaaDoorB29
import Derived.Test.YtlcidkiplidamaaDoorB10
import Derived.Test.YtlcidkiplidamaaDoorB18
set_option linter.unusedSimpArgs false
set_option linter.unusedVariables false
set_option maxRecDepth 100000
set_option maxHeartbeats 4000000
namespace Go.Proofs.YtlcidkiplidamaaDoor
open Go Go.RowKit Lib Go.Maps
theorem instr_i (ρ : Nat → Nat) (B kb xb : Nat) (σ : AsK) (V : MkV) (m : AsM) (U : MtV) (A : Option Addr) (n cap : Nat) (ws : List ByteArray) (w : World) (N : Nat) (hK : MkC w ρ B kb σ V) (hV : V.mv = .pointer (some ⟨xb, 0, none⟩)) (hM : MtC w ρ B xb m U) (hw : WdA w (Un ρ) A n cap ws) (hz : SmW ws) (hn : 0 < n) (hS : AsSm σ N) (hMS : AsMSm m N) (hN : N ≤ 900000)
    (c : Int) (hc : codeOf (ws.headD ⟨#[]⟩).data.toList = c) (hc0 : 0 ≤ c) (nm : List UInt8) (hnm : (rowOf c).1 = nm) (hf : (rowOf c).2 = [105]) :
    Calls Tryd.prog 22 #[.pointer (some ⟨kb, 0, none⟩), .slice A n cap] w (LPost [1, 2, 3, 4, 5, 6, 7, 8, 9, 10, 11, 12, 13] w ρ B kb σ.line (σ.instr m ws)) := by
  have hmf : ∀ (fn : Fn) (first cap : Array Value) (w : World), (Instr.makeFunc fn first cap).run Tryd.prog w = .ok (.func fn first cap) w := fun _ _ _ _ => rfl
  obtain ⟨b, off, hA, hb, hub, hcc⟩ := hw.hat hn
  subst hA
  have hle := hw.le
  have hmx := hw.max
  have hnw := hw.len
  subst hnw
  obtain ⟨s0, hs0⟩ : ∃ s, ws[0]? = some s := ⟨_, List.getElem?_eq_getElem hn⟩
  have hh : ws.headD ⟨#[]⟩ = s0 := by
    cases ws with
    | nil => cases hs0
    | cons a l => cases hs0; rfl
  have c0 := hcc 0 s0 hs0
  rw [Nat.add_zero] at c0
  have z0 := hz s0 (List.mem_of_getElem? hs0)
  have hc' : codeOf s0.data.toList = c := by rw [← hh]; exact hc
  have HFI := Lib.hid (show ∀ W : World, Calls Tryd.prog 40 #[.string s0] W fun e w' => e = .returned (.int .i64 c) ∧ Below W.heap.size W w' from fun W => by
    have := opsfind_any s0 W
    rw [ByteArray.toList_eq, hc'] at this
    exact this)
  have HFO := Lib.hid (show ∀ W : World, Calls Tryd.prog 41 #[.int .i64 c] W fun e w' => e = .returned (.tuple #[.string ⟨nm.toArray⟩, .string ⟨#[105]⟩]) ∧ Below W.heap.size W w' from fun W => by
    have := opsform_any c W
    rw [hnm, hf] at this
    exact this)
  have HI5 : -9223372036854775808 ≤ c ∧ c ≤ 9223372036854775807 := by
    have := codeOf_range (ws.headD ⟨#[]⟩).data.toList
    rw [hc] at this
    omega
  have hd0 : decide ((0 : Int) ≤ c) = true := by rw [decide_eq_true_eq]; exact hc0
  have H := Lib.hid hK
  have HV := Lib.hid hV
  have HM := Lib.hid hM
  have HW := Lib.hid hw
  have HZ := Lib.hid hz
  have HS := Lib.hid hS
  have HMS := Lib.hid hMS
  have HC := Lib.hid hc
  have HNM := Lib.hid hnm
  have HF := Lib.hid hf
  have hkl := hK.box.lt
  have hxl := hM.box.lt
  have c12 := hK.box.cell 12 rfl
  rw [hV] at c12
  obtain ⟨y1, y2, y3, y4, y5, y6, y7, y8, y9, y10, y11, y12⟩ := far kb w.heap.size hkl
  obtain ⟨x1, x2, x3, x4, x5, x6, x7, x8, x9, x10, x11, x12⟩ := far b w.heap.size hb
  clear hK hV hM hw hz hS hMS hcc hs0 hh hc hc' hnm hf
  go_enter Tryd.func22, Tryd.ntmps22
  go_wp2_with (go_at_call 40; refine stop_here ?_)
  refine go_on ?_
  refine (HFI.out _).mono ?_
  rintro e w1 ⟨rfl, hb1⟩
  have B1 := Lib.hid ((((Below.refl w.heap.size w).alloc (Nat.le_refl _) (.cells #[.pointer (some ⟨kb, 0, none⟩)] 46)).alloc (by simp) (.cells #[.pointer (some ⟨xb, 0, none⟩)] 48)).trans (hb1.mono (by simp; omega)))
  have b11 := Lib.hid (show Bx w1 w.heap.size [.pointer (some ⟨kb, 0, none⟩)] 46 from ((bx_new w [.pointer (some ⟨kb, 0, none⟩)] 46).below ((Below.refl _ _).alloc (Nat.le_refl _) (.cells #[.pointer (some ⟨xb, 0, none⟩)] 48)) (by simp)).below hb1 (by simp; omega))
  have b41 := Lib.hid (show Bx w1 (w.heap.size + 1) [.pointer (some ⟨xb, 0, none⟩)] 48 from (bx_new_at (w.alloc (.cells #[.pointer (some ⟨kb, 0, none⟩)] 46)) [.pointer (some ⟨xb, 0, none⟩)] 48 (w.heap.size + 1) (by simp)).below hb1 (by simp))
  have hz1 := hb1.size
  simp only [World.size_alloc] at hz1
  clear hb1 c12
  have d1 := b11.out.cell 0 rfl
  go_wp2_with (go_at_call 14; refine stop_here ?_)
  refine go_on ?_
  refine (must_yes kb _ σ.line w1 (B1.out.block kb hkl |>.trans H.out.box) rfl).mono ?_
  rintro e w1' ⟨rfl, rfl⟩
  go_wp2_with (go_at_call 41; refine stop_here ?_)
  refine go_on ?_
  refine (HFO.out _).mono ?_
  rintro e w2 ⟨rfl, hb2⟩
  have B2 := Lib.hid (B1.out.trans (hb2.mono (by omega)))
  have b12 := Lib.hid (b11.out.below hb2 b11.out.lt)
  have b42 := Lib.hid (b41.out.below hb2 b41.out.lt)
  have hz2 := hb2.size
  clear hb2 d1
  have HW2 := Lib.hid (HW.out)
  rcases Nat.lt_or_ge 1 cap with hcap | hcap
  · go_wp2_with fail
    obtain ⟨w3, hw3⟩ : ∃ W, W = (w2.alloc (.cells #[.slice (some ⟨b, off + 1, none⟩) (ws.length - 1) (cap - 1)] 39)).alloc (.stringIter ⟨#[105]⟩ 0) := ⟨_, rfl⟩
    have B3 := (B2.out.alloc (show w.heap.size ≤ w2.heap.size by omega) (.cells #[.slice (some ⟨b, off + 1, none⟩) (ws.length - 1) (cap - 1)] 39)).alloc (by simp; omega) (.stringIter ⟨#[105]⟩ 0)
    have HB3 := (((Below.refl w2.heap.size w2).alloc (Nat.le_refl _) (.cells #[.slice (some ⟨b, off + 1, none⟩) (ws.length - 1) (cap - 1)] 39)).alloc (by simp) (.stringIter ⟨#[105]⟩ 0))
    have HI0 := Lib.hid (show InS w ρ B kb xb w.heap.size (w.heap.size + 1) w2.heap.size (w2.heap.size + 1) ⟨#[105]⟩ 0 m ⟨σ, m.mv.code, m.jumps, ws.drop 1⟩ w3 from InS.start H.out HV.out HM.out (show Below w.heap.size w w3 by rw [hw3]; exact B3) (HW.out.rest1 rfl hcap) (by rw [hw3]; exact b12.out.below HB3 b12.out.lt) (by rw [hw3]; exact b42.out.below HB3 b42.out.lt) (by rw [hw3]; exact (bx_new w2 _ _).below ((Below.refl _ _).alloc (Nat.le_refl _) _) (by simp)) (by rw [hw3]; exact iter_heap_at _ _ (by simp) _ _) (Nat.le_refl _) (by omega) (by omega) (by omega) (by omega) (by omega) (by omega) (by omega) (by omega))
    clear B3 HB3
    first | rw [← hw3] | (rw [show (w2.alloc (.cells #[.slice (some ⟨b, off + 1, none⟩) (ws.length - 1) (cap - 1)] 39)).iter ⟨#[105]⟩ 0 = w3 from hw3.symm])
    clear hw3
    refine wp_loop_rounds 2 ?_
    rw [rounds_succ]
    go_wp2_with (refine wpl_next (s := ⟨#[105]⟩) (pos := 0) rfl rfl rfl HI0.out.ib 105 (by rfl) (by omega) ?_; refine stop_here ?_)
    refine go_on ?_
    intro w3a hk hcl hfr hsz hh hbl
    have HI1 := Lib.hid (show InS w ρ B kb xb w.heap.size (w.heap.size + 1) w2.heap.size (w2.heap.size + 1) ⟨#[105]⟩ 1 m ⟨σ, m.mv.code, m.jumps, ws.drop 1⟩ w3a from HI0.out.turn hk hh hbl.out)
    clear hk hcl hfr hsz hh hbl
    go_wp2_with fail
    obtain ⟨ρ', V', U', A8, n8, c8, e8⟩ := HI1.out.ex
    have d1 := HI1.out.b1.cell 0 rfl
    have d4 := HI1.out.b4.cell 0 rfl
    have d8 := e8.q.cell 0 rfl
    obtain rfl : n8 = ws.length - 1 := by rw [e8.wd.len]; simp
    obtain ⟨Ac, cc, hcv⟩ := own_slice e8.mt.code.1
    have x6 : w3a.cell? ⟨xb, 6, none⟩ = some (.slice Ac m.mv.code.length cc) := by rw [← show U'.cv = .slice Ac m.mv.code.length cc from hcv]; exact e8.mt.box.cell 6 rfl
    clear e8 hcv
    rw [rounds_succ]
    by_cases hlen : ws.length - 1 = 3
    · have hq : (((ws.length - 1 : Nat) : Int) == 3) = true := by rw [beq_iff_eq]; omega
      have HLEN := Lib.hid (show ws.length - 1 = aWant [105] from hlen)
      clear hlen
      go_wp2_with (first | (refine wpl_next_end (s := ⟨#[105]⟩) (pos := 1) rfl rfl rfl HI1.out.ib (by decide) ?_) | (go_at_call 14; refine stop_here ?_))
      refine go_on ?_
      refine HI1.out.mustY.mono ?_
      rintro e w4 ⟨rfl, rfl⟩
      clear d1 d8
      go_wp2_with (go_at_call 43; refine stop_here ?_)
      refine go_on ?_
      refine (HI1.out.put1 c (by show m.mv.code.length ≤ 999000; have := HMS.out.code; omega) HI5).mono ?_
      rintro e w5 ⟨rfl, hi⟩
      have HI2 := Lib.hid (show InS w ρ B kb xb w.heap.size (w.heap.size + 1) w2.heap.size (w2.heap.size + 1) ⟨#[105]⟩ 1 m ⟨σ, m.mv.code ++ [aByte c], m.jumps, ws.drop 1⟩ w5 from hi)
      clear hi d4 x6
      have hwl : w2.heap.size < w5.heap.size := by obtain ⟨ρ5, V5, U5, A5, n5, c5, e5⟩ := HI2.out.ex; exact e5.q.lt
      go_wp2_with fail
      have HI3 := Lib.hid (show InS w ρ B kb xb w.heap.size (w.heap.size + 1) w2.heap.size w5.heap.size ⟨#[105]⟩ 0 m ⟨σ, m.mv.code ++ [aByte c], m.jumps, ws.drop 1⟩ (w5.iter ⟨#[105]⟩ 0) from HI2.out.again ⟨#[105]⟩ w5.heap.size rfl)
      obtain ⟨w6, hw6⟩ : ∃ W, W = w5.iter ⟨#[105]⟩ 0 := ⟨_, rfl⟩
      rw [← hw6]
      replace HI3 : Hid (InS w ρ B kb xb w.heap.size (w.heap.size + 1) w2.heap.size w5.heap.size ⟨#[105]⟩ 0 m ⟨σ, m.mv.code ++ [aByte c], m.jumps, ws.drop 1⟩ w6) := by rw [hw6]; exact HI3
      clear hw6
      have hcl : (m.mv.code ++ [aByte c]).length ≤ 990000 := by have := HMS.out.code; simp; omega
      have hpl : σ.c.pool.length ≤ 990000 := by have := HS.out.npool; omega
      refine wp_loop_rounds 2 ?_
      obtain ⟨s, t, u, hr, hsm, htm, hum⟩ := want_three HLEN.out
      have hsz := HZ.out s hsm
      have htz := HZ.out t htm
      have huz := HZ.out u hum
      have hmm := @run_makeMap Tryd.prog
      rw [rounds_succ]
      go_wp2_with (refine wpl_next (s := ⟨#[105]⟩) (pos := 0) rfl rfl rfl HI3.out.ib 105 (by rfl) (by omega) ?_; refine stop_here ?_)
      refine go_on ?_
      intro w6a hk hcl hfr hsz hh hbl
      have HI4 := Lib.hid (show InS w ρ B kb xb w.heap.size (w.heap.size + 1) w2.heap.size w5.heap.size ⟨#[105]⟩ 1 m ⟨σ, m.mv.code ++ [aByte c], m.jumps, ws.drop 1⟩ w6a from HI3.out.turn hk hh hbl.out)
      clear hk hcl hfr hsz hh hbl
      have hmb := (member_small HS.out (t := 11) (c := s) (n := t) (d := u) (by unfold TagOk; omega) hsz htz huz (by omega)).2
      go_wp2_with (go_at_call 42; refine stop_here ?_)
      refine go_on ?_
      refine (HI4.out.next hr).mono ?_
      rintro e w7 ⟨rfl, hi⟩
      have HI5 := Lib.hid (show InS w ρ B kb xb w.heap.size (w.heap.size + 1) w2.heap.size w5.heap.size ⟨#[105]⟩ 1 m ⟨σ, m.mv.code ++ [aByte c], m.jumps, [t, u]⟩ w7 from hi)
      clear hi
      go_wp2_with (go_at_call 42; refine stop_here ?_)
      refine go_on ?_
      refine (HI5.out.next rfl).mono ?_
      rintro e w8 ⟨rfl, hi⟩
      have HI6 := Lib.hid (show InS w ρ B kb xb w.heap.size (w.heap.size + 1) w2.heap.size w5.heap.size ⟨#[105]⟩ 1 m ⟨σ, m.mv.code ++ [aByte c], m.jumps, [u]⟩ w8 from hi)
      clear hi
      go_wp2_with (go_at_call 42; refine stop_here ?_)
      refine go_on ?_
      refine (HI6.out.next rfl).mono ?_
      rintro e w9 ⟨rfl, hi⟩
      have HI7 := Lib.hid (show InS w ρ B kb xb w.heap.size (w.heap.size + 1) w2.heap.size w5.heap.size ⟨#[105]⟩ 1 m ⟨σ, m.mv.code ++ [aByte c], m.jumps, []⟩ w9 from hi)
      clear hi
      have HM0 := Lib.hid (mapL_made w9 Tryd.prog 21)
      have HB0 := Lib.hid ((Below.refl w9.heap.size w9).alloc (Nat.le_refl _) (.map #[] 0))
      go_wp2_with (refine wpli_ins rfl _ _ _ rfl Tryd.underlying21 Tryd.underlying93 rfl HM0.out (by decide) rfl (by decide) rfl ?_; refine stop_here ?_)
      refine go_on ?_
      intro w9a hm hg
      have HM1 := Lib.hid hm
      have HB1 := Lib.hid (HB0.out.grown hg (by have := HB0.out.size; simp) (fun k hk => by cases hk; exact Nat.le_refl _))
      clear hm hg HM0 HB0
      go_wp2_with (refine wpli_ins rfl _ _ _ rfl Tryd.underlying21 Tryd.underlying93 rfl HM1.out (by decide) rfl (by decide) rfl ?_; refine stop_here ?_)
      refine go_on ?_
      intro w9b hm hg
      have HM2 := Lib.hid hm
      have HB2 := Lib.hid (HB1.out.grown hg (by have := HB1.out.size; omega) (fun k hk => by cases hk; exact Nat.le_refl _))
      clear hm hg HM1 HB1
      go_wp2_with (refine wpli_ins rfl _ _ _ rfl Tryd.underlying21 Tryd.underlying93 rfl HM2.out (by decide) rfl (by decide) rfl ?_; refine stop_here ?_)
      refine go_on ?_
      intro w9c hm hg
      have HM3 := Lib.hid hm
      have HB3 := Lib.hid (HB2.out.grown hg (by have := HB2.out.size; omega) (fun k hk => by cases hk; exact Nat.le_refl _))
      clear hm hg HM2 HB2
      have HI8 := Lib.hid (HI7.out.below HB3.out)
      have d1 := HI8.out.b1.cell 0 rfl
      go_wp2_with (refine wpli_get rfl _ _ rfl Tryd.underlying21 Tryd.underlying93 (z := .int .i64 0) (by kernel_rfl) rfl HM3.out rfl (by decide) ?_; refine stop_here ?_)
      refine go_on ?_
      try simp only [Int.reduceEq, if_true, if_false, reduceIte, Option.getD_some]
      go_wp2_with (go_at_call 45; refine stop_here ?_)
      refine go_on ?_
      refine (HI8.out.member 11 s t u (by unfold TagOk; omega) hsz htz huz (by show σ.c.pool.length ≤ 999000; omega)).mono ?_
      rintro e w10 ⟨rfl, hi⟩
      have HI9 := Lib.hid (show InS w ρ B kb xb w.heap.size (w.heap.size + 1) w2.heap.size w5.heap.size ⟨#[105]⟩ 1 m ⟨(σ.member 11 s t u).2, m.mv.code ++ [aByte c], m.jumps, []⟩ w10 from hi)
      clear hi d1
      go_wp2_with (go_at_call 43; refine stop_here ?_)
      refine go_on ?_
      refine (HI9.out.put2 (((σ.member 11 s t u).1 : Nat) : Int) (by show (m.mv.code ++ [aByte c]).length ≤ 999000; omega) (by omega)).mono ?_
      rintro e w11 ⟨rfl, hi⟩
      have HI10 := Lib.hid (show InS w ρ B kb xb w.heap.size (w.heap.size + 1) w2.heap.size w5.heap.size ⟨#[105]⟩ 1 m ⟨(σ.member 11 s t u).2, m.mv.code ++ [aByte c] ++ aBe2 (σ.member 11 s t u).1, m.jumps, []⟩ w11 from hi)
      clear hi
      have hks := kinds_len u
      have hum2 : u.size ≤ 9223372036854775807 := by omega
      go_wp2_with (go_at_call 46; refine stop_here ?_)
      refine go_on ?_
      refine (kinds_any u _ hum2).mono ?_
      rintro e w12 ⟨rfl, hb12⟩
      have HI11 := Lib.hid (HI10.out.below hb12)
      clear hb12
      have hcl2 : (m.mv.code ++ [aByte c] ++ aBe2 (σ.member 11 s t u).1).length ≤ 998000 := by rw [List.length_append]; simp only [aBe2, List.length_cons, List.length_nil]; omega
      have hsx : ((kindsV u).1.toList.length : Int) = ((kindsV u).1.size : Int) := by rw [ByteArray.toList_eq]; simp
      go_wp2_with (go_at_call 43; refine stop_here ?_)
      refine go_on ?_
      refine (HI11.out.put1 (((kindsV u).1.size : Int) + 1) (by show (m.mv.code ++ [aByte c] ++ aBe2 (σ.member 11 s t u).1).length ≤ 999000; omega) (by omega)).mono ?_
      rintro e w13 ⟨rfl, hi⟩
      have HI12 := Lib.hid (show InS w ρ B kb xb w.heap.size (w.heap.size + 1) w2.heap.size w5.heap.size ⟨#[105]⟩ 1 m ⟨(σ.member 11 s t u).2, m.mv.code ++ [aByte c] ++ aBe2 (σ.member 11 s t u).1 ++ [aByte (((kindsV u).1.size : Int) + 1)], m.jumps, []⟩ w13 from hi)
      clear hi
      go_wp2_with (go_at_call 43; refine stop_here ?_)
      refine go_on ?_
      refine (HI12.out.put1 0 (by show (m.mv.code ++ [aByte c] ++ aBe2 (σ.member 11 s t u).1 ++ [aByte (((kindsV u).1.size : Int) + 1)]).length ≤ 999000; rw [List.length_append]; simp only [List.length_cons, List.length_nil]; omega) (by omega)).mono ?_
      rintro e w14 ⟨rfl, hi⟩
      have hcd : m.mv.code ++ [aByte c] ++ aBe2 (σ.member 11 s t u).1 ++ [aByte (((kindsV u).1.size : Int) + 1)] ++ [aByte 0] = m.mv.code ++ [aByte c] ++ aBe2 (σ.member 11 s t u).1 ++ [aByte (((kindsV u).1.size : Int) + 1), 0] := by rw [aByte_zero]; simp
      simp only [hcd] at hi
      have HI13 := Lib.hid (show InS w ρ B kb xb w.heap.size (w.heap.size + 1) w2.heap.size w5.heap.size ⟨#[105]⟩ 1 m ⟨(σ.member 11 s t u).2, m.mv.code ++ [aByte c] ++ aBe2 (σ.member 11 s t u).1 ++ [aByte (((kindsV u).1.size : Int) + 1), 0], m.jumps, []⟩ w14 from hi)
      clear hi hcd
      go_wp2_with fail
      rw [rounds_succ]
      go_wp2_with (refine wpl_next_end (s := ⟨#[105]⟩) (pos := 1) rfl rfl rfl HI13.out.ib (by decide) ?_)
      refine ⟨rfl, .tuple #[], by simp [results, Tryd.results22], ?_⟩
      exact HI13.out.done (by rw [instr_go HC.out hc0 HNM.out HF.out HLEN.out, aOpers, oper_i (x := ⟨σ, m.mv.code ++ [aByte c], m.jumps, ws.drop 1⟩) hr]; rfl)
    · have hq : (((ws.length - 1 : Nat) : Int) == 3) = false := by rw [beq_eq_false_iff_ne]; omega
      have HP := Lib.hid (show σ.instr m ws = none from instr_len HC.out HF.out (show ws.length - 1 ≠ aWant [105] from hlen))
      clear hlen
      go_wp2_with (first | (refine wpl_next_end (s := ⟨#[105]⟩) (pos := 1) rfl rfl rfl HI1.out.ib (by decide) ?_) | (go_at_call 14; refine stop_here ?_))
      refine go_on ?_
      refine HI1.out.mustN.mono ?_
      rintro e w4 ⟨rfl, rfl⟩
      go_wp2_with fail
      exact (show _ ∧ _ from ⟨rfl, HI1.out.wrong HP.out⟩)
  · obtain rfl : cap = 1 := by omega
    go_wp2_with fail
    obtain ⟨w3, hw3⟩ : ∃ W, W = (w2.alloc (.cells #[.slice (some ⟨b, off, none⟩) 0 0] 39)).alloc (.stringIter ⟨#[105]⟩ 0) := ⟨_, rfl⟩
    have B3 := (B2.out.alloc (show w.heap.size ≤ w2.heap.size by omega) (.cells #[.slice (some ⟨b, off, none⟩) 0 0] 39)).alloc (by simp; omega) (.stringIter ⟨#[105]⟩ 0)
    have HB3 := (((Below.refl w2.heap.size w2).alloc (Nat.le_refl _) (.cells #[.slice (some ⟨b, off, none⟩) 0 0] 39)).alloc (by simp) (.stringIter ⟨#[105]⟩ 0))
    have HI0 := Lib.hid (show InS w ρ B kb xb w.heap.size (w.heap.size + 1) w2.heap.size (w2.heap.size + 1) ⟨#[105]⟩ 0 m ⟨σ, m.mv.code, m.jumps, ws.drop 1⟩ w3 from InS.start H.out HV.out HM.out (show Below w.heap.size w w3 by rw [hw3]; exact B3) (HW.out.rest0 (some ⟨b, off, none⟩) (Nat.le_refl _)) (by rw [hw3]; exact b12.out.below HB3 b12.out.lt) (by rw [hw3]; exact b42.out.below HB3 b42.out.lt) (by rw [hw3]; exact (bx_new w2 _ _).below ((Below.refl _ _).alloc (Nat.le_refl _) _) (by simp)) (by rw [hw3]; exact iter_heap_at _ _ (by simp) _ _) (Nat.le_refl _) (by omega) (by omega) (by omega) (by omega) (by omega) (by omega) (by omega) (by omega))
    clear B3 HB3
    first | rw [← hw3] | (rw [show (w2.alloc (.cells #[.slice (some ⟨b, off, none⟩) 0 0] 39)).iter ⟨#[105]⟩ 0 = w3 from hw3.symm])
    clear hw3
    refine wp_loop_rounds 2 ?_
    rw [rounds_succ]
    go_wp2_with (refine wpl_next (s := ⟨#[105]⟩) (pos := 0) rfl rfl rfl HI0.out.ib 105 (by rfl) (by omega) ?_; refine stop_here ?_)
    refine go_on ?_
    intro w3a hk hcl hfr hsz hh hbl
    have HI1 := Lib.hid (show InS w ρ B kb xb w.heap.size (w.heap.size + 1) w2.heap.size (w2.heap.size + 1) ⟨#[105]⟩ 1 m ⟨σ, m.mv.code, m.jumps, ws.drop 1⟩ w3a from HI0.out.turn hk hh hbl.out)
    clear hk hcl hfr hsz hh hbl
    go_wp2_with fail
    obtain ⟨ρ', V', U', A8, n8, c8, e8⟩ := HI1.out.ex
    have d1 := HI1.out.b1.cell 0 rfl
    have d4 := HI1.out.b4.cell 0 rfl
    have d8 := e8.q.cell 0 rfl
    obtain rfl : n8 = ws.length - 1 := by rw [e8.wd.len]; simp
    obtain ⟨Ac, cc, hcv⟩ := own_slice e8.mt.code.1
    have x6 : w3a.cell? ⟨xb, 6, none⟩ = some (.slice Ac m.mv.code.length cc) := by rw [← show U'.cv = .slice Ac m.mv.code.length cc from hcv]; exact e8.mt.box.cell 6 rfl
    clear e8 hcv
    rw [rounds_succ]
    have hlen : ¬ ws.length - 1 = 3 := by omega
    have hq : (((ws.length - 1 : Nat) : Int) == 3) = false := by rw [beq_eq_false_iff_ne]; omega
    have HP := Lib.hid (show σ.instr m ws = none from instr_len HC.out HF.out (show ws.length - 1 ≠ aWant [105] from hlen))
    clear hlen
    go_wp2_with (first | (refine wpl_next_end (s := ⟨#[105]⟩) (pos := 1) rfl rfl rfl HI1.out.ib (by decide) ?_) | (go_at_call 14; refine stop_here ?_))
    refine go_on ?_
    refine HI1.out.mustN.mono ?_
    rintro e w4 ⟨rfl, rfl⟩
    go_wp2_with fail
    exact (show _ ∧ _ from ⟨rfl, HI1.out.wrong HP.out⟩)
end Go.Proofs.YtlcidkiplidamaaDoor
set_option maxRecDepth 100000
set_option maxHeartbeats 2000000
namespace Go.Proofs.YtlcidkiplidamaaDoor
open Go Go.RowKit Lib Go.Maps
theorem instr_no (ρ : Nat → Nat) (B kb xb : Nat) (σ : AsK) (V : MkV) (m : AsM) (U : MtV) (A : Option Addr) (n cap : Nat) (ws : List ByteArray) (w : World) (hK : MkC w ρ B kb σ V) (hV : V.mv = .pointer (some ⟨xb, 0, none⟩)) (hM : MtC w ρ B xb m U) (hw : WdA w (Un ρ) A n cap ws) (hz : SmW ws) (hn : 0 < n)
    (c : Int) (hc : codeOf (ws.headD ⟨#[]⟩).data.toList = c) (hc0 : c < 0) :
    Calls Tryd.prog 22 #[.pointer (some ⟨kb, 0, none⟩), .slice A n cap] w (LPost [1, 2, 3, 4, 5, 6, 7, 8, 9, 10, 11, 12, 13] w ρ B kb σ.line (σ.instr m ws)) := by
  obtain ⟨b, off, hA, hb, hub, hcc⟩ := hw.hat hn
  subst hA
  have hle := hw.le
  have hmx := hw.max
  have hnw := hw.len
  subst hnw
  obtain ⟨s0, hs0⟩ : ∃ s, ws[0]? = some s := ⟨_, List.getElem?_eq_getElem hn⟩
  have hh : ws.headD ⟨#[]⟩ = s0 := by
    cases ws with
    | nil => cases hs0
    | cons a l => cases hs0; rfl
  have c0 := hcc 0 s0 hs0
  rw [Nat.add_zero] at c0
  have hc' : codeOf s0.data.toList = c := by rw [← hh]; exact hc
  have HFI := Lib.hid (show ∀ W : World, Calls Tryd.prog 40 #[.string s0] W fun e w' => e = .returned (.int .i64 c) ∧ Below W.heap.size W w' from fun W => by
    have := opsfind_any s0 W
    rw [ByteArray.toList_eq, hc'] at this
    exact this)
  have HI5 : -9223372036854775808 ≤ c ∧ c ≤ 9223372036854775807 := by
    have := codeOf_range (ws.headD ⟨#[]⟩).data.toList
    rw [hc] at this
    omega
  have hd0 : decide ((0 : Int) ≤ c) = false := by rw [decide_eq_false_iff_not]; omega
  have HP := Lib.hid (show σ.instr m ws = none from instr_neg (by rw [hc]; exact hc0))
  have H := Lib.hid hK
  have hkl := hK.box.lt
  have hB := hK.hB
  have c12 := hK.box.cell 12 rfl
  rw [hV] at c12
  obtain ⟨y1, y2, y3, y4, y5, y6, y7, y8, y9, y10, y11, y12⟩ := far kb w.heap.size hkl
  obtain ⟨x1, x2, x3, x4, x5, x6, x7, x8, x9, x10, x11, x12⟩ := far b w.heap.size hb
  clear hK hV hM hw hz hcc hs0 hh hc hc'
  go_enter Tryd.func22, Tryd.ntmps22
  go_wp2_with (go_at_call 40; refine stop_here ?_)
  refine go_on ?_
  refine (HFI.out _).mono ?_
  rintro e w1 ⟨rfl, hb1⟩
  have B1 := Lib.hid ((((Below.refl w.heap.size w).alloc (Nat.le_refl _) (.cells #[.pointer (some ⟨kb, 0, none⟩)] 46)).alloc (by simp) (.cells #[.pointer (some ⟨xb, 0, none⟩)] 48)).trans (hb1.mono (by simp; omega)))
  have b11 := Lib.hid (show Bx w1 w.heap.size [.pointer (some ⟨kb, 0, none⟩)] 46 from ((bx_new w [.pointer (some ⟨kb, 0, none⟩)] 46).below ((Below.refl _ _).alloc (Nat.le_refl _) (.cells #[.pointer (some ⟨xb, 0, none⟩)] 48)) (by simp)).below hb1 (by simp; omega))
  clear hb1 c12
  have d1 := b11.out.cell 0 rfl
  go_wp2_with (go_at_call 14; refine stop_here ?_)
  refine go_on ?_
  refine (must_no kb _ σ.line w1 (B1.out.block kb hkl |>.trans H.out.box) rfl).mono ?_
  rintro e w1' ⟨rfl, rfl⟩
  go_wp2_with fail
  exact (show _ ∧ _ from ⟨rfl, lpost_none HP.out (B1.out.mono hB)⟩)
theorem nm_ub {c : Int} (h : (rowOf c).2 = [117, 98]) : (rowOf c).1 ≠ [108, 100, 99] := by
  unfold rowOf at h ⊢
  cases hr : rowL.find? (fun r => r.1 == c) with
  | none => rw [hr] at h; cases h
  | some r =>
    rw [hr] at h
    have hall : ∀ r ∈ rowL, r.2.2 = [117, 98] → r.2.1 ≠ [108, 100, 99] := by decide
    exact hall r (List.mem_of_find?_eq_some hr) h
theorem instr_all : InstrC := by
  intro ρ B kb xb σ V m U A n cap ws w N hK hV hM hw hz hn hS hMS hN
  obtain ⟨c, hc⟩ : ∃ c, codeOf (ws.headD ⟨#[]⟩).data.toList = c := ⟨_, rfl⟩
  by_cases hc0 : c < 0
  · exact instr_no ρ B kb xb σ V m U A n cap ws w hK hV hM hw hz hn c hc hc0
  · have hf := rowA_forms c
    obtain ⟨nm, hnm⟩ : ∃ nm, (rowOf c).1 = nm := ⟨_, rfl⟩
    simp only [formsA, List.mem_cons, List.not_mem_nil, or_false] at hf
    rcases hf with hf | hf | hf | hf | hf | hf | hf | hf | hf | hf
    · exact instr_e ρ B kb xb σ V m U A n cap ws w N hK hV hM hw hz hn hS hMS hN c hc (by omega) nm hnm hf
    · exact instr_b ρ B kb xb σ V m U A n cap ws w N hK hV hM hw hz hn hS hMS hN c hc (by omega) nm hnm hf
    · by_cases hl : nm = [108, 100, 99]
      · exact instr_l ρ B kb xb σ V m U A n cap ws w N hK hV hM hw hz hn hS hMS hN c hc (by omega) nm hnm hf hl
      · exact instr_u ρ B kb xb σ V m U A n cap ws w N hK hV hM hw hz hn hS hMS hN c hc (by omega) nm hnm hf hl
    · exact instr_s ρ B kb xb σ V m U A n cap ws w N hK hV hM hw hz hn hS hMS hN c hc (by omega) nm hnm hf
    · exact instr_j ρ B kb xb σ V m U A n cap ws w N hK hV hM hw hz hn hS hMS hN c hc (by omega) nm hnm hf
    · exact instr_f ρ B kb xb σ V m U A n cap ws w N hK hV hM hw hz hn hS hMS hN c hc (by omega) nm hnm hf
    · exact instr_m ρ B kb xb σ V m U A n cap ws w N hK hV hM hw hz hn hS hMS hN c hc (by omega) nm hnm hf
    · exact instr_c ρ B kb xb σ V m U A n cap ws w N hK hV hM hw hz hn hS hMS hN c hc (by omega) nm hnm hf
    · exact instr_i ρ B kb xb σ V m U A n cap ws w N hK hV hM hw hz hn hS hMS hN c hc (by omega) nm hnm hf
    · exact instr_w ρ B kb xb σ V m U A n cap ws w N hK hV hM hw hz hn hS hMS hN c hc (by omega) nm hnm hf (by rintro rfl; exact absurd hnm (nm_ub hf))
theorem end_c : EndC := fun ρ B kb xb σ V m U w N hK hV hM hS hMS hN => end_any ρ B kb xb σ V m U w N hK hV hM hS hMS hN
theorem asm_all (text : ByteArray) (mx : Int) (w : World) (hmx : w.cell? ⟨Tryd.maxB, 0, none⟩ = some (.int .i64 mx)) (hts : text.size ≤ 1000000) (hls : ∀ s ∈ aLines text, Mute s ∨ s.size ≤ 65536) :
    Calls Tryd.prog 7 #[.string text] w (AsmPost w (aAsm checkF text)) := asm_any instr_all end_c text mx w hmx hts hls
end Go.Proofs.YtlcidkiplidamaaDoor
namespace Go.Proofs.YtlcidkiplidamaaDoor
open Go Go.RowKit Lib
theorem cut_line (l r : List UInt8) (h : (10 : UInt8) ∉ l) : cutL (l ++ 10 :: r) = l :: cutL r := by
  induction l with
  | nil => rw [List.nil_append, cutL, if_pos rfl]
  | cons c l ih =>
    rw [List.cons_append, cutL, if_neg (fun e => h (by simp [e])), ih (fun hm => h (by simp [hm]))]
def joinL (ls : List (List UInt8)) : List UInt8 := (ls.map (· ++ [10])).flatten
theorem joinL_cons (l : List UInt8) (ls : List (List UInt8)) : joinL (l :: ls) = l ++ 10 :: joinL ls := by simp [joinL]
theorem cut_join (ls : List (List UInt8)) (h : ∀ l ∈ ls, (10 : UInt8) ∉ l) : cutL (joinL ls) = ls ++ [[]] := by
  induction ls with
  | nil => rfl
  | cons l ls ih =>
    rw [joinL_cons, cut_line _ _ (h l (by simp)), ih (fun x hx => h x (by simp [hx]))]
    rfl
theorem lines_join (ls : List (List UInt8)) (h : ∀ l ∈ ls, (10 : UInt8) ∉ l) : linesL (joinL ls) = ls := by
  unfold linesL
  rw [cut_join ls h, if_pos]
  · simp
  · rw [List.getLastD_eq_getLast?, List.getLast?_concat]
    rfl
def bytesB (l : List UInt8) : ByteArray := ⟨l.toArray⟩
theorem alines_join {text : ByteArray} {ls : List (List UInt8)} (ht : text.data.toList = joinL ls) (h : ∀ l ∈ ls, (10 : UInt8) ∉ l) : aLines text = ls.map bytesB := by
  have h1 := lines_list text
  rw [ht, lines_join ls h] at h1
  rw [← h1, List.map_map]
  conv => lhs; rw [← List.map_id (aLines text)]
  refine List.map_congr_left fun x _ => ?_
  simp [bytesB]
theorem aRun_append (a b : List ByteArray) (i : Nat) (σ : AsK) : aRun (a ++ b) i σ = match aRun a i σ with | .error e => .error e | .ok x => aRun b (i + a.length) x := by
  induction a generalizing i σ with
  | nil => rfl
  | cons s l ih =>
    rw [List.cons_append, aRun, aRun]
    cases AsK.doLine { σ with line := i + 1 } s with
    | error e => rfl
    | ok x =>
      simp only
      rw [ih]
      simp only [List.length_cons]
      rw [show i + 1 + l.length = i + (l.length + 1) by omega]
end Go.Proofs.YtlcidkiplidamaaDoor
set_option maxRecDepth 100000
namespace Go.Proofs.YtlcidkiplidamaaDoor
open Go Go.RowKit Lib
def lClass : List UInt8 := [99, 108, 97, 115, 115, 32, 65, 32, 115, 117, 112, 101, 114]
def lMeth : List UInt8 := [109, 101, 116, 104, 111, 100, 32, 109, 32, 40, 41, 86, 32, 115, 116, 97, 116, 105, 99]
def lLdc : List UInt8 := [108, 100, 99, 32, 55]
def lInv : List UInt8 := [105, 110, 118, 111, 107, 101, 115, 116, 97, 116, 105, 99, 32, 65, 32, 102, 32, 40, 73, 41, 86]
def lNew : List UInt8 := [110, 101, 119, 32, 65]
def lPop : List UInt8 := [112, 111, 112]
def lRet : List UInt8 := [114, 101, 116, 117, 114, 110]
def lEnd : List UInt8 := [101, 110, 100]
def poolS : List Ko := [⟨1, ⟨#[65]⟩, 0, 0, 0⟩, ⟨7, ⟨#[]⟩, 0, 1, 0⟩, ⟨1, ⟨#[106, 97, 118, 97, 47, 108, 97, 110, 103, 47, 79, 98, 106, 101, 99, 116]⟩, 0, 0, 0⟩, ⟨7, ⟨#[]⟩, 0, 3, 0⟩, ⟨1, ⟨#[109]⟩, 0, 0, 0⟩, ⟨1, ⟨#[40, 41, 86]⟩, 0, 0, 0⟩, ⟨1, ⟨#[67, 111, 100, 101]⟩, 0, 0, 0⟩]
def poolO : List Ko := [⟨1, ⟨#[65]⟩, 0, 0, 0⟩, ⟨7, ⟨#[]⟩, 0, 1, 0⟩, ⟨1, ⟨#[106, 97, 118, 97, 47, 108, 97, 110, 103, 47, 79, 98, 106, 101, 99, 116]⟩, 0, 0, 0⟩, ⟨7, ⟨#[]⟩, 0, 3, 0⟩, ⟨1, ⟨#[109]⟩, 0, 0, 0⟩, ⟨1, ⟨#[40, 41, 86]⟩, 0, 0, 0⟩, ⟨1, ⟨#[67, 111, 100, 101]⟩, 0, 0, 0⟩, ⟨3, ⟨#[]⟩, 7, 0, 0⟩, ⟨1, ⟨#[102]⟩, 0, 0, 0⟩, ⟨1, ⟨#[40, 73, 41, 86]⟩, 0, 0, 0⟩, ⟨12, ⟨#[]⟩, 0, 9, 10⟩, ⟨10, ⟨#[]⟩, 0, 2, 11⟩]
def stS (pool : List Ko) (line : Nat) (first : Bool) (code : List UInt8) : AsK := ⟨⟨0, 52, pool, 32, 2, 4, [], [], []⟩, 5, line, some ⟨⟨8, 5, 6, true, 8, 4, code, []⟩, 2, first, [], [], []⟩⟩
theorem head_run (l : List ByteArray) : aRun (bytesB lClass :: bytesB lMeth :: l) 0 .new = aRun l 2 (stS poolS 2 true []) := by kernel_rfl
theorem once_first : aRun [bytesB lLdc, bytesB lInv, bytesB lNew, bytesB lPop] 2 (stS poolS 2 true []) = .ok (stS poolO 6 false [18, 8, 184, 0, 12, 187, 0, 2, 87]) := by kernel_rfl
theorem once_block (i : Nat) (code : List UInt8) : aRun [bytesB lLdc, bytesB lInv, bytesB lNew, bytesB lPop] i (stS poolO i false code) = .ok (stS poolO (i + 4) false (code ++ [18, 8, 184, 0, 12, 187, 0, 2, 87])) := by
  have h : aRun [bytesB lLdc, bytesB lInv, bytesB lNew, bytesB lPop] i (stS poolO i false code) = .ok (stS poolO (i + 4) false (((((((code ++ [18]) ++ [8]) ++ [184]) ++ [0, 12] ++ []) ++ [187]) ++ [0, 2]) ++ [87])) := by kernel_rfl
  rw [h]
  simp
theorem once_blocks (k : Nat) (i : Nat) (code : List UInt8) : aRun (List.replicate k [bytesB lLdc, bytesB lInv, bytesB lNew, bytesB lPop]).flatten i (stS poolO i false code) = .ok (stS poolO (i + 4 * k) false (code ++ (List.replicate k [18, 8, 184, 0, 12, 187, 0, 2, 87]).flatten)) := by
  induction k generalizing i code with
  | zero => simp [aRun]
  | succ k ih =>
    rw [List.replicate_succ, List.flatten_cons, aRun_append, once_block]
    simp only [List.length_cons, List.length_nil]
    rw [ih]
    congr 2
    · omega
    · rw [List.replicate_succ, List.flatten_cons, List.append_assoc]
def clsS (pool : List Ko) (code : List UInt8) : ClassV := ⟨0, 52, pool, 32, 2, 4, [], [], [⟨8, 5, 6, true, 8, 4, code, []⟩]⟩
theorem tail_run (pool : List Ko) (i : Nat) (code : List UInt8) : aRun [bytesB lRet, bytesB lEnd] i (stS pool i false code) = .ok ⟨clsS pool (code ++ [177]), 5, i + 1 + 1, none⟩ := by kernel_rfl
theorem long_clsS (pool : List Ko) (code : List UInt8) (hp : pool.length ≤ 1024) (hc : code.length ≤ 4096) : longC (clsS pool code) = false := by
  have h1 : ¬ 1024 < pool.length := by omega
  have h2 : ¬ 4096 < code.length := by omega
  simp [longC, clsS, longM, h1, h2]
theorem once_check (u : UInt8) (t : List UInt8) (h : (u :: t).length ≤ 4096) : checkF (clsS poolO (u :: t)) = 0 := by
  unfold checkF checkE
  rw [long_clsS _ _ (by decide) h, if_neg (by simp)]
  kernel_rfl
theorem asm_made {ck : ClassV → Int} {text : ByteArray} {ls : List (List UInt8)} {σ : AsK} (ht : text.data.toList = joinL ls) (h : ∀ l ∈ ls, (10 : UInt8) ∉ l) (hb : text.size ≤ 262144) (hl : ls.length ≤ 8000) (hr : aRun (ls.map bytesB) 0 .new = .ok σ) (hm : σ.m = none) (hp : σ.part ≠ 0)
    (hc : ck σ.object.c = 0) : aAsm ck text = .ok σ.object.c := by
  unfold aAsm
  rw [alines_join ht h, if_neg (by simp; omega), hr]
  simp only [hm]
  rw [if_neg hp]
  simp [hc]
def onceLines (n : Nat) : List (List UInt8) := [lClass, lMeth] ++ (List.replicate n [lLdc, lInv, lNew, lPop]).flatten ++ [lRet, lEnd]
theorem once_plain (n : Nat) (h1 : 1 ≤ n) (h2 : n ≤ 200) (text : ByteArray) (ht : text.data.toList = joinL (onceLines n)) :
    aAsm checkF text = .ok (clsS poolO ((List.replicate n [18, 8, 184, 0, 12, 187, 0, 2, 87]).flatten ++ [177])) := by
  obtain ⟨k, rfl⟩ : ∃ k, n = k + 1 := ⟨n - 1, by omega⟩
  have hlen : (onceLines (k + 1)).length = 4 * k + 8 := by simp [onceLines]; omega
  have hcl : ((List.replicate (k + 1) [(18 : UInt8), 8, 184, 0, 12, 187, 0, 2, 87]).flatten ++ [177]).length = 9 * (k + 1) + 1 := by simp; omega
  have hsz : text.size ≤ 262144 := by
    have e : text.data.toList.length = text.size := Array.length_toList
    have hj : ∀ ls : List (List UInt8), (joinL ls).length = (ls.map (·.length)).sum + ls.length := fun ls => by
      induction ls with
      | nil => rfl
      | cons a b ih => rw [joinL_cons]; simp [ih]; omega
    rw [← e, ht, hj, hlen]
    have hs : ∀ k : Nat, (((List.replicate k [lLdc, lInv, lNew, lPop]).flatten).map (·.length)).sum = 34 * k := by
      intro k
      induction k with
      | zero => rfl
      | succ k ih =>
        rw [List.replicate_succ, List.flatten_cons, List.map_append, List.sum_append, ih]
        simp [lLdc, lInv, lNew, lPop]
        omega
    unfold onceLines
    rw [List.map_append, List.map_append, List.sum_append, List.sum_append, hs]
    simp [lClass, lMeth, lRet, lEnd]
    omega
  have hr : aRun ((onceLines (k + 1)).map bytesB) 0 .new = .ok ⟨clsS poolO ((List.replicate (k + 1) [18, 8, 184, 0, 12, 187, 0, 2, 87]).flatten ++ [177]), 5, 6 + 4 * k + 1 + 1, none⟩ := by
    have e : (onceLines (k + 1)).map bytesB = bytesB lClass :: bytesB lMeth :: ([bytesB lLdc, bytesB lInv, bytesB lNew, bytesB lPop] ++ ((List.replicate k [bytesB lLdc, bytesB lInv, bytesB lNew, bytesB lPop]).flatten ++ [bytesB lRet, bytesB lEnd])) := by
      simp [onceLines, List.replicate_succ, List.map_flatten]
    rw [e, head_run, aRun_append, once_first]
    simp only
    rw [aRun_append]
    have h6 : 2 + [bytesB lLdc, bytesB lInv, bytesB lNew, bytesB lPop].length = 6 := rfl
    rw [h6, once_blocks]
    simp only
    have h7 : 6 + (List.replicate k [bytesB lLdc, bytesB lInv, bytesB lNew, bytesB lPop]).flatten.length = 6 + 4 * k := by simp; omega
    rw [h7, tail_run, List.replicate_succ, List.flatten_cons]
  have h10 : ∀ l ∈ onceLines (k + 1), (10 : UInt8) ∉ l := by
    intro l hl
    unfold onceLines at hl
    have hm : l ∈ [lClass, lMeth, lLdc, lInv, lNew, lPop, lRet, lEnd] := by
      rcases List.mem_append.1 hl with hl | hl
      · rcases List.mem_append.1 hl with hl | hl
        · simp at hl ⊢; rcases hl with rfl | rfl <;> simp
        · obtain ⟨x, hx, hlx⟩ := List.mem_flatten.1 hl
          rw [(List.mem_replicate.1 hx).2] at hlx
          simp at hlx ⊢
          rcases hlx with rfl | rfl | rfl | rfl <;> simp
      · simp at hl ⊢; rcases hl with rfl | rfl <;> simp
    clear hl
    revert l
    decide
  have hob : ∀ c : ClassV, (⟨c, 5, 6 + 4 * k + 1 + 1, none⟩ : AsK).object.c = c := fun c => rfl
  have hck : checkF (clsS poolO ((List.replicate (k + 1) [18, 8, 184, 0, 12, 187, 0, 2, 87]).flatten ++ [177])) = 0 := by
    rw [List.replicate_succ, List.flatten_cons] at hcl ⊢
    exact once_check _ _ (Nat.le_trans (Nat.le_of_eq hcl) (by omega))
  exact asm_made ht h10 hsz (by omega) hr rfl (by simp) hck
end Go.Proofs.YtlcidkiplidamaaDoor
set_option maxRecDepth 100000
namespace Go.Proofs.YtlcidkiplidamaaDoor
open Go Go.RowKit Lib
def flW (i : Nat) : List UInt8 := if i = 0 then [112, 117, 98, 108, 105, 99] else if i = 1 then [102, 105, 110, 97, 108] else [115, 117, 112, 101, 114]
def flN (i : Nat) : Int := if i = 0 then 1 else if i = 1 then 16 else 32
def flS (bits : Nat) (back : Bool) : Nat → List UInt8 × Int × List UInt8
  | 0 => ([], 0, [])
  | i + 1 => let p := flS bits back i
    if bits / 2 ^ i % 2 = 0 then p else (if back then 32 :: flW i ++ p.1 else p.1 ++ 32 :: flW i, p.2.1 + flN i, flW i)
def flT (bits : Nat) (back twice : Bool) : List UInt8 := (flS bits back 3).1 ++ (if twice = true ∧ (flS bits back 3).2.2 ≠ [] then 32 :: (flS bits back 3).2.2 else [])
def flText (bits : Nat) (back twice : Bool) : List UInt8 := [99, 108, 97, 115, 115, 32, 65] ++ flT bits back twice ++ [10]
def flOk (bits : Nat) (back twice : Bool) : Bool := match aAsm checkF (bytesB (flText bits back twice)) with
  | .error (n, e) => decide (twice = true ∧ (flS bits back 3).2.2 ≠ []) && decide (e = 60) && decide (n = 1)
  | .ok c => !decide (twice = true ∧ (flS bits back 3).2.2 ≠ []) && decide (c.acc = (flS bits back 3).2.1) && decide (c.this = 2) && decide (c.sup = 4)
theorem flags_plain : ∀ bits < 8, ∀ back twice : Bool, flOk bits back twice = true := by decide +kernel
end Go.Proofs.YtlcidkiplidamaaDoor
set_option maxRecDepth 100000
namespace Go.Proofs.YtlcidkiplidamaaDoor
open Go Go.RowKit Lib
def aliveT : ByteArray := ⟨#[99, 108, 97, 115, 115, 32, 65, 32, 112, 117, 98, 108, 105, 99, 32, 115, 117, 112, 101, 114, 10, 102, 105, 101, 108, 100, 32, 120, 32, 73, 32, 112, 117, 98, 108, 105, 99, 32, 115, 116, 97, 116, 105, 99, 32, 61, 32, 55, 10, 109, 101, 116, 104, 111, 100, 32, 60, 99, 108, 105, 110, 105, 116, 62, 32, 40, 41, 86, 32, 115, 116, 97, 116, 105, 99, 10, 103, 101, 116, 115, 116, 97, 116, 105, 99, 32, 65, 32, 120, 32, 73, 10, 105, 110, 118, 111, 107, 101, 115, 116, 97, 116, 105, 99, 32, 118, 109, 47, 83, 121, 115, 32, 112, 114, 105, 110, 116, 32, 40, 73, 41, 86, 10, 114, 101, 116, 117, 114, 110, 10, 101, 110, 100, 10]⟩
def aliveOk : Bool := match aAsm checkF aliveT with
  | .error _ => false
  | .ok c => decide (c.pool.length = 19) && (match c.mths with | [m] => decide (m.code = [178, 0, 13, 184, 0, 19, 177]) | _ => false)
theorem alive_plain : aliveOk = true := by decide +kernel
theorem empty_plain : aAsm checkF ⟨#[]⟩ = .error (0, 60) := by kernel_rfl
end Go.Proofs.YtlcidkiplidamaaDoor
