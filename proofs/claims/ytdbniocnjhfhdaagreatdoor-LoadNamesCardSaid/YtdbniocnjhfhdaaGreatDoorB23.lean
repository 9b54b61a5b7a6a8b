/-
  What the loader's laws rest on, part 23: walks of the program's functions and plain laws. Conditions: none but those that each theorem names.
-/
import Derived.Test.YtdbniocnjhfhdaaGreatDoorB01
import Derived.Test.YtdbniocnjhfhdaaGreatDoorB22
import Derived.Test.YtdbniocnjhfhdaaGreatDoorB04
/-
  load.Loader.Define: its answer, and what it leaves of the definitions.
-/
set_option linter.unusedSimpArgs false
set_option linter.unusedVariables false
set_option maxRecDepth 100000
set_option maxHeartbeats 1000000
namespace Go.Proofs.YtdbniocnjhfhdaaGreatDoor
open Go Go.RowKit Lib Go.Maps
theorem zeroB (w : World) : (zeroValue 27).run Tryz.prog w = .ok (.slice none 0 0) w := by kernel_rfl
def defE (c o big twice full : Bool) : Int := if !c || o then 21 else if big then 2 else if twice then 24 else if full then 42 else 0
theorem define_name (lb bd n sz : Nat) (f : List UInt8 → Option Value) (s : ByteArray) (A : Option Addr) (len cap : Nat) (w : World) (hlb : lb < w.heap.size) (hc : w.cell? ⟨lb, 0, none⟩ = some (.map (some bd)))
    (hM : MapS w Tryz.prog 9 bd n f sz) (hs : s.size ≤ 9223372036854775807) (hbad : classB s.data.toList = false ∨ ownB s.data.toList = true) :
    Calls Tryz.prog 15 #[.pointer (some ⟨lb, 0, none⟩), .string s, .slice A len cap] w fun e w' => e = .returned (.int .i64 21) ∧ Below w.heap.size w w' := by
  have hs' : s.size ≤ maxLen := hs
  obtain ⟨V, hV⟩ : ∃ V, (f s.data.toList).getD (.slice none 0 0) = V := ⟨_, rfl⟩
  obtain ⟨T, hT⟩ : ∃ T, (f s.data.toList).isSome = T := ⟨_, rfl⟩
  have HM := Lib.hid hM
  have HV := Lib.hid hV
  have HT := Lib.hid hT
  obtain ⟨C, hC⟩ : ∃ C, classB s.data.toList = C := ⟨_, rfl⟩
  obtain ⟨O, hO⟩ : ∃ O, ownB s.data.toList = O := ⟨_, rfl⟩
  have HC := Lib.hid fun W => class_any s W hs
  have HO := Lib.hid fun W => own_any s W
  rw [hC] at HC hbad
  rw [hO] at HO hbad
  clear hM hV hT hC hO
  cases C
  · clear hbad
    go_enter Tryz.func15, Tryz.ntmps15
    go_wp2_with (at_lookup; refine wpl_look rfl _ _ rfl Tryz.underlying9 Tryz.underlying61 (zeroB _) rfl HM.out rfl hs' ?_; rw [HV.out, HT.out]; refine stop_here ?_)
    refine go_on ?_
    go_wp2_with (go_at_call 29; refine (HC.out _).mono ?_; rintro e w1 ⟨rfl, hb1⟩; have HB1 := Lib.hid hb1; clear hb1)
    go_ret
    exact ⟨rfl, HB1.out⟩
  · have hO1 : O = true := by simpa using hbad
    subst hO1
    clear hbad
    go_enter Tryz.func15, Tryz.ntmps15
    go_wp2_with (at_lookup; refine wpl_look rfl _ _ rfl Tryz.underlying9 Tryz.underlying61 (zeroB _) rfl HM.out rfl hs' ?_; rw [HV.out, HT.out]; refine stop_here ?_)
    refine go_on ?_
    go_wp2_with (first | (go_at_call 29; refine (HC.out _).mono ?_; rintro e w1 ⟨rfl, hb1⟩; have HB1 := Lib.hid hb1; clear hb1) | (go_at_call 30; refine (HO.out _).mono ?_; rintro e w2 ⟨rfl, rfl⟩))
    go_ret
    exact ⟨rfl, HB1.out⟩
theorem define_more (lb bd n sz : Nat) (f : List UInt8 → Option Value) (s : ByteArray) (A : Option Addr) (len cap : Nat) (w : World) (hlb : lb < w.heap.size) (hc : w.cell? ⟨lb, 0, none⟩ = some (.map (some bd)))
    (hM : MapS w Tryz.prog 9 bd n f sz) (hs : s.size ≤ 9223372036854775807) (hm : len ≤ 9223372036854775807) (hcl : classB s.data.toList = true) (how : ownB s.data.toList = false) (hno : 65536 < len ∨ (f s.data.toList).isSome = true ∨ 64 ≤ sz) (hsz : sz ≤ 9223372036854775807) :
    Calls Tryz.prog 15 #[.pointer (some ⟨lb, 0, none⟩), .string s, .slice A len cap] w fun e w' => e = .returned (.int .i64 (if 65536 < len then 2 else if (f s.data.toList).isSome = true then 24 else 42)) ∧ Below w.heap.size w w' := by
  have hs' : s.size ≤ maxLen := hs
  obtain ⟨V, hV⟩ : ∃ V, (f s.data.toList).getD (.slice none 0 0) = V := ⟨_, rfl⟩
  obtain ⟨T, hT⟩ : ∃ T, (f s.data.toList).isSome = T := ⟨_, rfl⟩
  rw [hT] at hno ⊢
  have HM := Lib.hid hM
  have HV := Lib.hid hV
  have HT := Lib.hid hT
  have HC := Lib.hid fun W => class_any s W hs
  have HO := Lib.hid fun W => own_any s W
  rw [hcl] at HC
  rw [how] at HO
  have hbd := hM.lt
  clear hM hV hT hcl how
  by_cases hbig : 65536 < len
  · rw [if_pos hbig]
    clear hno
    go_enter Tryz.func15, Tryz.ntmps15
    go_wp2_with (at_lookup; refine wpl_look rfl _ _ rfl Tryz.underlying9 Tryz.underlying61 (zeroB _) rfl HM.out rfl hs' ?_; rw [HV.out, HT.out]; refine stop_here ?_)
    refine go_on ?_
    go_wp2_with (first | (go_at_call 29; refine (HC.out _).mono ?_; rintro e w1 ⟨rfl, hb1⟩; have HB1 := Lib.hid hb1; clear hb1) | (go_at_call 30; refine (HO.out _).mono ?_; rintro e w2 ⟨rfl, rfl⟩))
    go_ret
    exact ⟨rfl, HB1.out⟩
  · rw [if_neg hbig]
    cases T
    · have hfull : 64 ≤ sz := by simpa [hbig] using hno
      rw [if_neg (by simp)]
      clear hno
      go_enter Tryz.func15, Tryz.ntmps15
      go_wp2_with (at_lookup; refine wpl_look rfl _ _ rfl Tryz.underlying9 Tryz.underlying61 (zeroB _) rfl HM.out rfl hs' ?_; rw [HV.out, HT.out]; refine stop_here ?_)
      refine go_on ?_
      go_wp2_with (first | (go_at_call 29; refine (HC.out _).mono ?_; rintro e w1 ⟨rfl, hb1⟩; have HB1 := Lib.hid hb1; have c1 := (hb1.cell (p := ⟨lb, 0, none⟩) hlb).trans hc; have HM1 := Lib.hid (HM.out.keep (hb1.block bd hbd)); clear hb1) | (go_at_call 30; refine (HO.out _).mono ?_; rintro e w2 ⟨rfl, rfl⟩) | (at_len; refine wpl_mlen rfl _ rfl Tryz.underlying61 rfl HM1.out ?_))
      go_ret
      exact ⟨rfl, HB1.out⟩
    · rw [if_pos rfl]
      clear hno
      go_enter Tryz.func15, Tryz.ntmps15
      go_wp2_with (at_lookup; refine wpl_look rfl _ _ rfl Tryz.underlying9 Tryz.underlying61 (zeroB _) rfl HM.out rfl hs' ?_; rw [HV.out, HT.out]; refine stop_here ?_)
      refine go_on ?_
      go_wp2_with (first | (go_at_call 29; refine (HC.out _).mono ?_; rintro e w1 ⟨rfl, hb1⟩; have HB1 := Lib.hid hb1; clear hb1) | (go_at_call 30; refine (HO.out _).mono ?_; rintro e w2 ⟨rfl, rfl⟩))
      go_ret
      exact ⟨rfl, HB1.out⟩
theorem define_ok (lb bd n sz : Nat) (f : List UInt8 → Option Value) (s : ByteArray) (A : Option Addr) (len cap : Nat) (l : List UInt8) (w : World) (hlb : lb < w.heap.size) (hc : w.cell? ⟨lb, 0, none⟩ = some (.map (some bd)))
    (hM : MapS w Tryz.prog 9 bd n f sz) (hs : s.size ≤ 9223372036854775807) (hr : RdB w A len cap l) (hcl : classB s.data.toList = true) (how : ownB s.data.toList = false) (hlen : len ≤ 65536) (hf : f s.data.toList = none) (hsz : sz < 64) (hn : n < maxLen) :
    Calls Tryz.prog 15 #[.pointer (some ⟨lb, 0, none⟩), .string s, .slice A len cap] w fun e w' => e = .returned (.int .i64 0) ∧
      ∃ v, MapS w' Tryz.prog 9 bd (n + 1) (putF f s.data.toList v) (sz + 1) ∧ w'.ownsRow w.heap.size 5 1 v len (l.map bV) ∧ But w.heap.size [bd] w w' := by
  have hs' : s.size ≤ maxLen := hs
  have HM := Lib.hid hM
  have HF := Lib.hid hf
  have HC := Lib.hid fun W => class_any s W hs
  have HO := Lib.hid fun W => own_any s W
  rw [hcl] at HC
  rw [how] at HO
  have hbd := hM.lt
  have HR := Lib.hid hr
  have HL := Lib.hid hr.hlen
  clear hM hf hcl how hr
  go_enter Tryz.func15, Tryz.ntmps15
  go_wp2_with (at_lookup; refine wpl_look rfl _ _ rfl Tryz.underlying9 Tryz.underlying61 (zeroB _) rfl HM.out rfl hs' ?_; rw [HF.out]; refine stop_here ?_)
  refine go_on ?_
  go_wp2_with (first | (go_at_call 29; refine (HC.out _).mono ?_; rintro e w1 ⟨rfl, hb1⟩; have HB1 := Lib.hid hb1; have c1 := (hb1.cell (p := ⟨lb, 0, none⟩) hlb).trans hc; have HM1 := Lib.hid (HM.out.keep (hb1.block bd hbd)); have hz1 := hb1.size; have HR1 := Lib.hid (HR.out.below hb1); clear hb1) | (go_at_call 30; refine (HO.out _).mono ?_; rintro e w2 ⟨rfl, rfl⟩) | (at_len; refine wpl_mlen rfl _ rfl Tryz.underlying61 rfl HM1.out ?_))
  have HSRC := Lib.hid (HR1.out.below (Below.refl _ _).drew).src
  go_region_law (refine step_own rfl (.const (.slice none 0 0)) (.tmp 44) 27 rfl Tryz.underlying27 info_u8 rfl (by omega) w.heap.size rfl (World.ownsRow_nil _ _ _ _) rfl (by rw [List.length_map, Nat.mul_one]; exact HL.out.symm) HSRC.out (bV_one l) (by simp only [maxLen]; omega) (by omega) hz1 ?_
                 intro v' W' ho hg hb
                 obtain ⟨w9, hrun, hM9, hg9⟩ := ((HM1.out.keep (w' := World.drew _) rfl).keep (hb.block bd hbd)).store Tryz.underlying9 Tryz.underlying61 hn hs' v'
                 have c2 := (hb.cell (p := ⟨lb, 0, none⟩) hlb).trans c1
                 have HM9 := Lib.hid hM9
                 have HO9 := Lib.hid (own_heap ho fun q hq => hg9.block q (ho.lt q hq).2 (fun e => by injection e with e; have := (ho.lt q hq).1; omega))
                 have HB9 := Lib.hid ((But.of_below (S := [bd]) (HB1.out.drew.trans hb)).grown hg9 (Nat.le_trans hz1 hb.size) (fun k hk => by injection hk with hk; left; simp [hk]))
                 clear ho hg hb hM9 hg9)
  all_goals go_wp2_with fail
  all_goals go_ret
  all_goals
    refine ⟨rfl, _, ?_, own_eq HO9.out (Nat.zero_add _) (List.nil_append _), HB9.out⟩
    have := HM9.out
    rw [HF.out] at this
    exact this
end Go.Proofs.YtdbniocnjhfhdaaGreatDoor
/-
  The loader: Define, at the general state.
-/
set_option linter.unusedSimpArgs false
set_option linter.unusedVariables false
set_option maxRecDepth 100000
set_option maxHeartbeats 1000000
namespace Go.Proofs.YtdbniocnjhfhdaaGreatDoor
open Go Go.RowKit Lib Go.Maps
theorem own_rdB {w : World} {base : Nat} {e : TypeId} {v : Value} {n : Nat} {l : List UInt8} (h : w.ownsRow base e 1 v n (l.map bV)) : ∃ A cap, v = .slice A n cap ∧ RdB w A n cap l ∧ ∀ a, A = some a → v.ownBlock = some a.block := by
  rcases id h.2 with ⟨rfl, h0⟩ | ⟨g, cap, cur, rfl, hb, hg, hnc, hcm, hcs, hx⟩
  · subst h0
    have hl : l = [] := by
      have hl := h.1
      simp at hl
      exact hl
    subst hl
    exact ⟨_, _, rfl, ⟨rfl, Nat.le_refl _, by omega, fun h0 => absurd h0 (Nat.lt_irrefl _)⟩, fun a e => by cases e⟩
  · exact ⟨_, _, rfl, rdB_own h, fun a e => by cases e; rfl⟩
def putL (defs : List UInt8 → Option (List UInt8)) (k : List UInt8) (l : List UInt8) (s : List UInt8) : Option (List UInt8) := if s = k then some l else defs s
section
variable {B : Nat} {L : LPos} {nd : Nat} {defs : List UInt8 → Option (List UInt8)} {files : List UInt8 → Option ClassV} {ks going : List (List UInt8)} {ts : List TyV} {v : Value} {W W' : World}
/-- A definition more. -/
theorem LdG.putd (h : LdG B L nd defs files ks going ts v W) {fd : List UInt8 → Option Value} {k0 l : List UInt8} {x : Value} {n m : Nat} (h2 : ∀ s, DefAt W (L.ro v) (defs s) (fd s)) (hx : DefAt W' (L.ro v) (some l) (some x)) (hM : MapS W' Tryz.prog 9 L.bd n (putF fd k0 x) m) (hb : But W.heap.size [L.bd] W W') :
    LdG B L m (putL defs k0 l) files ks going ts v W' := by
  have ho := h.ord
  have hlt := h.lt
  have hS : ∀ q, q ∈ [L.bd] → q = L.bd := fun q hq => by simpa using hq
  have hc : ∀ o, W'.cell? ⟨L.lb, o, none⟩ = W.cell? ⟨L.lb, o, none⟩ := fun o => hb.cell (p := ⟨L.lb, o, none⟩) h.lt (fun hm => by have := hS _ hm; simp at this; omega)
  have hkp : Kept (L.ro v) W W' := Kept.of_but hb fun g hg hm => hg.2.1 (hS g hm)
  obtain ⟨ff, n1, f0, f1, f2⟩ := h.hf
  obtain ⟨n2, k0', k1⟩ := h.hk
  obtain ⟨n3, g0, g1⟩ := h.hg
  refine ⟨(hc 0).trans h.c0, (hc 1).trans h.c1, (hc 2).trans h.c2, (hc 3).trans h.c3, (hc 4).trans h.c4, fun o => (hb.frozen (p := ⟨L.lb, o, none⟩) h.lt (fun hm => by have := hS _ hm; simp at this; omega)).trans (h.fz o),
    ⟨_, hM.tight, fun s => ?_⟩, ⟨ff, n1, f0, f1.but hb f1.lt (fun hm => by have := hS _ hm; omega), fun s => (f2 s).keep hkp fun g _ hg => hg⟩,
    ⟨n2, k0', k1.but hb k1.lt (fun hm => by have := hS _ hm; omega)⟩, ⟨n3, g0, g1.but hb g1.lt (fun hm => by have := hS _ hm; omega)⟩, own_heap h.ty fun q hq => hb.block q (h.ty.lt q hq).2 (fun hm => (h.new q hq).2.1 (hS q hm)), fun t ht => (h.rd t ht).keep hkp fun g _ hg => hg, h.ord, h.new, Nat.lt_of_lt_of_le h.lt hb.size, Nat.lt_of_lt_of_le h.exl hb.size, h.newx, h.nex⟩
  unfold putF putL
  by_cases hs : s = k0
  · rw [if_pos hs, if_pos hs]
    exact hx
  · rw [if_neg hs, if_neg hs]
    exact (h2 s).keep hkp fun g _ hg => hg
theorem LdG.defNone (h : LdG B L nd defs files ks going ts v W) : ∃ fd, MapS W Tryz.prog 9 L.bd nd fd nd ∧ (∀ s, DefAt W (L.ro v) (defs s) (fd s)) ∧ ∀ s, defs s = none → fd s = none := by
  obtain ⟨fd, d1, d2⟩ := h.hd
  exact ⟨fd, d1, d2, fun s hs => by have := d2 s; rw [hs] at this; exact this⟩
theorem defineG (h : LdG B L nd defs files ks going ts v W) (s : ByteArray) (A : Option Addr) (len cap : Nat) (l : List UInt8) (hs : s.size ≤ 9223372036854775807) (hr : RdB W A len cap l) (hcl : classB s.data.toList = true) (how : ownB s.data.toList = false) (hlen : len ≤ 65536) (hf : defs s.data.toList = none) (hsz : nd < 64) :
    Calls Tryz.prog 15 #[.pointer (some ⟨L.lb, 0, none⟩), .string s, .slice A len cap] W fun e w' => e = .returned (.int .i64 0) ∧ LdG B L (nd + 1) (putL defs s.data.toList l) files ks going ts v w' ∧ But W.heap.size [L.bd] W w' := by
  obtain ⟨fd, d1, d2, d3⟩ := h.defNone
  refine (define_ok L.lb L.bd nd nd fd s A len cap l W h.lt h.c0 d1 hs hr hcl how hlen (d3 _ hf) hsz (by simp only [maxLen]; omega)).mono ?_
  rintro e w' ⟨rfl, x, hM, ho, hb⟩
  obtain ⟨A', cap', rfl, hrd, hA⟩ := own_rdB ho
  have hl := hr.hlen
  subst hl
  have ho' := h.ord
  have hlt := h.lt
  have hex := h.exl
  refine ⟨rfl, h.putd d2 ⟨A', cap', rfl, hrd, fun a ha => ⟨(ho.lt _ (hA a ha)).2, ?_⟩, hlen⟩ hM hb, hb⟩
  have hge := (ho.lt _ (hA a ha)).1
  exact ⟨by omega, by omega, by omega, by omega, by omega, fun e => by have := (h.ty.lt _ e).2; omega, by omega⟩
end
end Go.Proofs.YtdbniocnjhfhdaaGreatDoor
/-
  load.New, at the general state.
-/
set_option linter.unusedSimpArgs false
set_option linter.unusedVariables false
set_option maxRecDepth 100000
set_option maxHeartbeats 1000000
namespace Go.Proofs.YtdbniocnjhfhdaaGreatDoor
open Go Go.RowKit Lib Go.Maps
theorem slR_of {W : World} {ok : Nat → Prop} {g lb size : Nat} {x : Value} (hs : 0 < size) (h1 : RdC W g size x) (h2 : RdC W lb size x) (hok : ∀ b, b < W.heap.size → b ≠ g → b ≠ lb → (∃ o u, W.cell? ⟨b, o, none⟩ = some u) → ok b) : SlR W ok size x := by
  obtain ⟨A, n, cap, rfl, a1, a2, a3⟩ := h1
  obtain ⟨A', n', cap', e, b1, b2, b3⟩ := h2
  injection e with e1 e2 e3
  subst e1 e2 e3
  rcases Nat.eq_zero_or_pos n with h0 | h0
  · subst h0
    exact ⟨0, [], ⟨A, cap, rfl, a1, by omega, by simp, fun h => absurd h (by omega)⟩, by simp⟩
  · obtain ⟨b, off, e, hlt, hne, news, hl, ho, hc⟩ := a3 h0
    obtain ⟨b', off', e', hlt', hne', _⟩ := b3 h0
    rw [e] at e'
    have e2 : b = b' := by
      injection e' with e'
      injection e'
    subst e2
    refine ⟨n, news, ⟨A, cap, rfl, a1, by omega, hl, fun _ => ⟨b, off, e, hlt, hok b hlt hne hne' ?_, hc⟩⟩, ho⟩
    have hp : 0 < news.length := by rw [hl]; exact Nat.mul_pos h0 hs
    exact ⟨off + 0, news[0], hc 0 _ (List.getElem?_eq_getElem hp)⟩
theorem new_all (w : World) : Calls Tryz.prog 12 #[] w fun e w' => ∃ L v ts, e = .returned (.pointer (some ⟨L.lb, 0, none⟩)) ∧ ts.map TyV.key = coreKeys ∧
    LdG w.heap.size L 0 (fun _ => none) (fun _ => none) (ts.map TyV.name) [] ts v w' ∧ Below w.heap.size w w' := by
  refine (new_any w).mono ?_
  rintro e w' ⟨lb, bd, bf, bk, bg, nk, sk, v, ts, rfl, hk, h, hnk, hb⟩
  have hlen : ts.length = 26 := by
    have := congrArg List.length hk
    simpa [coreKeys] using this
  have ho := h.ord
  have hlt := h.lt
  obtain ⟨g, hg⟩ : ∃ g, v.ownBlock = some g := by
    rcases h.ty.own.2 with ⟨_, h0⟩ | ⟨g, c, cur, rfl, _⟩
    · omega
    · exact ⟨g, rfl⟩
  have hN := h.new g hg
  have hgw := h.ty.own.lt g hg
  have hmap : ∀ b, (∃ o u, w'.cell? ⟨b, o, none⟩ = some u) → b ≠ bd ∧ b ≠ bf ∧ b ≠ bk ∧ b ≠ bg := by
    rintro b ⟨o, u, hu⟩
    refine ⟨fun e => ?_, fun e => ?_, fun e => ?_, fun e => ?_⟩
    · subst e; rw [h.hd.no_cell] at hu; cases hu
    · subst e; rw [h.hf.no_cell] at hu; cases hu
    · subst e; rw [h.hk.no_cell] at hu; cases hu
    · subst e; rw [h.hg.no_cell] at hu; cases hu
  refine ⟨⟨lb, bd, bf, bk, bg, bd⟩, v, ts, rfl, hk, ?_, hb⟩
  have hsk := h.hk.size_le
  have hsd := h.hd.size_le
  refine ⟨h.c0, h.c1, h.c2, h.c3, h.c4, h.fz, ⟨_, h.hd, fun s => rfl⟩, ⟨_, 0, Nat.zero_le _, h.hf, fun s => rfl⟩, ⟨sk, ?_, h.hk.tight⟩, ⟨0, Nat.zero_le _, ?_⟩, h.ty.own, fun t ht => ?_, ho, fun q hq => ?_, hlt, ?_, fun q hq => ?_, .inl rfl⟩
  · rw [List.length_map]; omega
  · have e0 : inNames [] = fun _ => none := by funext s; simp [inNames]
    rw [e0]
    exact h.hg
  · have hok : ∀ b, b < w'.heap.size → b ≠ g → b ≠ lb → (∃ o u, w'.cell? ⟨b, o, none⟩ = some u) → LPos.ro ⟨lb, bd, bf, bk, bg, bd⟩ v b := fun b _ h1 h2 h3 => by
      obtain ⟨m1, m2, m3, m4⟩ := hmap b h3
      exact ⟨h2, m1, m2, m3, m4, fun e => by rw [hg] at e; injection e with e; exact h1 e.symm, m1⟩
    have r1 := h.ty.reads g hg t ht
    have r2 := h.rlb t ht
    exact ⟨slR_of (by omega) r1.1 r2.1 hok, slR_of (by omega) r1.2.1 r2.2.1 hok, slR_of (by omega) r1.2.2 r2.2.2 hok⟩
  · have := h.new q hq
    exact ⟨this.2, by show q ≠ bd; omega, by show q ≠ bf; omega, by show q ≠ bk; omega, by show q ≠ bg; omega⟩
  · show bd < _; omega
  · have := h.new q hq
    show q ≠ bd
    omega
end Go.Proofs.YtdbniocnjhfhdaaGreatDoor
/-
  The loader: Define's errors at the general state; the names of core.
-/
set_option linter.unusedSimpArgs false
set_option linter.unusedVariables false
set_option maxRecDepth 100000
set_option maxHeartbeats 1000000
namespace Go.Proofs.YtdbniocnjhfhdaaGreatDoor
open Go Go.RowKit Lib Go.Maps
theorem ksOk_core {dn : List (List UInt8)} {ts : List TyV} (h : ts.map TyV.key = coreKeys) : KsOk dn (ts.map TyV.name) := by
  have hlen : ts.length = 26 := by
    have := congrArg List.length h
    simpa [coreKeys] using this
  exact ⟨ts.map TyV.name, [], by simp, by rw [List.length_map]; omega, by rw [List.length_map]; omega, List.nodup_nil, by simp⟩
section
variable {B : Nat} {L : LPos} {nd : Nat} {defs : List UInt8 → Option (List UInt8)} {files : List UInt8 → Option ClassV} {ks going : List (List UInt8)} {ts : List TyV} {v : Value} {W W' : World}
theorem defineG_name (h : LdG B L nd defs files ks going ts v W) (s : ByteArray) (A : Option Addr) (len cap : Nat) (hs : s.size ≤ 9223372036854775807) (hbad : classB s.data.toList = false ∨ ownB s.data.toList = true) :
    Calls Tryz.prog 15 #[.pointer (some ⟨L.lb, 0, none⟩), .string s, .slice A len cap] W fun e w' => e = .returned (.int .i64 21) ∧ LdG B L nd defs files ks going ts v w' ∧ Below W.heap.size W w' := by
  obtain ⟨fd, d1, d2, d3⟩ := h.defNone
  refine (define_name L.lb L.bd nd nd fd s A len cap W h.lt h.c0 d1 hs hbad).mono ?_
  rintro e w' ⟨rfl, hb⟩
  exact ⟨rfl, h.below hb, hb⟩
theorem defineG_more (h : LdG B L nd defs files ks going ts v W) (s : ByteArray) (A : Option Addr) (len cap : Nat) (hs : s.size ≤ 9223372036854775807) (hm : len ≤ 9223372036854775807) (hcl : classB s.data.toList = true) (how : ownB s.data.toList = false) (hno : 65536 < len ∨ (defs s.data.toList).isSome = true ∨ 64 ≤ nd) (hsz : nd ≤ 9223372036854775807) :
    Calls Tryz.prog 15 #[.pointer (some ⟨L.lb, 0, none⟩), .string s, .slice A len cap] W fun e w' => e = .returned (.int .i64 (if 65536 < len then 2 else if (defs s.data.toList).isSome = true then 24 else 42)) ∧ LdG B L nd defs files ks going ts v w' ∧ Below W.heap.size W w' := by
  obtain ⟨fd, d1, d2, d3⟩ := h.defNone
  have hsame : (fd s.data.toList).isSome = (defs s.data.toList).isSome := by
    have h2 := d2 s.data.toList
    rcases hq : defs s.data.toList with _ | l
    · rw [d3 _ hq]; rfl
    · rw [hq] at h2
      obtain ⟨A', cap', e, _⟩ := h2
      rw [e]; rfl
  rw [← hsame] at hno ⊢
  refine (define_more L.lb L.bd nd nd fd s A len cap W h.lt h.c0 d1 hs hm hcl how hno hsz).mono ?_
  rintro e w' ⟨rfl, hb⟩
  exact ⟨rfl, h.below hb, hb⟩
end
end Go.Proofs.YtdbniocnjhfhdaaGreatDoor
/-
  load.members: a row of members in memory of its own.
-/
set_option linter.unusedSimpArgs false
set_option linter.unusedVariables false
set_option maxRecDepth 100000
set_option maxHeartbeats 1000000
namespace Go.Proofs.YtdbniocnjhfhdaaGreatDoor
open Go Go.RowKit Lib
theorem info_member : (Tryz.prog.info? 52).map (fun i => (i.zero, i.size, i.bytes)) = some (some (.agg #[.int .i64 0, .string ⟨#[]⟩, .string ⟨#[]⟩, .bool false, .int .i64 0]), 5, 56) := by kernel_rfl
theorem SlAt.src {w : World} {ok : Nat → Prop} {size n cap : Nat} {A : Option Addr} {cells : List Value} (h : SlAt w ok size n cells (.slice A n cap)) : 0 < n → ∃ ad, A = some ad ∧ ∀ j u, cells[j]? = some u → w.cell? (ad.add j) = some u := fun h0 => by
  obtain ⟨A', cap', e, _, _, _, h5⟩ := h
  cases e
  obtain ⟨b, off, rfl, _, _, hc⟩ := h5 h0
  exact ⟨_, rfl, fun j u hu => by rw [add_cell]; exact hc j u hu⟩
theorem members_any (v : Value) (n : Nat) (cells : List Value) (ok : Nat → Prop) (w : World) (h : SlAt w ok 5 n cells v) (h1 : ∀ u ∈ cells, u.oneCell' = true) :
    Calls Tryz.prog 28 #[v] w fun e w' => ∃ v', e = .returned v' ∧ SlAt w' (fun g => w.heap.size ≤ g) 5 n cells v' ∧ Below w.heap.size w w' := by
  obtain ⟨A, cap, rfl, h2, h3, h4, _⟩ := id h
  have HS := Lib.hid h.src
  have HL := Lib.hid h4
  have H1 := Lib.hid h1
  clear h h4 h1
  go_enter Tryz.func28, Tryz.ntmps28
  go_wp2_with (at_builtin; refine wpl_own rfl _ _ 37 rfl Tryz.underlying37 info_member rfl (by omega) w.heap.size rfl (World.ownsRow_nil _ _ _ _) rfl HL.out HS.out H1.out (by simp only [maxLen]; omega) (by omega) (Nat.le_refl _) ?_; intro v' w' ho hg hb; refine stop_here ?_)
  have HO := Lib.hid (own_eq ho (Nat.zero_add _) (List.nil_append _))
  have HB := Lib.hid hb
  clear ho hg hb
  refine go_on ?_
  go_wp2_with fail
  go_ret
  exact ⟨v', rfl, slAt_own HO.out _ (by omega) h3 (fun g hg => (HO.out.lt g hg).1), HB.out⟩
end Go.Proofs.YtdbniocnjhfhdaaGreatDoor
