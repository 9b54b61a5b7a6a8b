/-
  What the laws rest on, part 10: walks of the program's functions and plain laws. Conditions: none but those that each theorem names.
-/
import Derived.Test.YtlcidkiplidamaaDoorB09
import Derived.Test.YtlcidkiplidamaaDoorB04
set_option linter.unusedSimpArgs false
set_option linter.unusedVariables false
set_option maxRecDepth 100000
set_option maxHeartbeats 2000000
namespace Go.Proofs.YtlcidkiplidamaaDoor
open Go Go.RowKit Lib Go.Maps
theorem next_any (p1 q8 kb line b off n cap : Nat) (vs : List Value) (s : ByteArray) (w : World) (h1 : w.cell? ⟨p1, 0, none⟩ = some (.pointer (some ⟨kb, 0, none⟩))) (hk : Bx w kb vs 50) (hv : vs[11]? = some (.int .i64 line)) (h8 : Bx w q8 [.slice (some ⟨b, off, none⟩) n cap] 39)
    (hn : 0 < n) (hle : n ≤ cap) (hmx : cap ≤ 9223372036854775807) (hs : w.cell? ⟨b, off, none⟩ = some (.string s)) :
    Calls Tryd.prog 42 #[.pointer (some ⟨p1, 0, none⟩), .pointer (some ⟨q8, 0, none⟩)] w fun e w' => e = .returned (.string s) ∧ ∃ A', (1 < n → A' = some ⟨b, off + 1, none⟩) ∧ w' = w.setCell ⟨q8, 0, none⟩ (.slice A' (n - 1) (cap - 1)) := by
  have HK := Lib.hid hk
  have c8 := h8.cell 0 rfl
  have z8 := h8.frozen 0
  have hd : decide ((0 : Int) < (n : Int)) = true := by rw [decide_eq_true_eq]; omega
  clear hk h8
  rcases Nat.lt_or_ge 1 cap with hc | hc
  · go_enter Tryd.func42, Tryd.ntmps42
    go_wp2_with (go_at_call 14; refine stop_here ?_)
    refine go_on ?_
    refine (must_yes kb vs line _ HK.out hv).mono ?_
    rintro e w1 ⟨rfl, rfl⟩
    go_wp2_with fail
    go_ret
    exact ⟨rfl, _, fun _ => rfl, rfl⟩
  · obtain rfl : cap = 1 := by omega
    obtain rfl : n = 1 := by omega
    go_enter Tryd.func42, Tryd.ntmps42
    go_wp2_with (go_at_call 14; refine stop_here ?_)
    refine go_on ?_
    refine (must_yes kb vs line _ HK.out hv).mono ?_
    rintro e w1 ⟨rfl, rfl⟩
    go_wp2_with fail
    go_ret
    exact ⟨rfl, _, fun h => absurd h (by omega), rfl⟩
theorem MtC.addB {w w' : World} {ρ : Nat → Nat} {B xb : Nat} {m : AsM} {U : MtV} {x : UInt8} {g cap : Nat} (h : MtC w ρ B xb m U) (hlow : Low w ρ B) (hos : w'.os = w.os) (htp : w'.tape = w.tape) (hou : w'.output = w.output) (hsz : w.heap.size ≤ w'.heap.size)
    (hkeep : ∀ q, q < w.heap.size → q ≠ xb → U.cv.ownBlock ≠ some q → w'.heap[q]? = w.heap[q]?) (hbox : Bx w' xb ((mtCells m U).set 6 (.slice (some ⟨g, 0, Option.none⟩) (m.mv.code.length + 1) cap)) 57)
    (hrow : w'.ownsRow B 5 1 (.slice (some ⟨g, 0, Option.none⟩) (m.mv.code.length + 1) cap) (m.mv.code.length + 1) (m.mv.code.map bV ++ [bV x])) (hg : U.cv.ownBlock = some g ∨ w.heap.size ≤ g) :
    ∃ (ρ' : Nat → Nat) (cv' : Value), MtC w' ρ' B xb { m with mv := { m.mv with code := m.mv.code ++ [x] } } { U with cv := cv' } ∧ Chg [8, 10] w ρ w' ρ' ∧ Low w' ρ' B := by
  have hC : Chg [8, 10] w ρ w' (paint ρ g 10) := ⟨hos, htp, hou, hsz, fun q hq hr => by
    refine ⟨hkeep q hq (by rintro rfl; exact hr (by rw [h.xc]; simp)) (fun e => hr (by rw [h.code.2 q e]; simp)), paint_other ?_⟩
    rintro rfl
    rcases hg with e | e
    · exact hr (by rw [h.code.2 _ e]; simp)
    · omega⟩
  have hgr : ρ g = 10 ∨ w.heap.size ≤ g := hg.imp (fun e => h.code.2 g e) id
  have hxl := h.box.lt
  have hll := h.lab.lt
  refine ⟨paint ρ g 10, .slice (some ⟨g, 0, Option.none⟩) (m.mv.code.length + 1) cap, ⟨hbox, ?_, h.lab.keep (hC.blk _ hll (by rw [h.lc]; decide)).1, ?_, ⟨own_eq hrow (by simp) (by simp), fun q hq => ?_⟩, hC.own h.jumps (by decide), hC.own h.traps (by decide), h.none⟩, hC, low_paint hlow hsz (hrow.lt g rfl)⟩
  · rw [paint_other]
    · exact h.xc
    · rintro rfl
      rcases hgr with e | e
      · rw [h.xc] at e; omega
      · omega
  · show paint ρ g 10 U.lb = 9
    rw [paint_other]
    · exact h.lc
    · rintro rfl
      rcases hgr with e | e
      · rw [h.lc] at e; omega
      · omega
  · obtain rfl : g = q := by simpa [Value.ownBlock] using hq
    exact paint_same _ _ _
theorem info_abyte : (Tryd.prog.info? 5).map (fun i => (i.zero, i.size, i.bytes)) = some (some (.int .u8 0), 1, 1) := by kernel_rfl
def PPost (w : World) (ρ : Nat → Nat) (B xb : Nat) (m : AsM) (U : MtV) (l : List UInt8) (e : Ending) (w' : World) : Prop :=
  e = .returned (.tuple #[]) ∧ ∃ (ρ' : Nat → Nat) (cv' : Value), MtC w' ρ' B xb { m with mv := { m.mv with code := m.mv.code ++ l } } { U with cv := cv' } ∧ Chg [8, 10] w ρ w' ρ' ∧ Low w' ρ' B
theorem wrap_byte (x : Int) : Value.int .u8 (IntKind.u8.wrap x) = bV (aByte x) := by
  have h : IntKind.u8.wrap x = x % 256 := rfl
  unfold bV aByte
  rw [h, UInt8.toNat_ofNat']
  congr 1
  omega
def tailB (n y : Int) : List UInt8 := if y = 1 then [aByte (n / 256), aByte n] else if y = 0 then [aByte n] else []
theorem put_any (p4 xb : Nat) (ρ : Nat → Nat) (B : Nat) (m : AsM) (U : MtV) (n y0 : Int) (w : World) (h4 : w.cell? ⟨p4, 0, none⟩ = some (.pointer (some ⟨xb, 0, none⟩))) (hp : ρ p4 = 0) (h : MtC w ρ B xb m U) (hlow : Low w ρ B) (hB : B ≤ w.heap.size) (hl : m.mv.code.length ≤ 999000) (hn : -9223372036854775808 ≤ n ∧ n ≤ 9223372036854775807) (hy : y0 = 0 ∨ y0 = 1) :
    Calls Tryd.prog 43 #[.int .i64 n, .int .i64 (y0 + 1), .pointer (some ⟨p4, 0, none⟩)] w (PPost w ρ B xb m U (tailB n y0)) := by
  have H := Lib.hid h
  have HLW := Lib.hid hlow
  have H4 := Lib.hid h4
  have hp4l : p4 < w.heap.size := World.block_lt_of_cell? _ _ h4
  have HP := Lib.hid hp
  clear h hlow h4 hp
  have hw8 : IntKind.i64.wrap 8 = 8 := by kernel_rfl
  have hw0 : IntKind.i64.wrap 0 = 0 := by kernel_rfl
  go_enter Tryd.func43, Tryd.ntmps43
  go_wp2_with fail
  go_loopw [5] (fun x wr => ∃ (y : Int) (l : List UInt8) (ρ' : Nat → Nat) (cv' : Value), x = .int .i64 y ∧ -1 ≤ y ∧ y ≤ 1 ∧ (l.length : Int) + y ≤ 1 ∧ Hid (l ++ tailB n y = tailB n y0) ∧ Hid (MtC wr ρ' B xb { m with mv := { m.mv with code := m.mv.code ++ l } } { U with cv := cv' }) ∧ Hid (Chg [8, 10] w ρ wr ρ') ∧ Hid (Low wr ρ' B)) (fun x _ => (RowKit.intOf x + 1).toNat)
  case atStart => exact ⟨y0, [], ρ, U.cv, by go_num, by omega, by omega, by simp; omega, Lib.hid rfl, Lib.hid (by simpa using H.out), Lib.hid (Chg.refl _ _ _), HLW⟩
  case round =>
    obtain ⟨wr1, hwr⟩ : ∃ W, W = wr := ⟨_, rfl⟩
    subst hwr
    obtain ⟨y, l, ρ1, cv1, rfl, hy1, hy2, hl2, HT, HM, HC, HL⟩ := hrel
    have c6 := HM.out.box.cell 6 rfl
    have z6 := HM.out.box.frozen 6
    have hxl := HM.out.box.lt
    have hnx : cv1.ownBlock ≠ some xb := fun e => by have h1 := HM.out.code.2 _ e; rw [HM.out.xc] at h1; omega
    have hP1 := (HC.out.blk p4 hp4l (by rw [HP.out]; decide)).2.trans HP.out
    have hnp : cv1.ownBlock ≠ some p4 := fun e => by have h1 := HM.out.code.2 _ e; rw [hP1] at h1; omega
    have hz := HC.out.size
    have c4 := (HC.out.cell0 (by decide) hp4l HP.out 0).trans H4.out
    obtain ⟨v1, v2, v3, v4, v5, v6, v7, v8, v9, v10, v11, v12⟩ := far xb wr1.heap.size hxl
    obtain ⟨t1, t2, t3, t4, t5, t6, t7, t8, t9, t10, t11, t12⟩ := far p4 wr1.heap.size (by omega)
    obtain ⟨m1, hm1⟩ : ∃ m1 : AsM, m1 = { m with mv := { m.mv with code := m.mv.code ++ l } } := ⟨_, rfl⟩
    have HME := Lib.hid hm1
    rw [← hm1] at HM
    have hcl : m1.mv.code.length ≤ 999002 := by rw [hm1]; show (m.mv.code ++ l).length ≤ 999002; rw [List.length_append]; omega
    clear hm1
    obtain rfl | rfl | rfl : y = 1 ∨ y = 0 ∨ y = -1 := by omega
    · go_wp2_with fail
      go_region_law (first
        | (refine step_lies rfl (.tmp 17) (.tmp 23) 23 rfl Tryd.underlying23 info_abyte rfl (by omega) B rfl ((own_heap HM.out.code.1 (fun _ _ => rfl)).alloc _) rfl rfl (cells_new_at _ _ _ _ (by first | rfl | omega | (simp <;> omega))) (by simp [Value.oneCell']) (by omega) (by simp only [maxLen]; omega) (by omega) (by first | omega | (simp <;> omega)) ?_
           intro g6 cap6 W' ho hg hb hgg
           have HO6 := Lib.hid ho
           have HG6 := Lib.hid hg
           have X6 := Lib.hid (show Bx W' xb (mtCells m1 { U with cv := cv1 }) 57 from (hg.block xb (by first | omega | (simp; omega)) (fun e => hnx e.symm)).trans ((Below.heap_alloc _ _ _ (by first | omega | (simp; omega))).trans HM.out.box))
           have c6 := X6.out.cell 6 rfl
           have z6 := X6.out.frozen 6
           have d4 := (World.cell?_of_block (a := ⟨p4, 0, none⟩) ((hg.block p4 (by first | omega | (simp; omega)) (fun e => hnp e.symm)).trans (Below.heap_alloc _ _ _ (by first | omega | (simp; omega))))).trans c4
           have HGG := Lib.hid hgg
           clear ho hg hb hgg))
      all_goals
        have hg6 : cv1.ownBlock = some g6 ∨ wr1.heap.size ≤ g6 := by
          rcases HGG.out with e | e
          · exact .inl e
          · right
            first | omega | (simp at e; omega)
        have hgx : g6 ≠ xb := by
          rintro rfl
          rcases hg6 with e | e
          · exact hnx e
          · omega
        have hz6' : wr1.heap.size + 1 ≤ W'.heap.size := Nat.le_trans (Nat.le_of_eq (World.size_alloc wr1 _).symm) HG6.out.size
        obtain ⟨ρ2, cv2, hM, hC2, hL2⟩ := HM.out.addB (x := aByte (n / 256)) (w' := W'.setCell ⟨xb, 6, none⟩ (.slice (some ⟨g6, 0, none⟩) (m1.mv.code.length + 1) cap6)) (g := g6) (cap := cap6) HL.out HG6.out.os HG6.out.tape HG6.out.output (by first | omega | (simp; omega))
          (fun q hq h1 h2 => (Below.heap_setCell _ _ _ _ h1).trans ((HG6.out.block q (by first | omega | (simp; omega)) (fun e => h2 e.symm)).trans (Below.heap_alloc _ _ _ (by first | omega | (simp; omega)))))
          (X6.out.set 6 _) (own_set (by have h := HO6.out; rw [wrap_byte] at h; exact h) hgx _) hg6
        have HEQ := Lib.hid (show ({ m1 with mv := { m1.mv with code := m1.mv.code ++ [aByte (n / 256)] } } : AsM) = { m with mv := { m.mv with code := m.mv.code ++ (l ++ [aByte (n / 256)]) } } by rw [HME.out]; simp)
        rw [HEQ.out] at hM
        have HM2 := Lib.hid hM
        have HC2 := Lib.hid (HC.out.trans hC2)
        have HL2 := Lib.hid hL2
        clear hM hC2 hL2
        go_wp2_with fail
        go_roundw
        case rel => exact ⟨0, l ++ [aByte (n / 256)], ρ2, cv2, by go_num, by omega, by omega, by simp; omega, Lib.hid (by rw [← HT.out, List.append_assoc]; rfl), HM2, HC2, HL2⟩
        case measure => simp [RowKit.intOf]
    · go_wp2_with fail
      go_region_law (first
        | (refine step_lies rfl (.tmp 17) (.tmp 23) 23 rfl Tryd.underlying23 info_abyte rfl (by omega) B rfl ((own_heap HM.out.code.1 (fun _ _ => rfl)).alloc _) rfl rfl (cells_new_at _ _ _ _ (by first | rfl | omega | (simp <;> omega))) (by simp [Value.oneCell']) (by omega) (by simp only [maxLen]; omega) (by omega) (by first | omega | (simp <;> omega)) ?_
           intro g6 cap6 W' ho hg hb hgg
           have HO6 := Lib.hid ho
           have HG6 := Lib.hid hg
           have X6 := Lib.hid (show Bx W' xb (mtCells m1 { U with cv := cv1 }) 57 from (hg.block xb (by first | omega | (simp; omega)) (fun e => hnx e.symm)).trans ((Below.heap_alloc _ _ _ (by first | omega | (simp; omega))).trans HM.out.box))
           have c6 := X6.out.cell 6 rfl
           have z6 := X6.out.frozen 6
           have d4 := (World.cell?_of_block (a := ⟨p4, 0, none⟩) ((hg.block p4 (by first | omega | (simp; omega)) (fun e => hnp e.symm)).trans (Below.heap_alloc _ _ _ (by first | omega | (simp; omega))))).trans c4
           have HGG := Lib.hid hgg
           clear ho hg hb hgg))
      all_goals
        have hg6 : cv1.ownBlock = some g6 ∨ wr1.heap.size ≤ g6 := by
          rcases HGG.out with e | e
          · exact .inl e
          · right
            first | omega | (simp at e; omega)
        have hgx : g6 ≠ xb := by
          rintro rfl
          rcases hg6 with e | e
          · exact hnx e
          · omega
        have hz6' : wr1.heap.size + 1 ≤ W'.heap.size := Nat.le_trans (Nat.le_of_eq (World.size_alloc wr1 _).symm) HG6.out.size
        obtain ⟨ρ2, cv2, hM, hC2, hL2⟩ := HM.out.addB (x := aByte (n)) (w' := W'.setCell ⟨xb, 6, none⟩ (.slice (some ⟨g6, 0, none⟩) (m1.mv.code.length + 1) cap6)) (g := g6) (cap := cap6) HL.out HG6.out.os HG6.out.tape HG6.out.output (by first | omega | (simp; omega))
          (fun q hq h1 h2 => (Below.heap_setCell _ _ _ _ h1).trans ((HG6.out.block q (by first | omega | (simp; omega)) (fun e => h2 e.symm)).trans (Below.heap_alloc _ _ _ (by first | omega | (simp; omega)))))
          (X6.out.set 6 _) (own_set (by have h := HO6.out; rw [wrap_byte] at h; exact h) hgx _) hg6
        have HEQ := Lib.hid (show ({ m1 with mv := { m1.mv with code := m1.mv.code ++ [aByte (n)] } } : AsM) = { m with mv := { m.mv with code := m.mv.code ++ (l ++ [aByte (n)]) } } by rw [HME.out]; simp)
        rw [HEQ.out] at hM
        have HM2 := Lib.hid hM
        have HC2 := Lib.hid (HC.out.trans hC2)
        have HL2 := Lib.hid hL2
        clear hM hC2 hL2
        go_wp2_with fail
        go_roundw
        case rel => exact ⟨-1, l ++ [aByte (n)], ρ2, cv2, by go_num, by omega, by omega, by simp; omega, Lib.hid (by rw [← HT.out, List.append_assoc]; rfl), HM2, HC2, HL2⟩
        case measure => simp [RowKit.intOf]
    · go_wp2_with fail
      refine ⟨rfl, .tuple #[], by simp [results, Tryd.results43], rfl, ρ1, cv1, ?_, HC.out, HL.out⟩
      have e : l = tailB n y0 := by
        have h := HT.out
        have e2 : tailB n (-1) = [] := rfl
        rw [e2, List.append_nil] at h
        exact h
      rw [← e]
      have h := HM.out
      rw [HME.out] at h
      exact h
end Go.Proofs.YtlcidkiplidamaaDoor
namespace Go.Proofs.YtlcidkiplidamaaDoor
open Go Go.RowKit Lib
structure AsISm (x : AsI) (N c0 : Nat) : Prop where
  k : AsSm x.k N
  code : x.code.length ≤ N
  more : c0 ≤ x.code.length
  jumps : x.jumps.length ≤ N
  jump : ∀ j ∈ x.jumps, j.at' + 1 < x.code.length ∧ j.fr ≤ N ∧ j.lab.size ≤ 65536
  rest : SmW x.rest
theorem oper_small {name : List UInt8} {begin c0 : Nat} {x y : AsI} {c : UInt8} {N : Nat} (h : AsISm x N c0) (hN : N ≤ 1000000) (hb : begin ≤ N) (he : aOper name begin x c = some y) : AsISm y (N + 6) c0 := by
  have hr := h.rest
  have hc := h.code
  have hm := h.more
  have hj := h.jumps
  have hk := h.k.mono (N' := N + 6) (by omega)
  have hdr : ∀ n, SmW (x.rest.drop n) := fun n => hr.drop n
  have hold : ∀ (code : List UInt8), x.code.length ≤ code.length → ∀ j ∈ x.jumps, j.at' + 1 < code.length ∧ j.fr ≤ N + 6 ∧ j.lab.size ≤ 65536 := fun code hl j hjm => by
    have := h.jump j hjm
    omega
  unfold aOper at he
  simp only at he
  split at he
  · rcases hd : aDigits (x.rest.headD ⟨#[]⟩).data.toList (-128) 127 with _ | v
    · rw [hd] at he; cases he
    · rw [hd] at he; cases he
      exact ⟨hk, by simp; omega, by simp; omega, by simp; omega, hold _ (by simp), hdr 1⟩
  · split at he
    · split at he
      · rcases hd : aDigits (x.rest.headD ⟨#[]⟩).data.toList 0 255 with _ | v
        · rw [hd] at he; cases he
        · rw [hd] at he; cases he
          exact ⟨hk, by simp; omega, by simp; omega, by simp; omega, hold _ (by simp), hdr 1⟩
      · split at he
        · cases he
        · rename_i v hv
          split at he
          · cases he
            exact ⟨(number_small h.k (digits_in hv)).1.mono (by omega), by simp; omega, by simp; omega, by simp; omega, hold _ (by simp), hdr 1⟩
          · cases he
    · split at he
      · rcases hd : aDigits (x.rest.headD ⟨#[]⟩).data.toList (-32768) 32767 with _ | v
        · rw [hd] at he; cases he
        · rw [hd] at he; cases he
          exact ⟨hk, by simp [aBe2]; omega, by simp [aBe2]; omega, by simp; omega, hold _ (by simp), hdr 1⟩
      · split at he
        · cases he
          refine ⟨hk, by simp; omega, by simp; omega, by simp; omega, fun j hjm => ?_, hdr 1⟩
          rcases List.mem_append.1 hjm with hjm | hjm
          · exact hold _ (by simp) j hjm
          · obtain rfl := List.mem_singleton.1 hjm
            exact ⟨by simp, by simp; omega, hr.head⟩
        · split at he
          · cases he
            exact ⟨(cls_small h.k hr.head hN).1.mono (by omega), by simp [aBe2]; omega, by simp [aBe2]; omega, by simp; omega, hold _ (by simp), hdr 1⟩
          · cases he
            have ht : TagOk (if c = 102 then 9 else if c = 109 then 10 else 11) := by
              unfold TagOk
              split
              · omega
              · split <;> omega
            have hif : ∀ a : UInt8, (if c = 105 then [a, 0] else ([] : List UInt8)).length ≤ 2 := by intro a; split <;> simp
            have hif2 := hif (aByte (↑(kindsV (x.rest.getD 2 ⟨#[]⟩)).1.size + 1))
            generalize (if c = 105 then [aByte (↑(kindsV (x.rest.getD 2 ⟨#[]⟩)).1.size + 1), 0] else ([] : List UInt8)) = ex at hif2 ⊢
            refine ⟨(member_small h.k ht hr.head (hr.at 1) (hr.at 2) hN).1.mono (by omega), ?_, ?_, by simp; omega, hold _ ?_, hdr 3⟩
            · simp only [aBe2, List.length_append, List.length_cons, List.length_nil]; omega
            · simp only [aBe2, List.length_append, List.length_cons, List.length_nil]; omega
            · simp only [aBe2, List.length_append, List.length_cons, List.length_nil]; omega
theorem opers_small {name : List UInt8} {begin c0 : Nat} : ∀ (form : List UInt8) {x y : AsI} {N : Nat}, AsISm x N c0 → N + 6 * form.length ≤ 1000000 → begin ≤ N → aOpers name begin form x = some y → AsISm y (N + 6 * form.length) c0
  | [], x, y, N, h, hN, hb, he => by
    rw [aOpers] at he
    cases he
    exact h
  | c :: l, x, y, N, h, hN, hb, he => by
    rw [aOpers] at he
    simp only [List.length_cons] at hN ⊢
    rcases ho : aOper name begin x c with _ | z
    · rw [ho] at he; cases he
    · rw [ho] at he
      have h1 := oper_small h (by omega) hb ho
      have h2 := opers_small l h1 (by omega) (by omega) he
      rw [show N + 6 * (l.length + 1) = N + 6 + 6 * l.length by omega]
      exact h2
theorem form_len (c : Int) : (rowOf c).2.length ≤ 2 := by
  unfold rowOf
  split
  · rename_i r hr
    have hm := List.mem_of_find?_eq_some hr
    have hall : ∀ r ∈ rowL, r.2.2.length ≤ 2 := by decide +kernel
    exact hall r hm
  · simp
theorem instr_small {σ σ' : AsK} {m : AsM} {N : Nat} {w : List ByteArray} (h : AsSm σ N) (hm : AsMSm m N) (hN : N ≤ 900000) (hw : SmW w) (he : σ.instr m w = some σ') : AsSm σ' (N + 20) := by
  unfold AsK.instr at he
  simp only at he
  split at he
  · cases he
  · split at he
    · cases he
    · generalize hc : codeOf (w.headD ⟨#[]⟩).data.toList = code at he
      rcases ho : aOpers (rowOf code).1 m.mv.code.length (rowOf code).2 ⟨σ, m.mv.code ++ [aByte code], m.jumps, w.drop 1⟩ with _ | y
      · rw [ho] at he; cases he
      · rw [ho] at he
        cases he
        have hf := form_len code
        have hmc := hm.code
        have h1 := opers_small (c0 := 0) (N := N + 1) _ (x := ⟨σ, m.mv.code ++ [aByte code], m.jumps, w.drop 1⟩) ⟨h.mono (by omega), by simp; omega, by simp, by have := hm.jumps; simp; omega, fun j hj => by
          have := hm.jump j hj
          refine ⟨?_, ?_, this.2.2⟩
          · simp; omega
          · omega, hw.drop 1⟩ (by omega) (by omega) ho
        have h2 : N + 1 + 6 * (rowOf code).2.length ≤ N + 20 := by omega
        have h3 := h1.k.mono h2
        refine ⟨h3.npool, h3.nifs, h3.nflds, h3.nmths, h3.pool, h3.this, h3.sup, h3.ifs, h3.flds, h3.mths, h3.part, fun m' hm' => ?_⟩
        cases hm'
        have hm2 := hm.mono (N' := N + 20) (by omega)
        exact ⟨Nat.le_trans h1.code h2, hm2.labels, Nat.le_trans h1.jumps h2, hm2.traps, hm2.places, fun j hj => ⟨(h1.jump j hj).1, Nat.le_trans (h1.jump j hj).2.1 h2, (h1.jump j hj).2.2⟩, hm2.kinds, hm2.none, ⟨hm2.fine.1, hm2.fine.2.1, hm2.fine.2.2.1, hm2.fine.2.2.2.1, hm2.fine.2.2.2.2⟩⟩
theorem jumps_len (labels : List (List UInt8 × Nat)) : ∀ (l : List AsF) (code c : List UInt8), aJumps labels l code = some c → c.length = code.length
  | [], code, c, h => by cases h; rfl
  | j :: l, code, c, h => by
    rw [aJumps] at h
    split at h
    · cases h
    · simp only at h
      split at h
      · have := jumps_len labels l _ c h
        simpa using this
      · cases h
theorem look_le {l : List (List UInt8 × Nat)} {s : ByteArray} {N p : Nat} (hl : ∀ r ∈ l, r.2 ≤ N) (h : aLook l s = some p) : p ≤ N := by
  unfold aLook at h
  obtain ⟨r, hr, rfl⟩ := Option.map_eq_some_iff.1 h
  exact hl r (List.mem_of_find?_eq_some hr)
theorem traps_small (labels : List (List UInt8 × Nat)) {N : Nat} (hl : ∀ r ∈ labels, r.2 ≤ N) (hN : N ≤ 1000000) : ∀ (l : List AsT) (ts : List TrapV), (∀ t ∈ l, t.kind ≤ N) → aTraps labels l = some ts → ts.length = l.length ∧ ∀ t ∈ ts, TrapFine t
  | [], ts, _, h => by cases h; exact ⟨rfl, by simp⟩
  | t :: l, ts, hk, h => by
    rw [aTraps] at h
    split at h
    · rename_i a b c ha hb hc
      rcases hr : aTraps labels l with _ | r
      · rw [hr] at h; cases h
      · rw [hr] at h
        cases h
        have ih := traps_small labels hl hN l r (fun x hx => hk x (by simp [hx])) hr
        refine ⟨by simp [ih.1], fun x hx => ?_⟩
        rcases List.mem_cons.1 hx with rfl | hx
        · have := look_le hl ha
          have := look_le hl hb
          have := look_le hl hc
          have := hk t (by simp)
          exact ⟨fine_of (by omega), fine_of (by omega), fine_of (by omega), fine_of (by omega)⟩
        · exact ih.2 x hx
    · cases h
theorem endM_small {σ σ' : AsK} {m : AsM} {N : Nat} (h : AsSm σ N) (hm : AsMSm m N) (hN : N ≤ 900000) (he : σ.endM m = some σ') : AsSm σ' (N + 1) := by
  unfold AsK.endM at he
  split at he
  · cases he
  · rename_i code hcode
    split at he
    · cases he
    · rename_i ts hts
      cases he
      have h1 := jumps_len _ _ _ _ hcode
      have h2 := traps_small m.labels hm.places (by omega) _ _ (fun t ht => (hm.kinds t ht).1) hts
      have hM := h.mono (N' := N + 1) (by omega)
      have := hm.code
      have := hm.traps
      refine ⟨hM.npool, hM.nifs, hM.nflds, ?_, h.pool, h.this, h.sup, h.ifs, h.flds, fun x hx => ?_, h.part, by simp⟩
      · have := h.nmths
        simp only [List.length_append, List.length_cons, List.length_nil]
        omega
      · rcases List.mem_append.1 hx with hx | hx
        · exact hM.mths x hx
        · obtain rfl := List.mem_singleton.1 hx
          exact ⟨⟨hm.fine.1, hm.fine.2.1, hm.fine.2.2.1, hm.fine.2.2.2.1, h2.2⟩, by simp only; omega, by simp only; omega⟩
theorem first_small {m : AsM} {N : Nat} (h : AsMSm m N) : AsMSm { m with first := false } N := ⟨h.code, h.labels, h.jumps, h.traps, h.places, h.jump, h.kinds, h.none, h.fine⟩
theorem open_small {σ : AsK} {m : AsM} {N : Nat} (h : AsSm σ N) (hm : AsMSm m N) : AsSm { σ with m := some m } N := ⟨h.npool, h.nifs, h.nflds, h.nmths, h.pool, h.this, h.sup, h.ifs, h.flds, h.mths, h.part, fun m' e => by cases e; exact hm⟩
theorem inside_small {σ σ' : AsK} {m : AsM} {N : Nat} {w : List ByteArray} (h : AsSm σ N) (ho : σ.m = some m) (hN : N ≤ 900000) (hw : SmW w) (he : σ.inside m w = .ok σ') : AsSm σ' (N + 20) := by
  have hm := h.op m ho
  have hf := first_small hm
  have hM := h.mono (N' := N + 20) (by omega)
  have hF := hf.mono (N' := N + 20) (by omega)
  unfold AsK.inside at he
  simp only at he
  split at he
  · split at he
    · rcases ha : aDigits (w.getD 1 ⟨#[]⟩).data.toList 0 255 with _ | a
      · rw [ha] at he; cases he
      · rcases hb : aDigits (w.getD 2 ⟨#[]⟩).data.toList 0 255 with _ | b
        · rw [ha, hb] at he; cases he
        · rw [ha, hb] at he
          cases he
          have d1 := digits_in ha
          have d2 := digits_in hb
          exact open_small hM ⟨hF.code, hF.labels, hF.jumps, hF.traps, hF.places, hF.jump, hF.kinds, hF.none, ⟨hF.fine.1, hF.fine.2.1, by refine ⟨?_, ?_⟩ <;> (simp only; omega), by refine ⟨?_, ?_⟩ <;> (simp only; omega), hF.fine.2.2.2.2⟩⟩
    · cases he
  · split at he
    · split at he
      · cases he
      · rename_i x hx
        cases he
        exact (endM_small h hf (by omega) hx).mono (by omega)
    · split at he
      · split at he
        · cases he
          refine open_small hM ⟨hF.code, ?_, hF.jumps, hF.traps, fun r hr => ?_, hF.jump, hF.kinds, hF.none, hF.fine⟩
          · have := hm.labels
            simp only [List.length_append, List.length_cons, List.length_nil]
            omega
          · rcases List.mem_append.1 hr with hr | hr
            · exact hF.places r hr
            · obtain rfl := List.mem_singleton.1 hr
              exact hF.code
        · cases he
      · split at he
        · split at he
          · cases he
            refine open_small hM ⟨hF.code, hF.labels, hF.jumps, ?_, hF.places, hF.jump, fun t ht => ?_, hF.none, hF.fine⟩
            · have := hm.traps
              simp only [List.length_append, List.length_cons, List.length_nil]
              omega
            · rcases List.mem_append.1 ht with ht | ht
              · exact hF.kinds t ht
              · obtain rfl := List.mem_singleton.1 ht
                exact ⟨Nat.zero_le _, hw.at 1, hw.at 2, hw.at 3⟩
          · split at he
            · have h1 := cls_small h (hw.at 4) (by omega)
              cases he
              refine open_small (h1.1.mono (N' := N + 20) (by omega)) ⟨hF.code, hF.labels, hF.jumps, ?_, hF.places, hF.jump, fun t ht => ?_, hF.none, hF.fine⟩
              · have := hm.traps
                simp only [List.length_append, List.length_cons, List.length_nil]
                omega
              · rcases List.mem_append.1 ht with ht | ht
                · exact hF.kinds t ht
                · obtain rfl := List.mem_singleton.1 ht
                  exact ⟨by simp only; omega, hw.at 1, hw.at 2, hw.at 3⟩
            · cases he
        · split at he
          · cases he
          · rename_i x hx
            cases he
            exact instr_small h hf hN hw hx
end Go.Proofs.YtlcidkiplidamaaDoor
namespace Go.Proofs.YtlcidkiplidamaaDoor
open Go Go.RowKit Lib
theorem cut_hash (m : Nat) : cutL (List.replicate (m + 1) 35) = [List.replicate (m + 1) 35] := by
  induction m with
  | zero => rfl
  | succ m ih => rw [List.replicate_succ, cutL, if_neg (by decide), ih]
theorem cut_feeds (n m : Nat) : cutL (List.replicate n 10 ++ List.replicate (m + 1) 35) = List.replicate n [] ++ [List.replicate (m + 1) 35] := by
  induction n with
  | zero => simpa using cut_hash m
  | succ n ih => rw [show List.replicate (n + 1) (10 : UInt8) = 10 :: List.replicate n 10 from rfl, List.cons_append, cutL, if_pos rfl, ih]; rfl
theorem lines_feeds (n m : Nat) : linesL (List.replicate n 10 ++ List.replicate (m + 1) 35) = List.replicate n [] ++ [List.replicate (m + 1) 35] := by
  unfold linesL
  rw [cut_feeds, if_neg]
  rw [List.getLastD_eq_getLast?, List.getLast?_concat]
  simp [List.replicate_succ]
def Mute (s : ByteArray) : Prop := aWords s = [] ∨ ((aWords s).headD ⟨#[]⟩).data.toList.headD 0 = 35
theorem mute_line {s : ByteArray} (h : Mute s) (σ : AsK) : σ.doLine s = .ok σ := by
  unfold AsK.doLine
  exact if_pos h
theorem run_mute (l : List ByteArray) (h : ∀ s ∈ l, Mute s) (i : Nat) (σ : AsK) : ∃ k, aRun l i σ = .ok { σ with line := k } := by
  induction l generalizing i σ with
  | nil => exact ⟨σ.line, rfl⟩
  | cons s l ih =>
    rw [aRun, mute_line (h s (by simp))]
    obtain ⟨k, hk⟩ := ih (fun x hx => h x (by simp [hx])) (i + 1) { σ with line := i + 1 }
    exact ⟨k, hk⟩
theorem mute_list {s : ByteArray} (h : aWordsGo s.data.toList [] = [] ∨ ((aWordsGo s.data.toList []).headD []).headD 0 = 35) : Mute s := by
  unfold Mute aWords
  rcases h with h | h
  · exact .inl (by rw [h]; rfl)
  · right
    cases hw : aWordsGo s.data.toList [] with
    | nil => rw [hw] at h; exact absurd h (by decide)
    | cons x l =>
      rw [hw] at h
      simpa using h
theorem mute_feeds {n m : Nat} {s : ByteArray} (h : s.data.toList ∈ List.replicate n [] ++ [List.replicate (m + 1) 35]) : Mute s := by
  refine mute_list ?_
  rcases List.mem_append.1 h with h | h
  · rw [(List.mem_replicate.1 h).2]
    exact .inl rfl
  · rw [List.mem_singleton] at h
    rw [h]
    right
    have hw : ∀ (k : Nat) (cur : List UInt8), cur ≠ [] → cur.headD 0 = 35 → ((aWordsGo (List.replicate k 35) cur).headD []).headD 0 = 35 := by
      intro k
      induction k with
      | zero =>
        intro cur h1 h2
        rw [List.replicate_zero, aWordsGo, if_neg h1]
        exact h2
      | succ k ih =>
        intro cur h1 h2
        rw [List.replicate_succ, aWordsGo, if_neg (by decide)]
        refine ih _ (by simp) ?_
        cases cur with
        | nil => exact absurd rfl h1
        | cons a b => exact h2
    rw [List.replicate_succ, aWordsGo, if_neg (by decide)]
    exact hw m _ (by simp) rfl
theorem asm_mute (ck : ClassV → Int) (text : ByteArray) (h : ∀ s ∈ aLines text, Mute s) : aAsm ck text = .error (0, if 262144 < text.size ∨ 8000 < (aLines text).length then 2 else 60) := by
  unfold aAsm
  by_cases hb : 262144 < text.size ∨ 8000 < (aLines text).length
  · rw [if_pos hb, if_pos hb]
  · rw [if_neg hb, if_neg hb]
    obtain ⟨k, hk⟩ := run_mute _ h 0 .new
    rw [hk]
    rfl
theorem long_plain (ck : ClassV → Int) (n m : Nat) (text : ByteArray) (h : text.data.toList = List.replicate n 10 ++ List.replicate (m + 1) 35) :
    (∀ s ∈ aLines text, Mute s) ∧ (aLines text).length = n + 1 := by
  have hl := lines_list text
  rw [h, lines_feeds] at hl
  refine ⟨fun s hs => mute_feeds (n := n) (m := m) ?_, ?_⟩
  · rw [← hl]
    exact List.mem_map.2 ⟨s, hs, rfl⟩
  · have := congrArg List.length hl
    simpa using this
end Go.Proofs.YtlcidkiplidamaaDoor
namespace Go.Proofs.YtlcidkiplidamaaDoor
open Go Go.RowKit Lib
theorem wordsGo_len : ∀ (l cur : List UInt8), ∀ x ∈ aWordsGo l cur, x.length ≤ l.length + cur.length ∧ x ≠ []
  | [], cur, x, hx => by
    rw [aWordsGo] at hx
    split at hx
    · cases hx
    · obtain rfl := List.mem_singleton.1 hx
      exact ⟨by simp, by assumption⟩
  | c :: l, cur, x, hx => by
    rw [aWordsGo] at hx
    split at hx
    · split at hx
      · have := wordsGo_len l [] x hx
        exact ⟨by have := this.1; simp at this ⊢; omega, this.2⟩
      · rcases List.mem_cons.1 hx with rfl | hx
        · exact ⟨by simp, by assumption⟩
        · have := wordsGo_len l [] x hx
          exact ⟨by have := this.1; simp at this ⊢; omega, this.2⟩
    · have := wordsGo_len l (cur ++ [c]) x hx
      exact ⟨by have := this.1; simp at this ⊢; omega, this.2⟩
theorem words_size (s : ByteArray) : ∀ x ∈ aWords s, x.size ≤ s.size ∧ 0 < x.size := by
  intro x hx
  obtain ⟨y, hy, rfl⟩ := List.mem_map.1 hx
  have := wordsGo_len _ _ y hy
  have hl : s.data.toList.length = s.size := Array.length_toList
  have h1 := this.1
  have h2 := List.length_pos_iff.2 this.2
  have e : (⟨y.toArray⟩ : ByteArray).size = y.length := by simp [ByteArray.size]
  rw [e]
  simp at h1
  omega
theorem words_sm {s : ByteArray} (h : s.size ≤ 65536) : SmW (aWords s) := fun x hx => Nat.le_trans (words_size s x hx).1 h
theorem doLine_small {σ σ' : AsK} {N : Nat} {s : ByteArray} (h : AsSm σ N) (hN : N ≤ 900000) (hs : Mute s ∨ s.size ≤ 65536) (he : σ.doLine s = .ok σ') : AsSm σ' (N + 20) := by
  rcases hs with hs | hs
  · rw [mute_line hs] at he
    cases he
    exact h.mono (by omega)
  · unfold AsK.doLine at he
    simp only at he
    split at he
    · cases he
      exact h.mono (by omega)
    · split at he
      · rename_i m hm
        exact inside_small h hm hN (words_sm hs) he
      · split at he
        · cases he
        · rename_i x hx
          cases he
          exact (outside_small h hN (words_sm hs) hx).mono (by omega)
theorem line_small {σ : AsK} {N : Nat} (h : AsSm σ N) (n : Nat) : AsSm { σ with line := n } N := ⟨h.npool, h.nifs, h.nflds, h.nmths, h.pool, h.this, h.sup, h.ifs, h.flds, h.mths, h.part, h.op⟩
theorem new_small (N : Nat) : AsSm .new N := ⟨by simp [AsK.new], by simp [AsK.new], by simp [AsK.new], by simp [AsK.new], by simp [AsK.new], fine_of (n := 0) (by omega), fine_of (n := 0) (by omega), by simp [AsK.new], by simp [AsK.new], by simp [AsK.new], by simp [AsK.new], by simp [AsK.new]⟩
theorem classFine_of {σ : AsK} {N : Nat} (h : AsSm σ N) : ClassFine σ.c := ⟨fun k hk => (h.pool k hk).1, h.this, h.sup, h.ifs, h.flds, fun x hx => (h.mths x hx).1⟩
end Go.Proofs.YtlcidkiplidamaaDoor
