/-
  What the laws rest on, part 20: walks of the program's functions and plain laws. Conditions: none but those that each theorem names.
-/
import Derived.Test.YtlcidkiplidamaaDoorB10
set_option linter.unusedSimpArgs false
set_option linter.unusedVariables false
set_option maxRecDepth 100000
set_option maxHeartbeats 1000000
namespace Go.Proofs.YtlcidkiplidamaaDoor
open Go Go.RowKit Lib Go.Maps
theorem info_afar : (Tryd.prog.info? 83).map (fun i => (i.zero, i.size, i.bytes)) = some (some (.agg #[.int .i64 0, .int .i64 0, .string ⟨#[]⟩]), 3, 32) := by kernel_rfl
theorem info_apitrap : (Tryd.prog.info? 86).map (fun i => (i.zero, i.size, i.bytes)) = some (some (.agg #[.int .i64 0, .int .i64 0, .int .i64 0, .int .i64 0]), 4, 32) := by kernel_rfl
theorem MtC.addJ {w w' : World} {ρ : Nat → Nat} {B xb : Nat} {m : AsM} {U : MtV} {x : AsF} {g cap : Nat} (h : MtC w ρ B xb m U) (hlow : Low w ρ B) (hos : w'.os = w.os) (htp : w'.tape = w.tape) (hou : w'.output = w.output) (hsz : w.heap.size ≤ w'.heap.size)
    (hkeep : ∀ q, q < w.heap.size → q ≠ xb → U.jv.ownBlock ≠ some q → w'.heap[q]? = w.heap[q]?) (hbox : Bx w' xb ((mtCells m U).set 11 (.slice (some ⟨g, 0, Option.none⟩) (m.jumps.length + 1) cap)) 57)
    (hrow : w'.ownsRow B 83 3 (.slice (some ⟨g, 0, Option.none⟩) (m.jumps.length + 1) cap) (m.jumps.length + 1) (m.jumps.flatMap AsF.cells ++ x.cells)) (hg : U.jv.ownBlock = some g ∨ w.heap.size ≤ g) :
    ∃ (ρ' : Nat → Nat) (jv' : Value), MtC w' ρ' B xb { m with jumps := m.jumps ++ [x] } { U with jv := jv' } ∧ Chg [8, 11] w ρ w' ρ' ∧ Low w' ρ' B := by
  have hC : Chg [8, 11] w ρ w' (paint ρ g 11) := ⟨hos, htp, hou, hsz, fun q hq hr => by
    refine ⟨hkeep q hq (by rintro rfl; exact hr (by rw [h.xc]; simp)) (fun e => hr (by rw [h.jumps.2 q e]; simp)), paint_other ?_⟩
    rintro rfl
    rcases hg with e | e
    · exact hr (by rw [h.jumps.2 _ e]; simp)
    · omega⟩
  have hgr : ρ g = 11 ∨ w.heap.size ≤ g := hg.imp (fun e => h.jumps.2 g e) id
  have hxl := h.box.lt
  have hll := h.lab.lt
  refine ⟨paint ρ g 11, .slice (some ⟨g, 0, Option.none⟩) (m.jumps.length + 1) cap, ⟨hbox, ?_, h.lab.keep (hC.blk _ hll (by rw [h.lc]; decide)).1, ?_, hC.own h.code (by decide), ⟨own_eq hrow (by simp) (by simp), fun q hq => ?_⟩, hC.own h.traps (by decide), h.none⟩, hC, low_paint hlow hsz (hrow.lt g rfl)⟩
  · rw [paint_other]
    · exact h.xc
    · rintro rfl
      rcases hgr with e | e
      · rw [h.xc] at e; omega
      · omega
  · show paint ρ g 11 U.lb = 9
    rw [paint_other]
    · exact h.lc
    · rintro rfl
      rcases hgr with e | e
      · rw [h.lc] at e; omega
      · omega
  · obtain rfl : g = q := by simpa [Value.ownBlock] using hq
    exact paint_same _ _ _
theorem MtC.setB {w : World} {ρ : Nat → Nat} {B xb : Nat} {m : AsM} {U : MtV} {g n cap : Nat} (h : MtC w ρ B xb m U) (hcv : U.cv = .slice (some ⟨g, 0, Option.none⟩) n cap) (i : Nat) (x : UInt8) : MtC (w.setCell ⟨g, i, Option.none⟩ (bV x)) ρ B xb { m with mv := { m.mv with code := m.mv.code.set i x } } U ∧ Chg [10] w ρ (w.setCell ⟨g, i, Option.none⟩ (bV x)) ρ := by
  have hg : ρ g = 10 := h.code.2 g (by rw [hcv]; rfl)
  have hC : Chg [10] w ρ (w.setCell ⟨g, i, Option.none⟩ (bV x)) ρ := ⟨rfl, rfl, rfl, by simp, fun q hq hr => ⟨Below.heap_setCell _ _ _ _ (by rintro rfl; exact hr (by rw [hg]; simp)), rfl⟩⟩
  refine ⟨⟨?_, h.xc, h.lab.keep (hC.blk _ h.lab.lt (by rw [h.lc]; decide)).1, h.lc, ⟨?_, h.code.2⟩, hC.own h.jumps (by decide), hC.own h.traps (by decide), h.none⟩, hC⟩
  · have e : mtCells { m with mv := { m.mv with code := m.mv.code.set i x } } U = mtCells m U := rfl
    rw [e]
    exact hC.bx h.box (by rw [h.xc]; decide)
  · have hrow := h.code.1
    have hn : n = m.mv.code.length := by
      obtain ⟨A', c', e⟩ := own_slice hrow
      rw [hcv] at e
      injection e
    subst hn
    rw [hcv] at hrow ⊢
    have hs := hrow.stored i (bV x)
    exact own_eq hs.1 (by simp) (by simp [List.map_set])
def shut (ρ : Nat → Nat) : Nat → Nat := fun g => if ρ g = 10 ∨ ρ g = 13 then 7 else ρ g
theorem chg_shut (w : World) (ρ : Nat → Nat) : Chg [10, 13] w ρ w (shut ρ) := ⟨rfl, rfl, rfl, Nat.le_refl _, fun g hg hc => ⟨rfl, if_neg (by
  intro h
  exact hc (by rcases h with h | h <;> simp [h]))⟩⟩
theorem low_shut {w : World} {ρ : Nat → Nat} {B : Nat} (h : Low w ρ B) : Low w (shut ρ) B := fun g hg => h g (by
  intro e
  apply hg
  unfold shut
  rw [e]
  simp)
theorem missing_at (p2 xb line : Nat) (vs : List Value) (w : World) (h2 : w.cell? ⟨p2, 0, none⟩ = some (.pointer (some ⟨xb, 0, none⟩))) (h : Bx w xb vs 57) (hv : vs[8]? = some (.int .i64 line)) :
    Calls Tryd.prog 36 #[.pointer (some ⟨p2, 0, none⟩)] w fun e w' => e = .panicked [{ v := stopA line 60, recovered := false }] ∧ w' = w := by
  have c8 := h.cell 8 hv
  clear h
  go_enter Tryd.func36, Tryd.ntmps36
  go_wp2
  exact ⟨rfl, rfl, rfl⟩
theorem look_yes (p2 p3 xb lb : Nat) (labels : List (List UInt8 × Nat)) (vs : List Value) (s : ByteArray) (p : Nat) (w : World) (h2 : w.cell? ⟨p2, 0, none⟩ = some (.pointer (some ⟨xb, 0, none⟩))) (h : Bx w xb vs 57) (hv : vs[10]? = some (.map (some lb))) (hl : LabM w lb labels) (hs : s.size ≤ maxLen) (hp : aLook labels s = some p) :
    Calls Tryd.prog 37 #[.string s, .pointer (some ⟨p2, 0, none⟩), .pointer (some ⟨p3, 0, none⟩)] w fun e w' => e = .returned (.int .i64 p) ∧ w' = w := by
  have c10 := h.cell 10 hv
  obtain ⟨n, f, sz, _, hM, hf⟩ := hl
  have hfs : f s.data.toList = some (.int .i64 p) := by
    have := hf s.data.toList
    rw [this, show (⟨s.data.toList.toArray⟩ : ByteArray) = s from rfl, hp]
    rfl
  have HM := Lib.hid hM
  clear h hM hf hp
  go_enter Tryd.func37, Tryd.ntmps37
  go_wp2_with (refine wpl_look rfl _ _ rfl Tryd.underlying9 Tryd.underlying53 (z := .int .i64 0) (by kernel_rfl) rfl HM.out rfl hs ?_; rw [hfs])
  go_ret
  exact ⟨rfl, rfl⟩
theorem look_no (p2 p3 xb lb line : Nat) (labels : List (List UInt8 × Nat)) (vs : List Value) (s : ByteArray) (w : World) (h2 : w.cell? ⟨p2, 0, none⟩ = some (.pointer (some ⟨xb, 0, none⟩))) (h3 : w.cell? ⟨p3, 0, none⟩ = some (.func (.func 36) #[] #[.pointer (some ⟨p2, 0, none⟩)])) (h : Bx w xb vs 57) (hv8 : vs[8]? = some (.int .i64 line)) (hv : vs[10]? = some (.map (some lb))) (hl : LabM w lb labels) (hs : s.size ≤ maxLen) (hp : aLook labels s = none) :
    Calls Tryd.prog 37 #[.string s, .pointer (some ⟨p2, 0, none⟩), .pointer (some ⟨p3, 0, none⟩)] w fun e w' => e = .panicked [{ v := stopA line 60, recovered := false }] ∧ w' = w := by
  have c10 := h.cell 10 hv
  have HX := Lib.hid h
  obtain ⟨n, f, sz, _, hM, hf⟩ := hl
  have hfs : f s.data.toList = none := by
    have := hf s.data.toList
    rw [this, show (⟨s.data.toList.toArray⟩ : ByteArray) = s from rfl, hp]
    rfl
  have HM := Lib.hid hM
  have H2 := Lib.hid h2
  have HV8 := Lib.hid hv8
  clear h hM hf hp hv8
  go_enter Tryd.func37, Tryd.ntmps37
  go_wp2_with (first | (refine wpl_look rfl _ _ rfl Tryd.underlying9 Tryd.underlying53 (z := .int .i64 0) (by kernel_rfl) rfl HM.out rfl hs ?_; rw [hfs]) | (go_at_call 36; refine stop_here ?_))
  refine go_on ?_
  refine (missing_at p2 xb line vs _ H2.out HX.out HV8.out).mono ?_
  rintro e w1 ⟨rfl, rfl⟩
  go_wp2_with fail
  exact (show _ ∧ _ from ⟨rfl, rfl, rfl⟩)
structure MtT (w : World) (ρ : Nat → Nat) (B xb : Nat) (m : AsM) (U : MtV) (tv : Value) (ts : List TrapV) : Prop where
  box : Bx w xb ((mtCells m U).set 7 tv) 57
  xc : ρ xb = 8
  lab : LabM w U.lb m.labels
  lc : ρ U.lb = 9
  code : OwnC w ρ B 5 1 U.cv m.mv.code.length (m.mv.code.map bV) 10
  traps : OwnC w ρ B 65 4 U.tv m.traps.length (m.traps.flatMap AsT.cells) 12
  tr : OwnC w ρ B 86 4 tv ts.length (ts.flatMap TrapV.cells) 13
theorem MtC.toT {w : World} {ρ : Nat → Nat} {B xb : Nat} {m : AsM} {U : MtV} (h : MtC w ρ B xb m U) : MtT w ρ B xb m U (.slice Option.none 0 0) [] :=
  ⟨h.box, h.xc, h.lab, h.lc, h.code, h.traps, ownC_nil _ _ _ _ _ _⟩
theorem MtT.keep {cs : List Nat} {w w' : World} {ρ ρ' : Nat → Nat} {B xb : Nat} {m : AsM} {U : MtV} {tv : Value} {ts : List TrapV} (h : MtT w ρ B xb m U tv ts) (k : Chg cs w ρ w' ρ') (hc : ∀ c, 8 ≤ c → c ≤ 13 → c ∉ cs) : MtT w' ρ' B xb m U tv ts where
  box := k.bx h.box (by rw [h.xc]; exact hc 8 (by omega) (by omega))
  xc := (k.blk xb h.box.lt (by rw [h.xc]; exact hc 8 (by omega) (by omega))).2.trans h.xc
  lab := h.lab.keep (k.blk U.lb h.lab.lt (by rw [h.lc]; exact hc 9 (by omega) (by omega))).1
  lc := (k.blk U.lb h.lab.lt (by rw [h.lc]; exact hc 9 (by omega) (by omega))).2.trans h.lc
  code := k.own h.code (hc 10 (by omega) (by omega))
  traps := k.own h.traps (hc 12 (by omega) (by omega))
  tr := k.own h.tr (hc 13 (by omega) (by omega))
theorem MtT.below {w w' : World} {ρ : Nat → Nat} {B xb : Nat} {m : AsM} {U : MtV} {tv : Value} {ts : List TrapV} (h : MtT w ρ B xb m U tv ts) (hb : Below w.heap.size w w') : MtT w' ρ B xb m U tv ts := h.keep (Chg.of_below (cs := []) hb) (by simp)
theorem MtT.add {w w' : World} {ρ : Nat → Nat} {B xb : Nat} {m : AsM} {U : MtV} {tv : Value} {ts : List TrapV} {x : TrapV} {g cap : Nat} (h : MtT w ρ B xb m U tv ts) (hlow : Low w ρ B) (hos : w'.os = w.os) (htp : w'.tape = w.tape) (hou : w'.output = w.output) (hsz : w.heap.size ≤ w'.heap.size)
    (hkeep : ∀ q, q < w.heap.size → q ≠ xb → tv.ownBlock ≠ some q → w'.heap[q]? = w.heap[q]?) (hbox : Bx w' xb (((mtCells m U).set 7 tv).set 7 (.slice (some ⟨g, 0, Option.none⟩) (ts.length + 1) cap)) 57)
    (hrow : w'.ownsRow B 86 4 (.slice (some ⟨g, 0, Option.none⟩) (ts.length + 1) cap) (ts.length + 1) (ts.flatMap TrapV.cells ++ x.cells)) (hg : tv.ownBlock = some g ∨ w.heap.size ≤ g) :
    ∃ (ρ' : Nat → Nat) (tv' : Value), MtT w' ρ' B xb m U tv' (ts ++ [x]) ∧ Chg [8, 13] w ρ w' ρ' ∧ Low w' ρ' B := by
  have hC : Chg [8, 13] w ρ w' (paint ρ g 13) := ⟨hos, htp, hou, hsz, fun q hq hr => by
    refine ⟨hkeep q hq (by rintro rfl; exact hr (by rw [h.xc]; simp)) (fun e => hr (by rw [h.tr.2 q e]; simp)), paint_other ?_⟩
    rintro rfl
    rcases hg with e | e
    · exact hr (by rw [h.tr.2 _ e]; simp)
    · omega⟩
  have hgr : ρ g = 13 ∨ w.heap.size ≤ g := hg.imp (fun e => h.tr.2 g e) id
  have hxl := h.box.lt
  have hll := h.lab.lt
  refine ⟨paint ρ g 13, .slice (some ⟨g, 0, Option.none⟩) (ts.length + 1) cap, ⟨?_, ?_, h.lab.keep (hC.blk _ hll (by rw [h.lc]; decide)).1, ?_, hC.own h.code (by decide), hC.own h.traps (by decide), ⟨own_eq hrow (by simp) (by simp), fun q hq => ?_⟩⟩, hC, low_paint hlow hsz (hrow.lt g rfl)⟩
  · exact hbox
  · rw [paint_other]
    · exact h.xc
    · rintro rfl
      rcases hgr with e | e
      · rw [h.xc] at e; omega
      · omega
  · rw [paint_other]
    · exact h.lc
    · rintro rfl
      rcases hgr with e | e
      · rw [h.lc] at e; omega
      · omega
  · obtain rfl : g = q := by simpa [Value.ownBlock] using hq
    exact paint_same _ _ _
theorem shut_meth2 {w : World} {ρ : Nat → Nat} {B xb : Nat} {m : AsM} {U : MtV} {ts : List TrapV} {tv : Value} (h : MtT w ρ B xb m U tv ts) (hc : m.mv.code.length ≤ 1048576) (hl : ts.length ≤ 1048576) :
    MethAt w (fun g => shut ρ g = 7) { m.mv with traps := ts } U.cv tv :=
  ⟨slAt_own h.code.1 _ (by omega) hc fun g hg => by
    unfold shut
    rw [if_pos (.inl (h.code.2 g hg))], slAt_own h.tr.1 _ (by omega) hl fun g hg => by
    unfold shut
    rw [if_pos (.inr (h.tr.2 g hg))]⟩
theorem traps_step {labels : List (List UInt8 × Nat)} {t : AsT} {l : List AsT} {a b c : Nat} {ts : List TrapV} (h1 : aLook labels t.lo = some a) (h2 : aLook labels t.hi = some b) (h3 : aLook labels t.tg = some c) :
    (aTraps labels (t :: l)).map (ts ++ ·) = (aTraps labels l).map ((ts ++ [⟨a, b, c, t.kind⟩]) ++ ·) := by
  rw [aTraps, h1, h2, h3]
  cases aTraps labels l <;> simp
theorem traps_no {labels : List (List UInt8 × Nat)} {t : AsT} {l : List AsT} (h : aLook labels t.lo = none ∨ aLook labels t.hi = none ∨ aLook labels t.tg = none) : aTraps labels (t :: l) = none := by
  rw [aTraps]
  split
  · rename_i h1 h2 h3
    rcases h with h | h | h <;> simp_all
  · rfl
end Go.Proofs.YtlcidkiplidamaaDoor
