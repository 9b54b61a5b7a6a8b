/-
  The law's classes p/Ca, p/Cb, ..: what loading them answers, in plain Lean.
-/
import Derived.Test.YtdbniocnjhfhdaaGreatDoorB25
import Derived.Test.YtdbniocnjhfhdaaGreatDoorB23
set_option linter.unusedSimpArgs false
set_option linter.unusedVariables false
set_option maxRecDepth 100000
namespace Go.Proofs.YtdbniocnjhfhdaaGreatDoor
open Go Go.RowKit Lib
def labL (i : Nat) : List UInt8 := [112, 47, 67, UInt8.ofNat (97 + i)]
def lab (i : Nat) : ByteArray := ⟨(labL i).toArray⟩
theorem dl_lab (i : Nat) : dl (lab i) = labL i := rfl
theorem lab_class : ∀ i, i < 26 → classB (labL i) = true ∧ ownB (labL i) = false := by decide +kernel
theorem lab_inj {i j : Nat} (hi : i < 26) (hj : j < 26) (h : labL i = labL j) : i = j := by
  have h' : UInt8.ofNat (97 + i) = UInt8.ofNat (97 + j) := by
    simp only [labL] at h
    injection h with _ h
    injection h with _ h
    injection h with _ h
    injection h
  have := congrArg UInt8.toNat h'
  simp only [UInt8.toNat_ofNat'] at this
  omega
theorem lab_not_core (i : Nat) : labL i ∉ coreKeys.map (·.1) := not_core ⟨by simp [labL], by simp [labL]⟩
theorem obj_class : classB (dl objB) = true := by decide +kernel
def labs (idx : Nat → Nat) (m : Nat) : List ByteArray := (List.range m).map fun j => lab (idx j)
theorem labs_get {idx : Nat → Nat} {m j : Nat} {x : ByteArray} (h : (labs idx m)[j]? = some x) : j < m ∧ x = lab (idx j) := by
  unfold labs at h
  rw [List.getElem?_map] at h
  by_cases hj : j < m
  · rw [List.getElem?_range hj] at h
    exact ⟨hj, by simpa using h.symm⟩
  · rw [List.getElem?_eq_none (by simpa using hj)] at h
    cases h
theorem labs_at {idx : Nat → Nat} {m j : Nat} (hj : j < m) : (labs idx m)[j]? = some (lab (idx j)) := by
  unfold labs
  rw [List.getElem?_map, List.getElem?_range hj]
  rfl
theorem labs_head {idx : Nat → Nat} {m : Nat} (z : ByteArray) (hm : 0 < m) : (labs idx m).headD z = lab (idx 0) := by
  cases m with
  | zero => omega
  | succ m => unfold labs; rw [List.range_succ_eq_map]; rfl
theorem labs_len (idx : Nat → Nat) (m : Nat) : (labs idx m).length = m := by simp [labs]
theorem labs_mem {idx : Nat → Nat} {m : Nat} {x : ByteArray} (h : x ∈ labs idx m) : ∃ j, j < m ∧ x = lab (idx j) := by
  obtain ⟨j, hj⟩ := List.mem_iff_getElem?.1 h
  exact ⟨j, labs_get hj⟩
theorem path_labs {defs : List UInt8 → Option (List UInt8)} {z : ByteArray} (up : Nat → ByteArray) (idx : Nat → Nat) (m : Nat)
    (h : ∀ j, j < m → idx j < 26 ∧ defs (labL (idx j)) = some (bareL (labL (idx j)) (dl (up (idx j)))) ∧ classB (dl (up (idx j))) = true ∧ (up (idx j)).size ≤ 1000 ∧ up (idx j) = if j + 1 < m then lab (idx (j + 1)) else z) :
    Path (rdD checkB defs) (labs idx m) z := by
  refine path_of _ fun j x hx => ?_
  obtain ⟨hj, rfl⟩ := labs_get hx
  obtain ⟨h1, h2, h3, h4, h5⟩ := h j hj
  obtain ⟨o1, o2, o3, o4⟩ := outT_bare (labL (idx j)) (dl (up (idx j)))
  refine ⟨_, _, rdD_bare (s := lab (idx j)) (sp := up (idx j)) h2 (lab_class _ h1).1 h3 (by simp [lab, labL, ByteArray.size]) h4, o1, ?_, o4, o3⟩
  show (outT (bareC (labL (idx j)) (dl (up (idx j))))).sup = _
  rw [o2]
  by_cases hm : j + 1 < m
  · rw [if_pos hm] at h5
    rw [labs_at hm, h5]
    rfl
  · rw [if_neg hm] at h5
    rw [List.getElem?_eq_none (by rw [labs_len]; omega), h5]
    rfl
theorem labs_nodup {idx : Nat → Nat} {m : Nat} (h1 : ∀ j, j < m → idx j < 26) (h : ∀ i j, i < j → j < m → idx i ≠ idx j) : ((labs idx m).map dl).Nodup := by
  unfold labs
  rw [List.map_map]
  unfold List.Nodup
  rw [List.pairwise_map]
  refine List.Pairwise.imp_of_mem (fun {a b} ha hb hab e => ?_) (List.pairwise_lt_range (n := m))
  have ha' := List.mem_range.1 ha
  have hb' := List.mem_range.1 hb
  exact h a b hab hb' (lab_inj (h1 a ha') (h1 b hb') e)
def core0 : LT := ⟨coreKeys, fun _ => none⟩
theorem labs_new (idx : Nat → Nat) (m : Nat) : ∀ x ∈ labs idx m, dl x ∉ core0.names := fun x hx => by
  obtain ⟨j, _, rfl⟩ := labs_mem hx
  exact lab_not_core _
/-- A row of classes above each other, and above java/lang/Object in the end: all are loaded. -/
theorem labs_ok {defs : List UInt8 → Option (List UInt8)} (up : Nat → ByteArray) (idx : Nat → Nat) (m : Nat) (hm0 : 0 < m) (hm : m ≤ 60)
    (h : ∀ j, j < m → idx j < 26 ∧ defs (labL (idx j)) = some (bareL (labL (idx j)) (dl (up (idx j)))) ∧ classB (dl (up (idx j))) = true ∧ (up (idx j)).size ≤ 1000 ∧ up (idx j) = if j + 1 < m then lab (idx (j + 1)) else objB)
    (hi : ∀ i j, i < j → j < m → idx i ≠ idx j) : ∃ σ', loadP (rdD checkB defs) 65 [] core0 (lab (idx 0)) = (none, σ') ∧ σ'.ts.length = 26 + m := by
  have hk : dl objB ∈ core0.names := by
    have := obj_known []
    rw [List.append_nil] at this
    exact this
  have hg : Good core0.ts objB := by
    have := good_obj []
    rw [List.append_nil] at this
    exact this
  obtain ⟨σ', h1, h2, h3, h4⟩ := path_ok (rd := rdD checkB defs) (z := objB) (σ := core0) (labs idx m) [] (64 - m + 1) (path_labs up idx m h) (labs_new idx m) (by simp) (labs_nodup (fun j hj => (h j hj).1) hi) (load_known hk) hg
  rw [labs_len, labs_head _ hm0] at h1
  have e : m + (64 - m + 1) = 65 := by omega
  rw [e] at h1
  refine ⟨σ', h1, ?_⟩
  rw [h3, labs_len]
  rfl
theorem labs_bad {defs : List UInt8 → Option (List UInt8)} (up : Nat → ByteArray) (idx : Nat → Nat) (m : Nat) (z e : ByteArray) (hm : m ≤ 60)
    (h : ∀ j, j < m → idx j < 26 ∧ defs (labL (idx j)) = some (bareL (labL (idx j)) (dl (up (idx j)))) ∧ classB (dl (up (idx j))) = true ∧ (up (idx j)).size ≤ 1000 ∧ up (idx j) = if j + 1 < m then lab (idx (j + 1)) else z)
    (hi : ∀ i j, i < j → j < m → idx i ≠ idx j) (hz : ∀ f, loadP (rdD checkB defs) (f + 1) ((labs idx m).map dl) core0 z = (some e, core0)) : loadP (rdD checkB defs) 65 [] core0 ((labs idx m).headD z) = (some e, core0) := by
  have := path_err (rd := rdD checkB defs) (z := z) (e := e) (σ := core0) (labs idx m) [] (64 - m + 1) (path_labs up idx m h) (labs_new idx m) (by simp) (labs_nodup (fun j hj => (h j hj).1) hi) (by simpa using hz (64 - m))
  rw [labs_len] at this
  have e : m + (64 - m + 1) = 65 := by omega
  rwa [e] at this
/-- What the definitions of such classes are. -/
structure LabDefs (P : Nat → Prop) (up : Nat → ByteArray) (defs : List UInt8 → Option (List UInt8)) : Prop where
  at' : ∀ j, P j → defs (labL j) = some (bareL (labL j) (dl (up j)))
  only : ∀ s l, defs s = some l → ∃ j, P j ∧ s = labL j ∧ l = bareL (labL j) (dl (up j))
  lt : ∀ j, P j → j < 26
  ok : ∀ j, P j → classB (dl (up j)) = true ∧ (up j).size ≤ 1000
theorem labDefs_none (up : Nat → ByteArray) : LabDefs (fun _ => False) up (fun _ => none) := ⟨fun _ h => False.elim h, fun _ _ h => (by cases h), fun _ h => False.elim h, fun _ h => False.elim h⟩
theorem LabDefs.put {P Q : Nat → Prop} {up : Nat → ByteArray} {defs : List UInt8 → Option (List UInt8)} (h : LabDefs P up defs) (i : Nat) (hi : i < 26) (hu : classB (dl (up i)) = true ∧ (up i).size ≤ 1000) (hQ : ∀ j, Q j ↔ P j ∨ j = i) : LabDefs Q up (putL defs (labL i) (bareL (labL i) (dl (up i)))) := by
  refine ⟨fun j hj => ?_, fun s l hs => ?_, fun j hj => ?_, fun j hj => ?_⟩
  · unfold putL
    by_cases e : labL j = labL i
    · rcases (hQ j).1 hj with hp | rfl
      · rw [if_pos e, lab_inj (h.lt j hp) hi e]
      · rw [if_pos e]
    · rw [if_neg e]
      rcases (hQ j).1 hj with hp | rfl
      · exact h.at' j hp
      · exact absurd rfl e
  · unfold putL at hs
    by_cases e : s = labL i
    · rw [if_pos e] at hs
      injection hs with hs
      exact ⟨i, (hQ i).2 (.inr rfl), e, hs.symm⟩
    · rw [if_neg e] at hs
      obtain ⟨j, h1, h2⟩ := h.only s l hs
      exact ⟨j, (hQ j).2 (.inl h1), h2⟩
  · rcases (hQ j).1 hj with hp | rfl
    · exact h.lt j hp
    · exact hi
  · rcases (hQ j).1 hj with hp | rfl
    · exact h.ok j hp
    · exact hu
theorem LabDefs.free {P : Nat → Prop} {up : Nat → ByteArray} {defs : List UInt8 → Option (List UInt8)} (h : LabDefs P up defs) {i : Nat} (hi : i < 26) (hn : ¬ P i) : defs (labL i) = none := by
  rcases hq : defs (labL i) with _ | l
  · rfl
  · obtain ⟨j, h1, h2, _⟩ := h.only _ _ hq
    exact absurd (lab_inj hi (h.lt j h1) h2 ▸ h1) hn
def labDn : List (List UInt8) := (List.range 26).map labL
theorem LabDefs.ldK {P : Nat → Prop} {up : Nat → ByteArray} {defs : List UInt8 → Option (List UInt8)} (h : LabDefs P up defs) : LdK checkB defs labDn := by
  refine ldK_bare defs labDn (fun s l hs => ?_) (by simp [labDn]) (fun s l hs => ?_)
  · obtain ⟨j, h1, rfl, _⟩ := h.only _ _ hs
    exact List.mem_map.2 ⟨j, List.mem_range.2 (h.lt j h1), rfl⟩
  · obtain ⟨j, h1, _, rfl⟩ := h.only _ _ hs
    exact ⟨_, _, rfl, by simp [labL], by simpa [dl] using (h.ok j h1).2⟩
/-- The super of a class of LoadRound. -/
def upR (n : Nat) (round : Bool) (i : Nat) : ByteArray := if i + 1 < n then lab (i + 1) else if round then lab 0 else objB
theorem upR_ok (n : Nat) (round : Bool) (hn : n ≤ 26) (i : Nat) : classB (dl (upR n round i)) = true ∧ (upR n round i).size ≤ 1000 := by
  unfold upR
  split
  · exact ⟨(lab_class (i + 1) (by omega)).1, by simp [lab, labL, ByteArray.size]⟩
  · split
    · exact ⟨(lab_class 0 (by omega)).1, by simp [lab, labL, ByteArray.size]⟩
    · exact ⟨obj_class, by decide⟩
theorem round_yes {defs : List UInt8 → Option (List UInt8)} (n k : Nat) (hn : n ≤ 20) (hk : k < n) (h : LabDefs (fun j => j < n) (upR n true) defs) : loadP (rdD checkB defs) 65 [] core0 (lab k) = (some circB, core0) := by
  have e := labs_bad (defs := defs) (upR n true) (fun j => if k + j < n then k + j else k + j - n) n (lab k) circB (by omega) (fun j hj => ?_) (fun i j h1 h2 => ?_) (fun f => ?_)
  · rw [labs_head _ (by omega)] at e
    simpa [hk] using e
  · have hb : (if k + j < n then k + j else k + j - n) < n := by split <;> omega
    refine ⟨by omega, h.at' _ hb, (upR_ok n true (by omega) _).1, (upR_ok n true (by omega) _).2, ?_⟩
    unfold upR
    by_cases h1 : j + 1 < n
    · rw [if_pos h1]
      by_cases h2 : k + j + 1 < n
      · rw [if_pos (by rw [if_pos (by omega)]; omega), if_pos (by omega), if_pos (by omega)]
        rfl
      · by_cases h3 : k + j + 1 = n
        · rw [if_neg (by rw [if_pos (by omega)]; omega), if_pos rfl, if_neg (by omega)]
          congr 1
          omega
        · rw [if_pos (by rw [if_neg (by omega)]; omega), if_neg (by omega), if_neg (by omega)]
          congr 1
          omega
    · rw [if_neg h1]
      by_cases h2 : k = 0
      · rw [if_neg (by rw [if_pos (by omega)]; omega), if_pos rfl, h2]
      · rw [if_pos (by rw [if_neg (by omega)]; omega), if_neg (by omega)]
        congr 1
        omega
  · split <;> split <;> omega
  · refine load_circ (lab_not_core k) ?_
    rw [List.mem_map]
    exact ⟨lab k, List.mem_of_getElem? (i := 0) (by rw [labs_at (by omega)]; simp [hk]), rfl⟩
theorem round_no {defs : List UInt8 → Option (List UInt8)} (n k : Nat) (hn : n ≤ 20) (hk : k < n) (h : LabDefs (fun j => j < n) (upR n false) defs) : ∃ σ', loadP (rdD checkB defs) 65 [] core0 (lab k) = (none, σ') ∧ σ'.ts.length = 26 + (n - k) := by
  refine labs_ok (defs := defs) (upR n false) (fun j => k + j) (n - k) (by omega) (by omega) (fun j hj => ?_) (fun i j h1 h2 => by omega)
  refine ⟨by omega, h.at' _ (by omega), (upR_ok n false (by omega) _).1, (upR_ok n false (by omega) _).2, ?_⟩
  unfold upR
  by_cases h1 : j + 1 < n - k
  · rw [if_pos h1, if_pos (by omega)]
    rfl
  · rw [if_neg h1, if_neg (by omega)]
    rfl
/-- LoadLate, ahead of the definition that lacks. -/
theorem late_bad {defs : List UInt8 → Option (List UInt8)} (n gap : Nat) (hn : n ≤ 20) (hk : gap < n) (h : LabDefs (fun j => j < n ∧ j ≠ gap) (upR n false) defs) : loadP (rdD checkB defs) 65 [] core0 (lab 0) = (some noDefB, core0) := by
  have e := labs_bad (defs := defs) (upR n false) (fun j => j) gap (lab gap) noDefB (by omega) (fun j hj => ?_) (fun i j h1 h2 => by omega) (fun f => ?_)
  · by_cases h0 : 0 < gap
    · rw [labs_head _ h0] at e
      exact e
    · have h0 : gap = 0 := by omega
      subst h0
      exact e
  · refine ⟨by omega, h.at' _ ⟨by omega, by omega⟩, (upR_ok n false (by omega) _).1, (upR_ok n false (by omega) _).2, ?_⟩
    unfold upR
    rw [if_pos (by omega)]
    by_cases h1 : j + 1 < gap
    · rw [if_pos h1]
    · rw [if_neg h1]
      congr 1
      omega
  · refine load_bad (lab_not_core gap) ?_ (rdD_none (h.free (by omega) (by simp)))
    rw [List.mem_map]
    rintro ⟨x, hx, e⟩
    obtain ⟨j, hj, rfl⟩ := labs_mem hx
    have := lab_inj (by omega) (by omega) (show labL j = labL gap from e)
    omega
end Go.Proofs.YtdbniocnjhfhdaaGreatDoor
