/-
  What the loader's laws rest on, part 26: walks of the program's functions and plain laws. Conditions: none but those that each theorem names.
-/
import Derived.Test.YtdbniocnjhfhdaaGreatDoorB25
import Derived.Test.YtdbniocnjhfhdaaGreatDoorB13
import Derived.Test.YtdbniocnjhfhdaaGreatDoorB16

set_option linter.unusedSimpArgs false
set_option linter.unusedVariables false
set_option maxRecDepth 100000
set_option maxHeartbeats 4000000
namespace Go.Proofs.YtdbniocnjhfhdaaGreatDoor
open Go Go.RowKit Lib
theorem region_odef (a0 : Act) (b off n cap k : Nat) (d : DfD) (A' : Option Addr) (n' c' : Nat) (B : Nat) (L : LPos) (v : Value) (σ : St) (w9 : World) (Q : Exit → Act → World → Prop) (hz : a0.tmps.size = 148) (e0 : a0.eval (.tmp 0) = .slice (some ⟨b, off, none⟩) n cap) (e6 : a0.eval (.tmp 6) = .int .i64 k) (e5 : a0.eval (.tmp 5) = .pointer (some ⟨L.lb, 0, none⟩)) (hk : k < n) (hcap : n ≤ cap) (hcm : n ≤ 9223372036854775807) (hD : DfC w9 b (off + k * 3) d A' n' c') (hR : RdB w9 A' n' c' d.bytes) (hns : d.name.size ≤ 9223372036854775807) (hT : At1 B L v σ w9) (hB : 0 < B) (hbB : b < B) (hAB : ∀ a, A' = some a → 0 < d.bytes.length → a.block < B) (hgl : GlB w9)
    (hQ : ∀ c a d v w, Q (.panic c) (a.put (some d) v) w → Q (.panic c) a w)
    (hfin : ∀ (bb : Act) (W' : World), bb.tmps.size = 148 → bb.defers = a0.defers → (∀ i : Nat, (i < 70 ∨ 81 < i) → bb.eval (.tmp i) = a0.eval (.tmp i)) → At1 B L v (σ.define d.name d.bytes) W' → Below B w9 W' → Q .normal bb W') :
    Code.wp Tryz.prog (Code.region 15 #[{ dst := some 70, op := Op.move (Operand.tmp 5), type := 25, pos := "law.go:116", after := #[], guard := none }, { dst := some 71, op := Op.move (Operand.tmp 0), type := 22, pos := "law.go:116", after := #[], guard := none }, { dst := some 72, op := Op.move (Operand.tmp 6), type := 3, pos := "law.go:116", after := #[], guard := none }, { dst := some 73, op := Op.indexAddr 22 (Operand.tmp 71) (Operand.tmp 72), type := 0, pos := "law.go:116", after := #[{ on := 1, ground := Ground.data }, { on := 2, ground := Ground.data }], guard := none }, { dst := some 74, op := Op.fieldAddr 29 (Operand.tmp 73) 0, type := 0, pos := "law.go:116", after := #[{ on := 3, ground := Ground.data }], guard := none }, { dst := some 75, op := Op.load 9 (Operand.tmp 74), type := 9, pos := "law.go:116", after := #[{ on := 4, ground := Ground.data }], guard := none }, { dst := some 76, op := Op.move (Operand.tmp 0), type := 22, pos := "law.go:116", after := #[], guard := none }, { dst := some 77, op := Op.move (Operand.tmp 6), type := 3, pos := "law.go:116", after := #[], guard := none }, { dst := some 78, op := Op.indexAddr 22 (Operand.tmp 76) (Operand.tmp 77), type := 0, pos := "law.go:116", after := #[{ on := 6, ground := Ground.data }, { on := 7, ground := Ground.data }], guard := none }, { dst := some 79, op := Op.fieldAddr 29 (Operand.tmp 78) 1, type := 0, pos := "law.go:116", after := #[{ on := 8, ground := Ground.data }], guard := none }, { dst := some 80, op := Op.load 27 (Operand.tmp 79), type := 27, pos := "law.go:116", after := #[{ on := 9, ground := Ground.data }], guard := none }, { dst := some 81, op := Op.call { callee := Callee.value (Operand.func 15), args := #[Operand.tmp 70, Operand.tmp 75, Operand.tmp 80], argTypes := #[25, 9, 27] }, type := 33, pos := "law.go:116", after := #[{ on := 0, ground := Ground.data }, { on := 5, ground := Ground.data }, { on := 10, ground := Ground.data }], guard := none }] true) Q a0 w9 := by
  refine wp_region_held_drew (S := fun w' => DfC w' b (off + k * 3) d A' n' c') rfl (show DfC w9.drew b (off + k * 3) d A' n' c' from ⟨hD.nm, hD.by', hD.ld⟩) (fun hS => ?_)
  have hdr := (Below.refl w9.heap.size w9).drew
  have T0 := Lib.hid (hT.below hdr)
  have HB0 := Lib.hid (show Below B w9 w9.drew from hdr.mono hT.sized.2)
  have hGl := Lib.hid (hgl.below hdr (by have := hT.sized.2; omega))
  have R0 := Lib.hid (hR.below hdr)
  have hi1 : (0 : Int) ≤ (k : Int) := by omega
  have hi2 : (k : Int) < (n : Int) := by omega
  clear hdr hD hT hgl hR
  generalize w9.drew = w10 at *
  have F : FrK a0 a0 148 70 81 := ⟨hz, rfl, fun _ _ => rfl⟩
  refine wpAnyH_take (i := 0) (v := .pointer (some ⟨L.lb, 0, none⟩)) rfl (by kernel_rfl) (by kernel_rfl) (by kernel_rfl) (fun _ _ _ h => hQ _ _ _ _ _ h) (Or.inl ⟨by rfl, fun w' hw' => ?_⟩) hS ?_
  · obtain ⟨z0, z1, z2⟩ := hw'
    generalize a0.eval = ρ at e5 ⊢
    go_simp
  show wpAnyH _ _ _ _ _ _ _ (Act.put a0 (some 70) (.pointer (some ⟨L.lb, 0, none⟩))) _
  obtain ⟨a1, ha, F, e70, hk'⟩ := F.put 70 (.pointer (some ⟨L.lb, 0, none⟩)) (by decide)
  replace e0 := (hk' 0 (by decide)).trans e0
  replace e6 := (hk' 6 (by decide)).trans e6
  rw [ha]
  clear hk' ha
  clear e5
  refine wpAnyH_take (i := 1) (v := .slice (some ⟨b, off, none⟩) n cap) rfl (by kernel_rfl) (by kernel_rfl) (by kernel_rfl) (fun _ _ _ h => hQ _ _ _ _ _ h) (Or.inl ⟨by rfl, fun w' hw' => ?_⟩) hS ?_
  · obtain ⟨z0, z1, z2⟩ := hw'
    generalize a1.eval = ρ at e0 ⊢
    go_simp
  show wpAnyH _ _ _ _ _ _ _ (Act.put a1 (some 71) (.slice (some ⟨b, off, none⟩) n cap)) _
  obtain ⟨a2, ha, F, e71, hk'⟩ := F.put 71 (.slice (some ⟨b, off, none⟩) n cap) (by decide)
  replace e0 := (hk' 0 (by decide)).trans e0
  replace e6 := (hk' 6 (by decide)).trans e6
  replace e70 := (hk' 70 (by decide)).trans e70
  rw [ha]
  clear hk' ha
  refine wpAnyH_take (i := 2) (v := .int .i64 k) rfl (by kernel_rfl) (by kernel_rfl) (by kernel_rfl) (fun _ _ _ h => hQ _ _ _ _ _ h) (Or.inl ⟨by rfl, fun w' hw' => ?_⟩) hS ?_
  · obtain ⟨z0, z1, z2⟩ := hw'
    generalize a2.eval = ρ at e6 ⊢
    go_simp
  show wpAnyH _ _ _ _ _ _ _ (Act.put a2 (some 72) (.int .i64 k)) _
  obtain ⟨a3, ha, F, e72, hk'⟩ := F.put 72 (.int .i64 k) (by decide)
  replace e0 := (hk' 0 (by decide)).trans e0
  replace e6 := (hk' 6 (by decide)).trans e6
  replace e70 := (hk' 70 (by decide)).trans e70
  replace e71 := (hk' 71 (by decide)).trans e71
  rw [ha]
  clear hk' ha
  refine wpAnyH_take (i := 3) (v := .pointer (some ⟨b, off + k * 3, none⟩)) rfl (by kernel_rfl) (by kernel_rfl) (by kernel_rfl) (fun _ _ _ h => hQ _ _ _ _ _ h) (Or.inl ⟨by rfl, fun w' hw' => ?_⟩) hS ?_
  · obtain ⟨z0, z1, z2⟩ := hw'
    generalize a3.eval = ρ at e71 e72 ⊢
    go_simp
  show wpAnyH _ _ _ _ _ _ _ (Act.put a3 (some 73) (.pointer (some ⟨b, off + k * 3, none⟩))) _
  obtain ⟨a4, ha, F, e73, hk'⟩ := F.put 73 (.pointer (some ⟨b, off + k * 3, none⟩)) (by decide)
  replace e0 := (hk' 0 (by decide)).trans e0
  replace e6 := (hk' 6 (by decide)).trans e6
  replace e70 := (hk' 70 (by decide)).trans e70
  rw [ha]
  clear hk' ha
  clear e71 e72
  refine wpAnyH_take (i := 4) (v := .pointer (some ⟨b, off + k * 3, none⟩)) rfl (by kernel_rfl) (by kernel_rfl) (by kernel_rfl) (fun _ _ _ h => hQ _ _ _ _ _ h) (Or.inl ⟨by rfl, fun w' hw' => ?_⟩) hS ?_
  · obtain ⟨z0, z1, z2⟩ := hw'
    generalize a4.eval = ρ at e73 ⊢
    go_simp
  show wpAnyH _ _ _ _ _ _ _ (Act.put a4 (some 74) (.pointer (some ⟨b, off + k * 3, none⟩))) _
  obtain ⟨a5, ha, F, e74, hk'⟩ := F.put 74 (.pointer (some ⟨b, off + k * 3, none⟩)) (by decide)
  replace e0 := (hk' 0 (by decide)).trans e0
  replace e6 := (hk' 6 (by decide)).trans e6
  replace e70 := (hk' 70 (by decide)).trans e70
  rw [ha]
  clear hk' ha
  clear e73
  refine wpAnyH_take (i := 5) (v := .string d.name) rfl (by kernel_rfl) (by kernel_rfl) (by kernel_rfl) (fun _ _ _ h => hQ _ _ _ _ _ h) (Or.inl ⟨by rfl, fun w' hw' => ?_⟩) hS ?_
  · obtain ⟨z0, z1, z2⟩ := hw'
    generalize a5.eval = ρ at e74 ⊢
    go_simp
  show wpAnyH _ _ _ _ _ _ _ (Act.put a5 (some 75) (.string d.name)) _
  obtain ⟨a6, ha, F, e75, hk'⟩ := F.put 75 (.string d.name) (by decide)
  replace e0 := (hk' 0 (by decide)).trans e0
  replace e6 := (hk' 6 (by decide)).trans e6
  replace e70 := (hk' 70 (by decide)).trans e70
  rw [ha]
  clear hk' ha
  clear e74
  refine wpAnyH_take (i := 6) (v := .slice (some ⟨b, off, none⟩) n cap) rfl (by kernel_rfl) (by kernel_rfl) (by kernel_rfl) (fun _ _ _ h => hQ _ _ _ _ _ h) (Or.inl ⟨by rfl, fun w' hw' => ?_⟩) hS ?_
  · obtain ⟨z0, z1, z2⟩ := hw'
    generalize a6.eval = ρ at e0 ⊢
    go_simp
  show wpAnyH _ _ _ _ _ _ _ (Act.put a6 (some 76) (.slice (some ⟨b, off, none⟩) n cap)) _
  obtain ⟨a7, ha, F, e76, hk'⟩ := F.put 76 (.slice (some ⟨b, off, none⟩) n cap) (by decide)
  replace e6 := (hk' 6 (by decide)).trans e6
  replace e70 := (hk' 70 (by decide)).trans e70
  replace e75 := (hk' 75 (by decide)).trans e75
  rw [ha]
  clear hk' ha
  clear e0
  refine wpAnyH_take (i := 7) (v := .int .i64 k) rfl (by kernel_rfl) (by kernel_rfl) (by kernel_rfl) (fun _ _ _ h => hQ _ _ _ _ _ h) (Or.inl ⟨by rfl, fun w' hw' => ?_⟩) hS ?_
  · obtain ⟨z0, z1, z2⟩ := hw'
    generalize a7.eval = ρ at e6 ⊢
    go_simp
  show wpAnyH _ _ _ _ _ _ _ (Act.put a7 (some 77) (.int .i64 k)) _
  obtain ⟨a8, ha, F, e77, hk'⟩ := F.put 77 (.int .i64 k) (by decide)
  replace e70 := (hk' 70 (by decide)).trans e70
  replace e75 := (hk' 75 (by decide)).trans e75
  replace e76 := (hk' 76 (by decide)).trans e76
  rw [ha]
  clear hk' ha
  clear e6
  refine wpAnyH_take (i := 8) (v := .pointer (some ⟨b, off + k * 3, none⟩)) rfl (by kernel_rfl) (by kernel_rfl) (by kernel_rfl) (fun _ _ _ h => hQ _ _ _ _ _ h) (Or.inl ⟨by rfl, fun w' hw' => ?_⟩) hS ?_
  · obtain ⟨z0, z1, z2⟩ := hw'
    generalize a8.eval = ρ at e76 e77 ⊢
    go_simp
  show wpAnyH _ _ _ _ _ _ _ (Act.put a8 (some 78) (.pointer (some ⟨b, off + k * 3, none⟩))) _
  obtain ⟨a9, ha, F, e78, hk'⟩ := F.put 78 (.pointer (some ⟨b, off + k * 3, none⟩)) (by decide)
  replace e70 := (hk' 70 (by decide)).trans e70
  replace e75 := (hk' 75 (by decide)).trans e75
  rw [ha]
  clear hk' ha
  clear e76 e77
  refine wpAnyH_take (i := 9) (v := .pointer (some ⟨b, off + k * 3 + 1, none⟩)) rfl (by kernel_rfl) (by kernel_rfl) (by kernel_rfl) (fun _ _ _ h => hQ _ _ _ _ _ h) (Or.inl ⟨by rfl, fun w' hw' => ?_⟩) hS ?_
  · obtain ⟨z0, z1, z2⟩ := hw'
    generalize a9.eval = ρ at e78 ⊢
    go_simp
  show wpAnyH _ _ _ _ _ _ _ (Act.put a9 (some 79) (.pointer (some ⟨b, off + k * 3 + 1, none⟩))) _
  obtain ⟨a10, ha, F, e79, hk'⟩ := F.put 79 (.pointer (some ⟨b, off + k * 3 + 1, none⟩)) (by decide)
  replace e70 := (hk' 70 (by decide)).trans e70
  replace e75 := (hk' 75 (by decide)).trans e75
  rw [ha]
  clear hk' ha
  clear e78
  refine wpAnyH_take (i := 10) (v := .slice A' n' c') rfl (by kernel_rfl) (by kernel_rfl) (by kernel_rfl) (fun _ _ _ h => hQ _ _ _ _ _ h) (Or.inl ⟨by rfl, fun w' hw' => ?_⟩) hS ?_
  · obtain ⟨z0, z1, z2⟩ := hw'
    generalize a10.eval = ρ at e79 ⊢
    go_simp
  show wpAnyH _ _ _ _ _ _ _ (Act.put a10 (some 80) (.slice A' n' c')) _
  obtain ⟨a11, ha, F, e80, hk'⟩ := F.put 80 (.slice A' n' c') (by decide)
  replace e70 := (hk' 70 (by decide)).trans e70
  replace e75 := (hk' 75 (by decide)).trans e75
  rw [ha]
  clear hk' ha
  clear e79
  refine wpAnyH_ready (rs := [11]) (by kernel_rfl) (by simp) ?_
  refine AllReadyH.cons rfl (fun K hK => ?_) AllReadyH.nil
  refine op_call (args := #[.pointer (some ⟨L.lb, 0, none⟩), .string d.name, .slice A' n' c']) rfl (by have ef : a11.eval (.func 15) = .func (.func 15) #[] #[] := rfl; generalize a11.eval = ρ at e70 e75 e80 ef ⊢; go_simp) (((T0.out).define d.name A' n' c' d.bytes hns R0.out R0.out.hmax).mono (R' := fun e W' => e = .returned (.int .i64 (σ.defE d.name d.bytes)) ∧ At1 B L v (σ.define d.name d.bytes) W' ∧ Below B w10 W') fun e W' hq => ⟨hq.1, hq.2.1, hq.2.2.bel⟩) ?_
  rintro e w11 ⟨rfl, hT', hb'⟩
  refine ⟨_, rfl, ?_⟩
  have T1 := Lib.hid (hT')
  have HB1 := Lib.hid (HB0.out.trans hb')
  have R1 := Lib.hid (rdB_low R0.out hb' hAB)
  have hS : (fun w' => DfC w' b (off + k * 3) d A' n' c') w11 := hS.low hb' hbB
  have hGl := Lib.hid (hGl.out.below hb' hB)
  clear hT' hb'
  refine hK.out _ _ hS (fun _ => ?_)
  clear hK K
  show wpAnyH _ _ _ _ _ _ _ (Act.put a11 (some 81) (.int .i64 (σ.defE d.name d.bytes))) _
  obtain ⟨a12, ha, F, e81, hk'⟩ := F.put 81 (.int .i64 (σ.defE d.name d.bytes)) (by decide)
  rw [ha]
  clear hk' ha
  clear e70 e75 e80
  clear e81
  refine wpAnyH_done (by kernel_rfl) ?_ _
  exact hfin _ _ F.z F.d F.k T1.out HB1.out
end Go.Proofs.YtdbniocnjhfhdaaGreatDoor

set_option linter.unusedSimpArgs false
set_option linter.unusedVariables false
set_option maxRecDepth 100000
namespace Go.Proofs.YtdbniocnjhfhdaaGreatDoor
open Go Go.RowKit Lib
def nmsK (ts : List TyK) : List (List UInt8) := ts.map (·.1)
def FaceIn (ts : List TyK) (x : List UInt8) : Prop := ∃ (j : Nat) (u : TyK), ts[j]? = some u ∧ u.1 = x ∧ (bits .and .i64 u.2.2.1 512 != 0) = true ∧ ∀ i v, i < j → ts[i]? = some v → v.1 ≠ x
structure Ord (ts : List TyK) : Prop where
  nodup : (nmsK ts).Nodup
  sup : ∀ (i : Nat) t, ts[i]? = some t → 0 < i → t.2.1 ∈ nmsK (ts.take i)
  ifs : ∀ (i : Nat) t, ts[i]? = some t → ∀ x ∈ t.2.2.2, FaceIn (ts.take i) x
def coreOrd : Bool := decide ((nmsK coreKeys).Nodup) && (List.range 26).all fun i => match coreKeys[i]? with
  | none => true
  | some t => (decide (i = 0) || decide (t.2.1 ∈ nmsK (coreKeys.take i))) && t.2.2.2.isEmpty
theorem core_ord : coreOrd = true := by decide +kernel
theorem core_len : coreKeys.length = 26 := by decide +kernel
theorem ord_core : Ord coreKeys := by
  have h := core_ord
  unfold coreOrd at h
  rw [Bool.and_eq_true] at h
  have hall : ∀ i t, coreKeys[i]? = some t → (i = 0 ∨ t.2.1 ∈ nmsK (coreKeys.take i)) ∧ t.2.2.2 = [] := fun i t ht => by
    have hlt : i < 26 := by rw [← core_len]; exact (List.getElem?_eq_some_iff.1 ht).1
    have h2 := List.all_eq_true.1 h.2 i (List.mem_range.2 hlt)
    rw [ht] at h2
    simpa using h2
  refine ⟨by simpa using h.1, fun i t ht h0 => ?_, fun i t ht x hx => ?_⟩
  · rcases (hall i t ht).1 with h1 | h1
    · omega
    · exact h1
  · rw [(hall i t ht).2] at hx
    cases hx
theorem ord_snoc {ts : List TyK} {t : TyK} (h : Ord ts) (hn : t.1 ∉ nmsK ts) (hs : t.2.1 ∈ nmsK ts) (hi : ∀ x ∈ t.2.2.2, FaceIn ts x) : Ord (ts ++ [t]) := by
  have hat : ∀ (i : Nat) u, (ts ++ [t])[i]? = some u → (i < ts.length ∧ ts[i]? = some u ∧ (ts ++ [t]).take i = ts.take i) ∨ (i = ts.length ∧ u = t ∧ (ts ++ [t]).take i = ts) := fun i u hu => by
    by_cases hlt : i < ts.length
    · rw [List.getElem?_append_left hlt] at hu
      exact .inl ⟨hlt, hu, by rw [List.take_append_of_le_length (by omega)]⟩
    · rw [List.getElem?_append_right (by omega)] at hu
      have h0 : i - ts.length = 0 := by
        have := (List.getElem?_eq_some_iff.1 hu).1
        simp at this
        omega
      rw [h0] at hu
      have he : i = ts.length := by omega
      subst he
      exact .inr ⟨rfl, by simpa using hu.symm, by simp⟩
  refine ⟨?_, fun i u hu h0 => ?_, fun i u hu x hx => ?_⟩
  · unfold nmsK
    rw [List.map_append, List.nodup_append]
    refine ⟨h.nodup, by simp, ?_⟩
    intro a ha b hb e
    obtain rfl : b = t.1 := by simpa using hb
    subst e
    exact hn ha
  · rcases hat i u hu with ⟨h1, h2, h3⟩ | ⟨h1, rfl, h3⟩
    · rw [h3]; exact h.sup i u h2 h0
    · rw [h3]; exact hs
  · rcases hat i u hu with ⟨h1, h2, h3⟩ | ⟨h1, rfl, h3⟩
    · rw [h3]; exact h.ifs i u h2 x hx
    · rw [h3]; exact hi x hx
def PreK (ts ts' : List TyK) : Prop := ∃ r, ts' = ts ++ r
theorem PreK.refl (ts : List TyK) : PreK ts ts := ⟨[], by simp⟩
theorem PreK.trans {a b c : List TyK} (h : PreK a b) (k : PreK b c) : PreK a c := by
  obtain ⟨r, rfl⟩ := h
  obtain ⟨q, rfl⟩ := k
  exact ⟨r ++ q, by simp⟩
theorem PreK.mem {a b : List TyK} (h : PreK a b) {x : List UInt8} (hx : x ∈ nmsK a) : x ∈ nmsK b := by
  obtain ⟨r, rfl⟩ := h
  unfold nmsK
  rw [List.map_append]
  exact List.mem_append.2 (.inl hx)
theorem PreK.face {a b : List TyK} (h : PreK a b) {x : List UInt8} (hx : FaceIn a x) : FaceIn b x := by
  obtain ⟨r, rfl⟩ := h
  obtain ⟨j, u, h1, h2, h3, h4⟩ := hx
  have hl := (List.getElem?_eq_some_iff.1 h1).1
  exact ⟨j, u, by rw [List.getElem?_append_left hl]; exact h1, h2, h3, fun i v hi hv => h4 i v hi (by rw [List.getElem?_append_left (by omega)] at hv; exact hv)⟩
structure LoadK (going : List (List UInt8)) (σ : LT) (s : ByteArray) (r : Option ByteArray × LT) : Prop where
  ord : Ord r.2.ts
  pre : PreK σ.ts r.2.ts
  go : ∀ y ∈ going, y ∉ nmsK r.2.ts
  has : r.1 = none → s.data.toList ∈ nmsK r.2.ts
def LoadsK (going : List (List UInt8)) (ld : LT → ByteArray → Option ByteArray × LT) : Prop := ∀ σ s, Ord σ.ts → (∀ y ∈ going, y ∉ nmsK σ.ts) → LoadK going σ s (ld σ s)
theorem face_in {ts : List TyK} {to : ByteArray} (hm : to.data.toList ∈ nmsK ts) (hf : faceB ts to = true) : FaceIn ts to.data.toList := by
  unfold faceB accAt at hf
  have hm' : to.toList ∈ ts.map (·.1) := by rw [ByteArray.toList_eq]; exact hm
  rcases hj : (ts.map (·.1)).findIdx? (fun x => x == to.toList) with _ | j
  · rw [List.findIdx?_eq_none_iff] at hj
    have := hj _ hm'
    simp at this
  · have hat : atOf (ts.map (·.1)) to.toList = j := by unfold atOf; rw [hj]
    obtain ⟨hjl, hj1, hj2⟩ := List.findIdx?_eq_some_iff_getElem.1 hj
    rw [List.length_map] at hjl
    rw [hat, Int.toNat_natCast, List.getElem?_eq_getElem hjl] at hf
    refine ⟨j, ts[j], List.getElem?_eq_getElem hjl, ?_, by simpa using hf, fun i v hi hv => ?_⟩
    · have : (ts[j]).1 = to.toList := by simpa using hj1
      rw [this, ByteArray.toList_eq]
    · have h2 := hj2 i hi
      have hil : i < ts.length := by omega
      have e : ts[i] = v := (List.getElem?_eq_some_iff.1 hv).2
      simp only [List.getElem_map, e] at h2
      intro e2
      rw [e2, ByteArray.toList_eq] at h2
      simp at h2
theorem above_keeps {going : List (List UInt8)} {ld : LT → ByteArray → Option ByteArray × LT} (h : LoadsK going ld) (σ : LT) (frm to : ByteArray) (face : Bool) (ho : Ord σ.ts) (hg : ∀ y ∈ going, y ∉ nmsK σ.ts) :
    LoadK going σ to (aboveW ld σ frm to face) ∧ ((aboveW ld σ frm to face).1 = none → faceB (aboveW ld σ frm to face).2.ts to = face) := by
  have hk := h σ to ho hg
  unfold aboveW
  rcases hl : ld σ to with ⟨_ | e, σ1⟩
  · rw [hl] at hk
    dsimp only
    by_cases h1 : seesB σ1.ts frm to = false
    · rw [if_pos h1]
      exact ⟨⟨hk.ord, hk.pre, hk.go, fun e => by cases e⟩, fun e => by cases e⟩
    · rw [if_neg h1]
      by_cases h2 : faceB σ1.ts to ≠ face
      · rw [if_pos h2]
        exact ⟨⟨hk.ord, hk.pre, hk.go, fun e => by cases e⟩, fun e => by cases e⟩
      · rw [if_neg h2]
        exact ⟨hk, fun _ => Classical.byContradiction h2⟩
  · rw [hl] at hk
    exact ⟨⟨hk.ord, hk.pre, hk.go, fun e => by cases e⟩, fun e => by cases e⟩
theorem faces_keep {going : List (List UInt8)} {ld : LT → ByteArray → Option ByteArray × LT} (h : LoadsK going ld) (frm : ByteArray) : ∀ (l : List ByteArray) (σ : LT), Ord σ.ts → (∀ y ∈ going, y ∉ nmsK σ.ts) →
    Ord (facesW ld frm l σ).2.ts ∧ PreK σ.ts (facesW ld frm l σ).2.ts ∧ (∀ y ∈ going, y ∉ nmsK (facesW ld frm l σ).2.ts) ∧ ((facesW ld frm l σ).1 = none → ∀ x ∈ l, FaceIn (facesW ld frm l σ).2.ts x.data.toList)
  | [], σ, ho, hg => by
    unfold facesW
    exact ⟨ho, PreK.refl _, hg, fun _ x hx => by cases hx⟩
  | t :: r, σ, ho, hg => by
    obtain ⟨hk, hf⟩ := above_keeps h σ frm t true ho hg
    unfold facesW
    rcases hl : aboveW ld σ frm t true with ⟨_ | e, σ1⟩
    · rw [hl] at hk hf
      dsimp only
      obtain ⟨a1, a2, a3, a4⟩ := faces_keep h frm r σ1 hk.ord hk.go
      refine ⟨a1, hk.pre.trans a2, a3, fun e x hx => ?_⟩
      rcases List.mem_cons.1 hx with rfl | hx
      · exact a2.face (face_in (hk.has rfl) (hf rfl))
      · exact a4 e x hx
    · rw [hl] at hk
      exact ⟨hk.ord, hk.pre, hk.go, fun e => by cases e⟩
theorem loadP_keeps (rd : ByteArray → Except ByteArray (ClassV × TypV)) (dn : List (List UInt8)) (hrd : ∀ s c t, rd s = .ok (c, t) → t.name = s ∧ s.data.toList ∈ dn) : ∀ (n : Nat) (going : List (List UInt8)), (dn.filter fun x => decide (x ∉ going)).length < n → LoadsK going (loadP rd n going)
  | 0, _, h => absurd h (Nat.not_lt_zero _)
  | n + 1, going, hfu => fun σ s ho hg => by
    unfold loadP
    by_cases h1 : s.data.toList ∈ σ.names
    · rw [if_pos h1]
      exact ⟨ho, PreK.refl _, hg, fun _ => h1⟩
    · rw [if_neg h1]
      by_cases h2 : s.data.toList ∈ going
      · rw [if_pos h2]
        exact ⟨ho, PreK.refl _, hg, fun e => by cases e⟩
      · rw [if_neg h2]
        rcases hr : rd s with e | ⟨c, t⟩
        · exact ⟨ho, PreK.refl _, hg, fun e => by cases e⟩
        · dsimp only
          obtain ⟨hnm, hdn⟩ := hrd s c t hr
          have hless := filter_less (dn := dn) (going := going) (s := s.data.toList) hdn h2
          have ih := loadP_keeps rd dn hrd n (going ++ [s.data.toList]) (by omega)
          have hg' : ∀ y ∈ going ++ [s.data.toList], y ∉ nmsK σ.ts := fun y hy => by
            rcases List.mem_append.1 hy with hy | hy
            · exact hg y hy
            · obtain rfl : y = s.data.toList := by simpa using hy
              exact h1
          obtain ⟨hk, hf⟩ := above_keeps ih σ s t.sup false ho hg'
          rcases hl : aboveW (loadP rd n (going ++ [s.data.toList])) σ s t.sup false with ⟨_ | e, σ1⟩
          · rw [hl] at hk hf
            dsimp only
            obtain ⟨a1, a2, a3, a4⟩ := faces_keep ih s t.ifs σ1 hk.ord hk.go
            rcases hl2 : facesW (loadP rd n (going ++ [s.data.toList])) s t.ifs σ1 with ⟨_ | e, σ2⟩
            · rw [hl2] at a1 a2 a3 a4
              dsimp only at a1 a2 a3 a4 ⊢
              have hkey : t.key.1 = s.data.toList := by rw [← hnm]; rfl
              refine ⟨ord_snoc a1 (by rw [hkey]; exact a3 _ (by simp)) (a2.mem (hk.has rfl)) (fun x hx => ?_), (hk.pre.trans a2).trans ⟨[t.key], rfl⟩, fun y hy => ?_, fun _ => ?_⟩
              · obtain ⟨b, hb, rfl⟩ := List.mem_map.1 (show x ∈ t.ifs.map (·.data.toList) from hx)
                exact a4 rfl b hb
              · show y ∉ nmsK (σ2.ts ++ [t.key])
                unfold nmsK
                rw [List.map_append]
                intro hm
                rcases List.mem_append.1 hm with hm | hm
                · exact a3 y (by simp [hy]) hm
                · have : y = s.data.toList := by simpa [hkey] using hm
                  subst this
                  exact h2 hy
              · show s.data.toList ∈ nmsK (σ2.ts ++ [t.key])
                unfold nmsK
                rw [List.map_append]
                exact List.mem_append.2 (.inr (by simp [hkey]))
            · rw [hl2] at a1 a2 a3
              exact ⟨a1, hk.pre.trans a2, fun y hy => a3 y (by simp [hy]), fun e => by cases e⟩
          · rw [hl] at hk
            exact ⟨hk.ord, hk.pre, fun y hy => hk.go y (by simp [hy]), fun e => by cases e⟩
end Go.Proofs.YtdbniocnjhfhdaaGreatDoor

set_option linter.unusedSimpArgs false
set_option linter.unusedVariables false
set_option maxRecDepth 100000
set_option maxHeartbeats 1000000
namespace Go.Proofs.YtdbniocnjhfhdaaGreatDoor
open Go Go.RowKit Lib
theorem rat_any (g n cap : Nat) (ns : List (List UInt8)) (s : ByteArray) (w : World) (hl : ns.length = n) (hcap : n ≤ cap) (hm : n ≤ 4611686018427387904) (hc : ∀ j t, ns[j]? = some t → w.cell? ⟨g, j * 6, none⟩ = some (.string ⟨t.toArray⟩)) :
    Calls Tryz.prog 16 #[.slice (some ⟨g, 0, none⟩) n cap, .string s] w fun e w' => e = .returned (.int .i64 (atOf ns s.toList)) ∧ w = w' := by
  have HC := Lib.hid hc
  have HL := Lib.hid hl
  clear hc hl
  go_enter Tryz.func16, Tryz.ntmps16
  go_wp2_with fail
  go_loop [5] (fun i => ∃ k : Nat, k ≤ n ∧ i = .int .i64 k ∧ Hid (∀ j, j < k → ∀ x, ns[j]? = some x → x ≠ s.toList)) (fun i => n - (RowKit.intOf i).toNat)
  case atStart => exact ⟨0, by omega, rfl, fun j hj => absurd hj (by omega)⟩
  case round =>
    obtain ⟨k, hk, rfl, HN⟩ := hrel
    by_cases hlt : k < n
    · obtain ⟨t, ht⟩ : ∃ t, ns[k]? = some t := ⟨_, List.getElem?_eq_getElem (by rw [HL.out]; exact hlt)⟩
      have c0 := HC.out k t ht
      have HT := Lib.hid ht
      clear ht
      by_cases he : t = s.toList
      · have HR := Lib.hid (atOf_hit (he ▸ HT.out) HN.out)
        have hb0 : (t == s.toList) = true := by simp [he]
        clear he
        go_wp2_with fail
        go_ret
        exact ⟨by rw [HR.out]; rfl, rfl⟩
      · have hb0 : (t == s.toList) = false := by simp [he]
        have HE := Lib.hid he
        clear he
        go_wp2_with fail
        go_round
        case rel => exact ⟨k + 1, by omega, by go_num, fun j hj x hx => by
          rcases Nat.lt_or_ge j k with h | h
          · exact HN.out j h x hx
          · obtain rfl : j = k := by omega
            rw [HT.out] at hx
            injection hx with hx
            subst hx
            exact HE.out⟩
        case measure => simp [RowKit.intOf]; omega
    · have hmiss := atOf_miss (ns := ns) (s := s.toList) (fun j x hx => HN.out j (by have := (List.getElem?_eq_some_iff.1 hx).1; have := HL.out; omega) x hx)
      have HMI := Lib.hid hmiss
      clear hmiss
      go_wp2_with fail
      go_ret
      exact ⟨by rw [HMI.out]; rfl, rfl⟩
end Go.Proofs.YtdbniocnjhfhdaaGreatDoor

set_option linter.unusedSimpArgs false
set_option linter.unusedVariables false
set_option maxRecDepth 100000
set_option maxHeartbeats 4000000
namespace Go.Proofs.YtdbniocnjhfhdaaGreatDoor
open Go Go.RowKit Lib
theorem DfAt.low {B : Nat} {w w' : World} {b o : Nat} {d : DfD} (h : DfAt w b o d) (hb : Below B w w') (hl : b < B) (hB : B = w.heap.size) : DfAt w' b o d := by
  obtain ⟨A, n, c, h1, h2⟩ := h.by'
  subst hB
  exact ⟨(hb.cell (p := ⟨b, o, none⟩) hl).trans h.nm, ⟨A, n, c, (hb.cell (p := ⟨b, o + 1, none⟩) hl).trans h1, h2.below hb⟩, (hb.cell (p := ⟨b, o + 2, none⟩) hl).trans h.ld, h.ns⟩
theorem RdDf.below {w w' : World} {A : Option Addr} {n c : Nat} {l : List DfD} (h : RdDf w A n c l) (hb : Below w.heap.size w w') : RdDf w' A n c l :=
  ⟨h.hlen, h.hle, h.hmax, fun h0 => by
    obtain ⟨b, off, e, hlt, hc⟩ := h.hat h0
    exact ⟨b, off, e, Nat.lt_of_lt_of_le hlt hb.size, fun i hi => (hc i hi).low hb hlt rfl⟩⟩
def MuchP (w : World) (e : Ending) (w' : World) : Prop := ∃ b, e = .returned (.bool b) ∧ Below w.heap.size w w'
theorem much_any (A : Option Addr) (len cap : Nat) (l : List DfD) (w : World) (h : RdDf w A len cap l) : Calls Tryz.prog 11 #[.slice A len cap] w (MuchP w) := by
  have HD := Lib.hid h
  have hmx := h.hmax
  have hle := h.hle
  clear h
  go_enter Tryz.func11, Tryz.ntmps11
  go_wp2_with fail
  go_loopw [3, 4] (fun n i wr => ∃ (k : Nat) (N : Int), k ≤ len ∧ i = .int .i64 k ∧ n = .int .i64 N ∧ Hid (Below w.heap.size w wr)) (fun _ i _ => len - (RowKit.intOf i).toNat)
  case atStart => exact ⟨0, 0, by omega, rfl, rfl, Lib.hid (Below.refl _ _)⟩
  case round =>
    obtain ⟨k, N, hk, rfl, rfl, HBr⟩ := hrel
    by_cases hlt : k < len
    · by_cases hN : N ≤ 80000
      · have dN : decide (N ≤ 80000) = true := decide_eq_true hN
        obtain ⟨b, off, hA, hbl, hat⟩ := (HD.out.below HBr.out).hat (by omega)
        subst hA
        obtain ⟨A', n', c', c1, hrb⟩ := (hat k hlt).by'
        have c0 := (hat k hlt).nm
        generalize l.getD k df0 = d at *
        have HB2 := Lib.hid (fun m => HBr.out.trans ((below_drewN (Below.refl wr.heap.size wr) m).mono HBr.out.size))
        have hi1 : (0 : Int) ≤ (k : Int) := by omega
        have hi2 : (k : Int) < (len : Int) := by omega
        clear hat hrb HBr
        go_wp2_with fail
        go_quiet (fail)
        all_goals go_wp2_with fail
        all_goals
          go_roundw
          case rel => exact ⟨k + 1, _, by omega, by go_num, rfl, Lib.hid (HB2.out _)⟩
          case measure => simp [RowKit.intOf]; omega
      · have dN : decide (N ≤ 80000) = false := decide_eq_false hN
        have dM : decide (80000 < N) = true := decide_eq_true (by omega)
        clear hN
        go_wp2_with fail
        go_ret
        exact ⟨_, rfl, HBr.out⟩
    · by_cases hN : N ≤ 80000
      · have dN : decide (N ≤ 80000) = true := decide_eq_true hN
        have dM : decide (80000 < N) = false := decide_eq_false (by omega)
        clear hN
        go_wp2_with fail
        go_ret
        exact ⟨_, rfl, HBr.out⟩
      · have dN : decide (N ≤ 80000) = false := decide_eq_false hN
        have dM : decide (80000 < N) = true := decide_eq_true (by omega)
        clear hN
        go_wp2_with fail
        go_ret
        exact ⟨_, rfl, HBr.out⟩
end Go.Proofs.YtdbniocnjhfhdaaGreatDoor

set_option linter.unusedSimpArgs false
set_option linter.unusedVariables false
set_option maxRecDepth 100000
set_option maxHeartbeats 1000000
namespace Go.Proofs.YtdbniocnjhfhdaaGreatDoor
open Go Go.RowKit Lib Go.Maps
def LPos.mine (L : LPos) (v : Value) : List Nat := [L.lb, L.bd, L.bf, L.bk, L.bg] ++ v.ownBlock.toList
theorem LPos.mine_of {L : LPos} {v : Value} {g : Nat} (h : ¬ L.frp v g) : g ∈ L.mine v := by
  refine Classical.byContradiction fun hn => h ?_
  unfold LPos.mine at hn
  simp only [List.cons_append, List.nil_append, List.mem_cons, Option.mem_toList, Option.mem_def, not_or] at hn
  exact ⟨hn.1, hn.2.1, hn.2.2.1, hn.2.2.2.1, hn.2.2.2.2.1, hn.2.2.2.2.2⟩
theorem At1.mine {B : Nat} {L : LPos} {v : Value} {σ : St} {W : World} (h : At1 B L v σ W) : ∀ g ∈ L.mine v, B ≤ g ∧ g < W.heap.size := by
  obtain ⟨ts, h1, h2, h3⟩ := h.all
  have ho := h2.ord
  have hl := h2.lt
  intro g hg
  unfold LPos.mine at hg
  simp only [List.cons_append, List.nil_append, List.mem_cons, Option.mem_toList, Option.mem_def] at hg
  rcases hg with rfl | rfl | rfl | rfl | rfl | hg
  · omega
  · omega
  · omega
  · omega
  · omega
  · exact h2.ty.lt g hg
theorem At1.new (W : World) (xs : List Nat) (hxs : ∀ x ∈ xs, x < W.heap.size) : Calls Tryz.prog 12 #[] W fun e W' => ∃ L v, e = .returned (.pointer (some ⟨L.lb, 0, none⟩)) ∧ L.ex = xs ∧ At1 W.heap.size L v St.new W' ∧ Below W.heap.size W W' := by
  refine (new_apart W xs hxs).mono ?_
  rintro e W' ⟨L, v, ts, rfl, hk, hx, _, h, hb⟩
  exact ⟨L, v, rfl, hx, ⟨⟨ts, hk, h, ksOk_core hk⟩, fun s l h => by simp [St.new] at h, rfl, by decide⟩, hb⟩
theorem At1.andNew {Bx : Nat} {Lx Ly : LPos} {vx vy : Value} {σx σy : St} {W W' : World} (hx : At1 Bx Lx vx σx W) (hb : Below W.heap.size W W') (hy : At1 W.heap.size Ly vy σy W') : At1 Bx (Lx.and (Ly.mine vy)) vx σx W' ∧ Far (Lx.and (Ly.mine vy)) Ly vy := by
  obtain ⟨ts, h1, h2, h3⟩ := hx.all
  exact ⟨⟨⟨ts, h1, h2.andEx (But.of_below hb) _ (fun x hx => (hy.mine x hx).1) (fun x hx => (hy.mine x hx).2), h3⟩, hx.dom, hx.len, hx.le⟩, fun g hg => List.mem_append.2 (.inl (LPos.mine_of hg))⟩
def Tri (B lx ly lz : Nat) (σx σy σz : St) (W : World) : Prop := ∃ Lx Ly Lz vx vy vz, Lx.lb = lx ∧ Ly.lb = ly ∧ Lz.lb = lz ∧ At1 B Lx vx σx W ∧ At1 B Ly vy σy W ∧ At1 B Lz vz σz W ∧ Far Lx Ly vy ∧ Far Lx Lz vz ∧ Far Ly Lx vx ∧ Far Ly Lz vz ∧ Far Lz Lx vx ∧ Far Lz Ly vy
section
variable {B lx ly lz : Nat} {σx σy σz : St} {W W' : World}
theorem Tri.rot (h : Tri B lx ly lz σx σy σz W) : Tri B ly lz lx σy σz σx W := by
  obtain ⟨Lx, Ly, Lz, vx, vy, vz, e1, e2, e3, h1, h2, h3, f1, f2, f3, f4, f5, f6⟩ := h
  exact ⟨Ly, Lz, Lx, vy, vz, vx, e2, e3, e1, h2, h3, h1, f4, f3, f6, f5, f1, f2⟩
theorem Tri.below (h : Tri B lx ly lz σx σy σz W) (hb : Below W.heap.size W W') : Tri B lx ly lz σx σy σz W' := by
  obtain ⟨Lx, Ly, Lz, vx, vy, vz, e1, e2, e3, h1, h2, h3, f⟩ := h
  exact ⟨Lx, Ly, Lz, vx, vy, vz, e1, e2, e3, h1.below hb, h2.below hb, h3.below hb, f⟩
theorem Tri.sized (h : Tri B lx ly lz σx σy σz W) : B ≤ W.heap.size := by
  obtain ⟨Lx, Ly, Lz, vx, vy, vz, e1, e2, e3, h1, r⟩ := h
  exact h1.sized.2
theorem tri_op {Lx Lx' Ly Lz : LPos} {vx vx' vy vz : Value} {σx' : St} (h1 : At1 B Lx' vx' σx' W') (F : LFr B Lx vx W vx' W') (hlb : Lx'.lb = Lx.lb) (hfr : ∀ v g, Lx.frp v g → Lx'.frp v g) (hex : ∀ g ∈ Lx.ex, g ∈ Lx'.ex)
    (h2 : At1 B Ly vy σy W) (h3 : At1 B Lz vz σz W) (f1 : Far Lx Ly vy) (f2 : Far Lx Lz vz) (f3 : Far Ly Lx vx) (f4 : Far Ly Lz vz) (f5 : Far Lz Lx vx) (f6 : Far Lz Ly vy) : Tri B Lx.lb Ly.lb Lz.lb σx' σy σz W' := by
  obtain ⟨xs, k2, g3⟩ := h2.other F f3 h1.own
  obtain ⟨zs, k3, g5⟩ := h3.other F f5 h1.own
  exact ⟨Lx', Ly.and xs, Lz.and zs, vx', vy, vz, hlb, rfl, rfl, h1, k2, k3, fun g hg => hex g (f1 g hg), fun g hg => hex g (f2 g hg), fun g hg => g3 g (fun hr => hg (hfr _ _ hr)), fun g hg => List.mem_append.2 (.inr (f4 g hg)), fun g hg => g5 g (fun hr => hg (hfr _ _ hr)), fun g hg => List.mem_append.2 (.inr (f6 g hg))⟩
theorem Tri.load (h : Tri B lx ly lz σx σy σz W) (s : ByteArray) (hs : s.size ≤ 9223372036854775807) (hB : 0 < B) (hgl : W.cell? ⟨0, 0, none⟩ = some (.iface 132 (.agg #[.pointer (some ⟨2, 69, none⟩)]))) :
    Calls Tryz.prog 13 #[.pointer (some ⟨lx, 0, none⟩), .string s] W fun e W' => e = .returned (.string (σx.says s)) ∧ Tri B lx ly lz (σx.load s) σy σz W' ∧ Below B W W' := by
  obtain ⟨Lx, Ly, Lz, vx, vy, vz, rfl, rfl, rfl, h1, h2, h3, f1, f2, f3, f4, f5, f6⟩ := h
  refine (h1.load s hs hB hgl).mono ?_
  rintro e W' ⟨he, X, v', k1, F⟩
  exact ⟨he, tri_op k1 F rfl (fun _ _ h => h) (fun g hg => List.mem_cons_of_mem _ hg) h2 h3 f1 f2 f3 f4 f5 f6, F.bel⟩
theorem Tri.define (h : Tri B lx ly lz σx σy σz W) (s : ByteArray) (A : Option Addr) (len cap : Nat) (l : List UInt8) (hs : s.size ≤ 9223372036854775807) (hr : RdB W A len cap l) (hl : len ≤ 9223372036854775807) :
    Calls Tryz.prog 15 #[.pointer (some ⟨lx, 0, none⟩), .string s, .slice A len cap] W fun e W' => e = .returned (.int .i64 (σx.defE s l)) ∧ Tri B lx ly lz (σx.define s l) σy σz W' ∧ Below B W W' := by
  obtain ⟨Lx, Ly, Lz, vx, vy, vz, rfl, rfl, rfl, h1, h2, h3, f1, f2, f3, f4, f5, f6⟩ := h
  refine (h1.define s A len cap l hs hr hl).mono ?_
  rintro e W' ⟨he, k1, F⟩
  exact ⟨he, tri_op k1 F rfl (fun _ _ h => h) (fun g hg => hg) h2 h3 f1 f2 f3 f4 f5 f6, F.bel⟩
end
end Go.Proofs.YtdbniocnjhfhdaaGreatDoor
