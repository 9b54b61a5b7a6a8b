/-
  What the loader's laws rest on, part 27: walks of the program's functions and plain laws. Conditions: none but those that each theorem names.
-/
import Derived.Test.YtdbniocnjhfhdaaGreatDoorB24
import Derived.Test.YtdbniocnjhfhdaaGreatDoorB25
import Derived.Test.YtdbniocnjhfhdaaGreatDoorB26
import Derived.Test.YtdbniocnjhfhdaaGreatDoorB16

set_option linter.unusedSimpArgs false
set_option linter.unusedVariables false
set_option maxRecDepth 100000
set_option maxHeartbeats 4000000
namespace Go.Proofs.YtdbniocnjhfhdaaGreatDoor
open Go Go.RowKit Lib
theorem op_call {Q : Exit → Act → World → Prop} {K : Act → World → Prop} {o : Oper} {ops : Array Oper} {a : Act} {w : World} {E : Prop} {f : FuncId} {args : Array Value} {R : Ending → World → Prop} (hg : o.guard = none) (h : (execOp a.eval o).run Tryz.prog w = .ok (.enter f args) w) (hc : Calls Tryz.prog f args w R)
    (hR : ∀ e w', R e w' → ∃ v, e = .returned v ∧ K (a.put o.dst v) w') : if Region.wanted o (yielded ops a.tmps) = true then Oper.wp Tryz.prog o a w K Q else E := by
  have hw : Region.wanted o (yielded ops a.tmps) = true := by unfold Region.wanted; rw [hg]
  rw [if_pos hw]
  unfold Oper.wp
  rw [h, Oper.upon_enter]
  refine hc.mono ?_
  intro e w' he
  obtain ⟨v, rfl, hK⟩ := hR e w' he
  exact hK
structure DfC (w : World) (b o : Nat) (d : DfD) (A : Option Addr) (n c : Nat) : Prop where
  nm : w.cell? ⟨b, o, none⟩ = some (.string d.name)
  by' : w.cell? ⟨b, o + 1, none⟩ = some (.slice A n c)
  ld : w.cell? ⟨b, o + 2, none⟩ = some (.bool d.load)
theorem DfC.low {B : Nat} {w w' : World} {b o : Nat} {d : DfD} {A : Option Addr} {n c : Nat} (h : DfC w b o d A n c) (hb : Below B w w') (hl : b < B) : DfC w' b o d A n c :=
  ⟨(hb.cell (p := ⟨b, o, none⟩) hl).trans h.nm, (hb.cell (p := ⟨b, o + 1, none⟩) hl).trans h.by', (hb.cell (p := ⟨b, o + 2, none⟩) hl).trans h.ld⟩
theorem rdB_low {B : Nat} {w w' : World} {A : Option Addr} {n c : Nat} {l : List UInt8} (h : RdB w A n c l) (hb : Below B w w') (hl : ∀ a, A = some a → 0 < l.length → a.block < B) : RdB w' A n c l :=
  ⟨h.hlen, h.hle, h.hmax, fun h0 => by
    obtain ⟨b, off, e, hlt, hc⟩ := h.hat h0
    exact ⟨b, off, e, Nat.lt_of_lt_of_le hlt hb.size, fun i hi => (hb.cell (p := ⟨b, off + i, none⟩) (show b < B from hl ⟨b, off, none⟩ e (by rw [← h.hlen]; exact h0))).trans (hc i hi)⟩⟩
theorem region_ydef (a0 : Act) (b off n cap k : Nat) (d : DfD) (A' : Option Addr) (n' c' : Nat) (B lx ly lz : Nat) (σ τ υ : St) (w9 : World) (Q : Exit → Act → World → Prop) (hz : a0.tmps.size = 125) (e1 : a0.eval (.tmp 1) = .slice (some ⟨b, off, none⟩) n cap) (e10 : a0.eval (.tmp 10) = .int .i64 k) (e8 : a0.eval (.tmp 8) = .pointer (some ⟨ly, 0, none⟩)) (hk : k < n) (hcap : n ≤ cap) (hcm : n ≤ 9223372036854775807) (hD : DfC w9 b (off + k * 3) d A' n' c') (hR : RdB w9 A' n' c' d.bytes) (hns : d.name.size ≤ 9223372036854775807) (hT : Tri B lx ly lz σ τ υ w9) (hB : 0 < B) (hbB : b < B) (hAB : ∀ a, A' = some a → 0 < d.bytes.length → a.block < B) (hgl : GlB w9)
    (hQ : ∀ c a d v w, Q (.panic c) (a.put (some d) v) w → Q (.panic c) a w)
    (hfin : ∀ (bb : Act) (W' : World), bb.tmps.size = 125 → bb.defers = a0.defers → (∀ i : Nat, (i < 55 ∨ 66 < i) → bb.eval (.tmp i) = a0.eval (.tmp i)) → Tri B lx ly lz σ (τ.define d.name d.bytes) υ W' → Below B w9 W' → Q .normal bb W') :
    Code.wp Tryz.prog (Code.region 14 #[{ dst := some 55, op := Op.move (Operand.tmp 8), type := 25, pos := "more.go:88", after := #[], guard := none }, { dst := some 56, op := Op.move (Operand.tmp 1), type := 22, pos := "more.go:88", after := #[], guard := none }, { dst := some 57, op := Op.move (Operand.tmp 10), type := 3, pos := "more.go:88", after := #[], guard := none }, { dst := some 58, op := Op.indexAddr 22 (Operand.tmp 56) (Operand.tmp 57), type := 0, pos := "more.go:88", after := #[{ on := 1, ground := Ground.data }, { on := 2, ground := Ground.data }], guard := none }, { dst := some 59, op := Op.fieldAddr 29 (Operand.tmp 58) 0, type := 0, pos := "more.go:88", after := #[{ on := 3, ground := Ground.data }], guard := none }, { dst := some 60, op := Op.load 9 (Operand.tmp 59), type := 9, pos := "more.go:88", after := #[{ on := 4, ground := Ground.data }], guard := none }, { dst := some 61, op := Op.move (Operand.tmp 1), type := 22, pos := "more.go:88", after := #[], guard := none }, { dst := some 62, op := Op.move (Operand.tmp 10), type := 3, pos := "more.go:88", after := #[], guard := none }, { dst := some 63, op := Op.indexAddr 22 (Operand.tmp 61) (Operand.tmp 62), type := 0, pos := "more.go:88", after := #[{ on := 6, ground := Ground.data }, { on := 7, ground := Ground.data }], guard := none }, { dst := some 64, op := Op.fieldAddr 29 (Operand.tmp 63) 1, type := 0, pos := "more.go:88", after := #[{ on := 8, ground := Ground.data }], guard := none }, { dst := some 65, op := Op.load 27 (Operand.tmp 64), type := 27, pos := "more.go:88", after := #[{ on := 9, ground := Ground.data }], guard := none }, { dst := some 66, op := Op.call { callee := Callee.value (Operand.func 15), args := #[Operand.tmp 55, Operand.tmp 60, Operand.tmp 65], argTypes := #[25, 9, 27] }, type := 33, pos := "more.go:88", after := #[{ on := 0, ground := Ground.data }, { on := 5, ground := Ground.data }, { on := 10, ground := Ground.data }], guard := none }] true) Q a0 w9 := by
  refine wp_region_held_drew (S := fun w' => DfC w' b (off + k * 3) d A' n' c') rfl (show DfC w9.drew b (off + k * 3) d A' n' c' from ⟨hD.nm, hD.by', hD.ld⟩) (fun hS => ?_)
  have hdr := (Below.refl w9.heap.size w9).drew
  have T0 := Lib.hid (hT.below hdr)
  have HB0 := Lib.hid (show Below B w9 w9.drew from hdr.mono hT.sized)
  have hGl := Lib.hid (hgl.below hdr (by have := hT.sized; omega))
  have R0 := Lib.hid (hR.below hdr)
  have hi1 : (0 : Int) ≤ (k : Int) := by omega
  have hi2 : (k : Int) < (n : Int) := by omega
  clear hdr hD hT hgl hR
  generalize w9.drew = w10 at *
  have F : FrK a0 a0 125 55 66 := ⟨hz, rfl, fun _ _ => rfl⟩
  refine wpAnyH_take (i := 0) (v := .pointer (some ⟨ly, 0, none⟩)) rfl (by kernel_rfl) (by kernel_rfl) (by kernel_rfl) (fun _ _ _ h => hQ _ _ _ _ _ h) (Or.inl ⟨by rfl, fun w' hw' => ?_⟩) hS ?_
  · obtain ⟨z0, z1, z2⟩ := hw'
    generalize a0.eval = ρ at e8 ⊢
    go_simp
  show wpAnyH _ _ _ _ _ _ _ (Act.put a0 (some 55) (.pointer (some ⟨ly, 0, none⟩))) _
  obtain ⟨a1, ha, F, e55, hk'⟩ := F.put 55 (.pointer (some ⟨ly, 0, none⟩)) (by decide)
  replace e1 := (hk' 1 (by decide)).trans e1
  replace e10 := (hk' 10 (by decide)).trans e10
  rw [ha]
  clear hk' ha
  clear e8
  refine wpAnyH_take (i := 1) (v := .slice (some ⟨b, off, none⟩) n cap) rfl (by kernel_rfl) (by kernel_rfl) (by kernel_rfl) (fun _ _ _ h => hQ _ _ _ _ _ h) (Or.inl ⟨by rfl, fun w' hw' => ?_⟩) hS ?_
  · obtain ⟨z0, z1, z2⟩ := hw'
    generalize a1.eval = ρ at e1 ⊢
    go_simp
  show wpAnyH _ _ _ _ _ _ _ (Act.put a1 (some 56) (.slice (some ⟨b, off, none⟩) n cap)) _
  obtain ⟨a2, ha, F, e56, hk'⟩ := F.put 56 (.slice (some ⟨b, off, none⟩) n cap) (by decide)
  replace e1 := (hk' 1 (by decide)).trans e1
  replace e10 := (hk' 10 (by decide)).trans e10
  replace e55 := (hk' 55 (by decide)).trans e55
  rw [ha]
  clear hk' ha
  refine wpAnyH_take (i := 2) (v := .int .i64 k) rfl (by kernel_rfl) (by kernel_rfl) (by kernel_rfl) (fun _ _ _ h => hQ _ _ _ _ _ h) (Or.inl ⟨by rfl, fun w' hw' => ?_⟩) hS ?_
  · obtain ⟨z0, z1, z2⟩ := hw'
    generalize a2.eval = ρ at e10 ⊢
    go_simp
  show wpAnyH _ _ _ _ _ _ _ (Act.put a2 (some 57) (.int .i64 k)) _
  obtain ⟨a3, ha, F, e57, hk'⟩ := F.put 57 (.int .i64 k) (by decide)
  replace e1 := (hk' 1 (by decide)).trans e1
  replace e10 := (hk' 10 (by decide)).trans e10
  replace e55 := (hk' 55 (by decide)).trans e55
  replace e56 := (hk' 56 (by decide)).trans e56
  rw [ha]
  clear hk' ha
  refine wpAnyH_take (i := 3) (v := .pointer (some ⟨b, off + k * 3, none⟩)) rfl (by kernel_rfl) (by kernel_rfl) (by kernel_rfl) (fun _ _ _ h => hQ _ _ _ _ _ h) (Or.inl ⟨by rfl, fun w' hw' => ?_⟩) hS ?_
  · obtain ⟨z0, z1, z2⟩ := hw'
    generalize a3.eval = ρ at e56 e57 ⊢
    go_simp
  show wpAnyH _ _ _ _ _ _ _ (Act.put a3 (some 58) (.pointer (some ⟨b, off + k * 3, none⟩))) _
  obtain ⟨a4, ha, F, e58, hk'⟩ := F.put 58 (.pointer (some ⟨b, off + k * 3, none⟩)) (by decide)
  replace e1 := (hk' 1 (by decide)).trans e1
  replace e10 := (hk' 10 (by decide)).trans e10
  replace e55 := (hk' 55 (by decide)).trans e55
  rw [ha]
  clear hk' ha
  clear e56 e57
  refine wpAnyH_take (i := 4) (v := .pointer (some ⟨b, off + k * 3, none⟩)) rfl (by kernel_rfl) (by kernel_rfl) (by kernel_rfl) (fun _ _ _ h => hQ _ _ _ _ _ h) (Or.inl ⟨by rfl, fun w' hw' => ?_⟩) hS ?_
  · obtain ⟨z0, z1, z2⟩ := hw'
    generalize a4.eval = ρ at e58 ⊢
    go_simp
  show wpAnyH _ _ _ _ _ _ _ (Act.put a4 (some 59) (.pointer (some ⟨b, off + k * 3, none⟩))) _
  obtain ⟨a5, ha, F, e59, hk'⟩ := F.put 59 (.pointer (some ⟨b, off + k * 3, none⟩)) (by decide)
  replace e1 := (hk' 1 (by decide)).trans e1
  replace e10 := (hk' 10 (by decide)).trans e10
  replace e55 := (hk' 55 (by decide)).trans e55
  rw [ha]
  clear hk' ha
  clear e58
  refine wpAnyH_take (i := 5) (v := .string d.name) rfl (by kernel_rfl) (by kernel_rfl) (by kernel_rfl) (fun _ _ _ h => hQ _ _ _ _ _ h) (Or.inl ⟨by rfl, fun w' hw' => ?_⟩) hS ?_
  · obtain ⟨z0, z1, z2⟩ := hw'
    generalize a5.eval = ρ at e59 ⊢
    go_simp
  show wpAnyH _ _ _ _ _ _ _ (Act.put a5 (some 60) (.string d.name)) _
  obtain ⟨a6, ha, F, e60, hk'⟩ := F.put 60 (.string d.name) (by decide)
  replace e1 := (hk' 1 (by decide)).trans e1
  replace e10 := (hk' 10 (by decide)).trans e10
  replace e55 := (hk' 55 (by decide)).trans e55
  rw [ha]
  clear hk' ha
  clear e59
  refine wpAnyH_take (i := 6) (v := .slice (some ⟨b, off, none⟩) n cap) rfl (by kernel_rfl) (by kernel_rfl) (by kernel_rfl) (fun _ _ _ h => hQ _ _ _ _ _ h) (Or.inl ⟨by rfl, fun w' hw' => ?_⟩) hS ?_
  · obtain ⟨z0, z1, z2⟩ := hw'
    generalize a6.eval = ρ at e1 ⊢
    go_simp
  show wpAnyH _ _ _ _ _ _ _ (Act.put a6 (some 61) (.slice (some ⟨b, off, none⟩) n cap)) _
  obtain ⟨a7, ha, F, e61, hk'⟩ := F.put 61 (.slice (some ⟨b, off, none⟩) n cap) (by decide)
  replace e10 := (hk' 10 (by decide)).trans e10
  replace e55 := (hk' 55 (by decide)).trans e55
  replace e60 := (hk' 60 (by decide)).trans e60
  rw [ha]
  clear hk' ha
  clear e1
  refine wpAnyH_take (i := 7) (v := .int .i64 k) rfl (by kernel_rfl) (by kernel_rfl) (by kernel_rfl) (fun _ _ _ h => hQ _ _ _ _ _ h) (Or.inl ⟨by rfl, fun w' hw' => ?_⟩) hS ?_
  · obtain ⟨z0, z1, z2⟩ := hw'
    generalize a7.eval = ρ at e10 ⊢
    go_simp
  show wpAnyH _ _ _ _ _ _ _ (Act.put a7 (some 62) (.int .i64 k)) _
  obtain ⟨a8, ha, F, e62, hk'⟩ := F.put 62 (.int .i64 k) (by decide)
  replace e55 := (hk' 55 (by decide)).trans e55
  replace e60 := (hk' 60 (by decide)).trans e60
  replace e61 := (hk' 61 (by decide)).trans e61
  rw [ha]
  clear hk' ha
  clear e10
  refine wpAnyH_take (i := 8) (v := .pointer (some ⟨b, off + k * 3, none⟩)) rfl (by kernel_rfl) (by kernel_rfl) (by kernel_rfl) (fun _ _ _ h => hQ _ _ _ _ _ h) (Or.inl ⟨by rfl, fun w' hw' => ?_⟩) hS ?_
  · obtain ⟨z0, z1, z2⟩ := hw'
    generalize a8.eval = ρ at e61 e62 ⊢
    go_simp
  show wpAnyH _ _ _ _ _ _ _ (Act.put a8 (some 63) (.pointer (some ⟨b, off + k * 3, none⟩))) _
  obtain ⟨a9, ha, F, e63, hk'⟩ := F.put 63 (.pointer (some ⟨b, off + k * 3, none⟩)) (by decide)
  replace e55 := (hk' 55 (by decide)).trans e55
  replace e60 := (hk' 60 (by decide)).trans e60
  rw [ha]
  clear hk' ha
  clear e61 e62
  refine wpAnyH_take (i := 9) (v := .pointer (some ⟨b, off + k * 3 + 1, none⟩)) rfl (by kernel_rfl) (by kernel_rfl) (by kernel_rfl) (fun _ _ _ h => hQ _ _ _ _ _ h) (Or.inl ⟨by rfl, fun w' hw' => ?_⟩) hS ?_
  · obtain ⟨z0, z1, z2⟩ := hw'
    generalize a9.eval = ρ at e63 ⊢
    go_simp
  show wpAnyH _ _ _ _ _ _ _ (Act.put a9 (some 64) (.pointer (some ⟨b, off + k * 3 + 1, none⟩))) _
  obtain ⟨a10, ha, F, e64, hk'⟩ := F.put 64 (.pointer (some ⟨b, off + k * 3 + 1, none⟩)) (by decide)
  replace e55 := (hk' 55 (by decide)).trans e55
  replace e60 := (hk' 60 (by decide)).trans e60
  rw [ha]
  clear hk' ha
  clear e63
  refine wpAnyH_take (i := 10) (v := .slice A' n' c') rfl (by kernel_rfl) (by kernel_rfl) (by kernel_rfl) (fun _ _ _ h => hQ _ _ _ _ _ h) (Or.inl ⟨by rfl, fun w' hw' => ?_⟩) hS ?_
  · obtain ⟨z0, z1, z2⟩ := hw'
    generalize a10.eval = ρ at e64 ⊢
    go_simp
  show wpAnyH _ _ _ _ _ _ _ (Act.put a10 (some 65) (.slice A' n' c')) _
  obtain ⟨a11, ha, F, e65, hk'⟩ := F.put 65 (.slice A' n' c') (by decide)
  replace e55 := (hk' 55 (by decide)).trans e55
  replace e60 := (hk' 60 (by decide)).trans e60
  rw [ha]
  clear hk' ha
  clear e64
  refine wpAnyH_ready (rs := [11]) (by kernel_rfl) (by simp) ?_
  refine AllReadyH.cons rfl (fun K hK => ?_) AllReadyH.nil
  refine op_call (args := #[.pointer (some ⟨ly, 0, none⟩), .string d.name, .slice A' n' c']) rfl (by have ef : a11.eval (.func 15) = .func (.func 15) #[] #[] := rfl; generalize a11.eval = ρ at e55 e60 e65 ef ⊢; go_simp) ((T0.out).rot.define d.name A' n' c' d.bytes hns R0.out R0.out.hmax) ?_
  rintro e w11 ⟨rfl, hT', hb'⟩
  refine ⟨_, rfl, ?_⟩
  have T1 := Lib.hid (hT'.rot.rot)
  have HB1 := Lib.hid (HB0.out.trans hb')
  have R1 := Lib.hid (rdB_low R0.out hb' hAB)
  have hS : (fun w' => DfC w' b (off + k * 3) d A' n' c') w11 := hS.low hb' hbB
  have hGl := Lib.hid (hGl.out.below hb' hB)
  clear hT' hb'
  refine hK.out _ _ hS (fun _ => ?_)
  clear hK K
  show wpAnyH _ _ _ _ _ _ _ (Act.put a11 (some 66) (.int .i64 (τ.defE d.name d.bytes))) _
  obtain ⟨a12, ha, F, e66, hk'⟩ := F.put 66 (.int .i64 (τ.defE d.name d.bytes)) (by decide)
  rw [ha]
  clear hk' ha
  clear e55 e60 e65
  clear e66
  refine wpAnyH_done (by kernel_rfl) ?_ _
  exact hfin _ _ F.z F.d F.k T1.out HB1.out
theorem region_xzload (a0 : Act) (b off n cap k : Nat) (d : DfD) (A' : Option Addr) (n' c' : Nat) (B lx ly lz : Nat) (σ τ υ : St) (w9 : World) (Q : Exit → Act → World → Prop) (hz : a0.tmps.size = 125) (e0 : a0.eval (.tmp 0) = .slice (some ⟨b, off, none⟩) n cap) (e10 : a0.eval (.tmp 10) = .int .i64 k) (e7 : a0.eval (.tmp 7) = .pointer (some ⟨lx, 0, none⟩)) (e9 : a0.eval (.tmp 9) = .pointer (some ⟨lz, 0, none⟩)) (hk : k < n) (hcap : n ≤ cap) (hcm : n ≤ 9223372036854775807) (hD : DfC w9 b (off + k * 3) d A' n' c') (hR : RdB w9 A' n' c' d.bytes) (hns : d.name.size ≤ 9223372036854775807) (hT : Tri B lx ly lz σ τ υ w9) (hB : 0 < B) (hbB : b < B) (hAB : ∀ a, A' = some a → 0 < d.bytes.length → a.block < B) (hgl : GlB w9)
    (hQ : ∀ c a d v w, Q (.panic c) (a.put (some d) v) w → Q (.panic c) a w)
    (hfin : ∀ (bb : Act) (W' : World), bb.tmps.size = 125 → bb.defers = a0.defers → (∀ i : Nat, (i < 76 ∨ 90 < i) → bb.eval (.tmp i) = a0.eval (.tmp i)) → (bb.eval (.tmp 90) = .bool (!((σ.says d.name).toList == (υ.says d.name).toList)) ∧ Tri B lx ly lz (σ.load d.name) τ (υ.load d.name) W') → Below B w9 W' → Q .normal bb W') :
    Code.wp Tryz.prog (Code.region 17 #[{ dst := some 76, op := Op.move (Operand.tmp 7), type := 25, pos := "more.go:95", after := #[], guard := none }, { dst := some 77, op := Op.move (Operand.tmp 0), type := 22, pos := "more.go:95", after := #[], guard := none }, { dst := some 78, op := Op.move (Operand.tmp 10), type := 3, pos := "more.go:95", after := #[], guard := none }, { dst := some 79, op := Op.indexAddr 22 (Operand.tmp 77) (Operand.tmp 78), type := 0, pos := "more.go:95", after := #[{ on := 1, ground := Ground.data }, { on := 2, ground := Ground.data }], guard := none }, { dst := some 80, op := Op.fieldAddr 29 (Operand.tmp 79) 0, type := 0, pos := "more.go:95", after := #[{ on := 3, ground := Ground.data }], guard := none }, { dst := some 81, op := Op.load 9 (Operand.tmp 80), type := 9, pos := "more.go:95", after := #[{ on := 4, ground := Ground.data }], guard := none }, { dst := some 82, op := Op.call { callee := Callee.value (Operand.func 13), args := #[Operand.tmp 76, Operand.tmp 81], argTypes := #[25, 9] }, type := 9, pos := "more.go:95", after := #[{ on := 0, ground := Ground.data }, { on := 5, ground := Ground.data }], guard := none }, { dst := some 83, op := Op.move (Operand.tmp 9), type := 25, pos := "more.go:95", after := #[], guard := none }, { dst := some 84, op := Op.move (Operand.tmp 0), type := 22, pos := "more.go:95", after := #[], guard := none }, { dst := some 85, op := Op.move (Operand.tmp 10), type := 3, pos := "more.go:95", after := #[], guard := none }, { dst := some 86, op := Op.indexAddr 22 (Operand.tmp 84) (Operand.tmp 85), type := 0, pos := "more.go:95", after := #[{ on := 8, ground := Ground.data }, { on := 9, ground := Ground.data }], guard := none }, { dst := some 87, op := Op.fieldAddr 29 (Operand.tmp 86) 0, type := 0, pos := "more.go:95", after := #[{ on := 10, ground := Ground.data }], guard := none }, { dst := some 88, op := Op.load 9 (Operand.tmp 87), type := 9, pos := "more.go:95", after := #[{ on := 11, ground := Ground.data }], guard := none }, { dst := some 89, op := Op.call { callee := Callee.value (Operand.func 13), args := #[Operand.tmp 83, Operand.tmp 88], argTypes := #[25, 9] }, type := 9, pos := "more.go:95", after := #[{ on := 7, ground := Ground.data }, { on := 12, ground := Ground.data }, { on := 6, ground := Ground.chain }], guard := none }, { dst := some 90, op := Op.binOp BinOp.neq 9 (Operand.tmp 82) (Operand.tmp 89) 9, type := 4, pos := "more.go:95", after := #[{ on := 6, ground := Ground.data }, { on := 13, ground := Ground.data }], guard := none }] true) Q a0 w9 := by
  refine wp_region_held_drew (S := fun w' => DfC w' b (off + k * 3) d A' n' c') rfl (show DfC w9.drew b (off + k * 3) d A' n' c' from ⟨hD.nm, hD.by', hD.ld⟩) (fun hS => ?_)
  have hdr := (Below.refl w9.heap.size w9).drew
  have T0 := Lib.hid (hT.below hdr)
  have HB0 := Lib.hid (show Below B w9 w9.drew from hdr.mono hT.sized)
  have hGl := Lib.hid (hgl.below hdr (by have := hT.sized; omega))
  have R0 := Lib.hid (hR.below hdr)
  have hi1 : (0 : Int) ≤ (k : Int) := by omega
  have hi2 : (k : Int) < (n : Int) := by omega
  clear hdr hD hT hgl hR
  generalize w9.drew = w10 at *
  have F : FrK a0 a0 125 76 90 := ⟨hz, rfl, fun _ _ => rfl⟩
  refine wpAnyH_take (i := 0) (v := .pointer (some ⟨lx, 0, none⟩)) rfl (by kernel_rfl) (by kernel_rfl) (by kernel_rfl) (fun _ _ _ h => hQ _ _ _ _ _ h) (Or.inl ⟨by rfl, fun w' hw' => ?_⟩) hS ?_
  · obtain ⟨z0, z1, z2⟩ := hw'
    generalize a0.eval = ρ at e7 ⊢
    go_simp
  show wpAnyH _ _ _ _ _ _ _ (Act.put a0 (some 76) (.pointer (some ⟨lx, 0, none⟩))) _
  obtain ⟨a1, ha, F, e76, hk'⟩ := F.put 76 (.pointer (some ⟨lx, 0, none⟩)) (by decide)
  replace e0 := (hk' 0 (by decide)).trans e0
  replace e10 := (hk' 10 (by decide)).trans e10
  replace e9 := (hk' 9 (by decide)).trans e9
  rw [ha]
  clear hk' ha
  clear e7
  refine wpAnyH_take (i := 1) (v := .slice (some ⟨b, off, none⟩) n cap) rfl (by kernel_rfl) (by kernel_rfl) (by kernel_rfl) (fun _ _ _ h => hQ _ _ _ _ _ h) (Or.inl ⟨by rfl, fun w' hw' => ?_⟩) hS ?_
  · obtain ⟨z0, z1, z2⟩ := hw'
    generalize a1.eval = ρ at e0 ⊢
    go_simp
  show wpAnyH _ _ _ _ _ _ _ (Act.put a1 (some 77) (.slice (some ⟨b, off, none⟩) n cap)) _
  obtain ⟨a2, ha, F, e77, hk'⟩ := F.put 77 (.slice (some ⟨b, off, none⟩) n cap) (by decide)
  replace e0 := (hk' 0 (by decide)).trans e0
  replace e10 := (hk' 10 (by decide)).trans e10
  replace e9 := (hk' 9 (by decide)).trans e9
  replace e76 := (hk' 76 (by decide)).trans e76
  rw [ha]
  clear hk' ha
  refine wpAnyH_take (i := 2) (v := .int .i64 k) rfl (by kernel_rfl) (by kernel_rfl) (by kernel_rfl) (fun _ _ _ h => hQ _ _ _ _ _ h) (Or.inl ⟨by rfl, fun w' hw' => ?_⟩) hS ?_
  · obtain ⟨z0, z1, z2⟩ := hw'
    generalize a2.eval = ρ at e10 ⊢
    go_simp
  show wpAnyH _ _ _ _ _ _ _ (Act.put a2 (some 78) (.int .i64 k)) _
  obtain ⟨a3, ha, F, e78, hk'⟩ := F.put 78 (.int .i64 k) (by decide)
  replace e0 := (hk' 0 (by decide)).trans e0
  replace e10 := (hk' 10 (by decide)).trans e10
  replace e9 := (hk' 9 (by decide)).trans e9
  replace e76 := (hk' 76 (by decide)).trans e76
  replace e77 := (hk' 77 (by decide)).trans e77
  rw [ha]
  clear hk' ha
  refine wpAnyH_take (i := 3) (v := .pointer (some ⟨b, off + k * 3, none⟩)) rfl (by kernel_rfl) (by kernel_rfl) (by kernel_rfl) (fun _ _ _ h => hQ _ _ _ _ _ h) (Or.inl ⟨by rfl, fun w' hw' => ?_⟩) hS ?_
  · obtain ⟨z0, z1, z2⟩ := hw'
    generalize a3.eval = ρ at e77 e78 ⊢
    go_simp
  show wpAnyH _ _ _ _ _ _ _ (Act.put a3 (some 79) (.pointer (some ⟨b, off + k * 3, none⟩))) _
  obtain ⟨a4, ha, F, e79, hk'⟩ := F.put 79 (.pointer (some ⟨b, off + k * 3, none⟩)) (by decide)
  replace e0 := (hk' 0 (by decide)).trans e0
  replace e10 := (hk' 10 (by decide)).trans e10
  replace e9 := (hk' 9 (by decide)).trans e9
  replace e76 := (hk' 76 (by decide)).trans e76
  rw [ha]
  clear hk' ha
  clear e77 e78
  refine wpAnyH_take (i := 4) (v := .pointer (some ⟨b, off + k * 3, none⟩)) rfl (by kernel_rfl) (by kernel_rfl) (by kernel_rfl) (fun _ _ _ h => hQ _ _ _ _ _ h) (Or.inl ⟨by rfl, fun w' hw' => ?_⟩) hS ?_
  · obtain ⟨z0, z1, z2⟩ := hw'
    generalize a4.eval = ρ at e79 ⊢
    go_simp
  show wpAnyH _ _ _ _ _ _ _ (Act.put a4 (some 80) (.pointer (some ⟨b, off + k * 3, none⟩))) _
  obtain ⟨a5, ha, F, e80, hk'⟩ := F.put 80 (.pointer (some ⟨b, off + k * 3, none⟩)) (by decide)
  replace e0 := (hk' 0 (by decide)).trans e0
  replace e10 := (hk' 10 (by decide)).trans e10
  replace e9 := (hk' 9 (by decide)).trans e9
  replace e76 := (hk' 76 (by decide)).trans e76
  rw [ha]
  clear hk' ha
  clear e79
  refine wpAnyH_take (i := 5) (v := .string d.name) rfl (by kernel_rfl) (by kernel_rfl) (by kernel_rfl) (fun _ _ _ h => hQ _ _ _ _ _ h) (Or.inl ⟨by rfl, fun w' hw' => ?_⟩) hS ?_
  · obtain ⟨z0, z1, z2⟩ := hw'
    generalize a5.eval = ρ at e80 ⊢
    go_simp
  show wpAnyH _ _ _ _ _ _ _ (Act.put a5 (some 81) (.string d.name)) _
  obtain ⟨a6, ha, F, e81, hk'⟩ := F.put 81 (.string d.name) (by decide)
  replace e0 := (hk' 0 (by decide)).trans e0
  replace e10 := (hk' 10 (by decide)).trans e10
  replace e9 := (hk' 9 (by decide)).trans e9
  replace e76 := (hk' 76 (by decide)).trans e76
  rw [ha]
  clear hk' ha
  clear e80
  refine wpAnyH_take (i := 7) (v := .pointer (some ⟨lz, 0, none⟩)) rfl (by kernel_rfl) (by kernel_rfl) (by kernel_rfl) (fun _ _ _ h => hQ _ _ _ _ _ h) (Or.inl ⟨by rfl, fun w' hw' => ?_⟩) hS ?_
  · obtain ⟨z0, z1, z2⟩ := hw'
    generalize a6.eval = ρ at e9 ⊢
    go_simp
  show wpAnyH _ _ _ _ _ _ _ (Act.put a6 (some 83) (.pointer (some ⟨lz, 0, none⟩))) _
  obtain ⟨a7, ha, F, e83, hk'⟩ := F.put 83 (.pointer (some ⟨lz, 0, none⟩)) (by decide)
  replace e0 := (hk' 0 (by decide)).trans e0
  replace e10 := (hk' 10 (by decide)).trans e10
  replace e76 := (hk' 76 (by decide)).trans e76
  replace e81 := (hk' 81 (by decide)).trans e81
  rw [ha]
  clear hk' ha
  clear e9
  refine wpAnyH_take (i := 8) (v := .slice (some ⟨b, off, none⟩) n cap) rfl (by kernel_rfl) (by kernel_rfl) (by kernel_rfl) (fun _ _ _ h => hQ _ _ _ _ _ h) (Or.inl ⟨by rfl, fun w' hw' => ?_⟩) hS ?_
  · obtain ⟨z0, z1, z2⟩ := hw'
    generalize a7.eval = ρ at e0 ⊢
    go_simp
  show wpAnyH _ _ _ _ _ _ _ (Act.put a7 (some 84) (.slice (some ⟨b, off, none⟩) n cap)) _
  obtain ⟨a8, ha, F, e84, hk'⟩ := F.put 84 (.slice (some ⟨b, off, none⟩) n cap) (by decide)
  replace e10 := (hk' 10 (by decide)).trans e10
  replace e76 := (hk' 76 (by decide)).trans e76
  replace e81 := (hk' 81 (by decide)).trans e81
  replace e83 := (hk' 83 (by decide)).trans e83
  rw [ha]
  clear hk' ha
  clear e0
  refine wpAnyH_take (i := 9) (v := .int .i64 k) rfl (by kernel_rfl) (by kernel_rfl) (by kernel_rfl) (fun _ _ _ h => hQ _ _ _ _ _ h) (Or.inl ⟨by rfl, fun w' hw' => ?_⟩) hS ?_
  · obtain ⟨z0, z1, z2⟩ := hw'
    generalize a8.eval = ρ at e10 ⊢
    go_simp
  show wpAnyH _ _ _ _ _ _ _ (Act.put a8 (some 85) (.int .i64 k)) _
  obtain ⟨a9, ha, F, e85, hk'⟩ := F.put 85 (.int .i64 k) (by decide)
  replace e76 := (hk' 76 (by decide)).trans e76
  replace e81 := (hk' 81 (by decide)).trans e81
  replace e83 := (hk' 83 (by decide)).trans e83
  replace e84 := (hk' 84 (by decide)).trans e84
  rw [ha]
  clear hk' ha
  clear e10
  refine wpAnyH_take (i := 10) (v := .pointer (some ⟨b, off + k * 3, none⟩)) rfl (by kernel_rfl) (by kernel_rfl) (by kernel_rfl) (fun _ _ _ h => hQ _ _ _ _ _ h) (Or.inl ⟨by rfl, fun w' hw' => ?_⟩) hS ?_
  · obtain ⟨z0, z1, z2⟩ := hw'
    generalize a9.eval = ρ at e84 e85 ⊢
    go_simp
  show wpAnyH _ _ _ _ _ _ _ (Act.put a9 (some 86) (.pointer (some ⟨b, off + k * 3, none⟩))) _
  obtain ⟨a10, ha, F, e86, hk'⟩ := F.put 86 (.pointer (some ⟨b, off + k * 3, none⟩)) (by decide)
  replace e76 := (hk' 76 (by decide)).trans e76
  replace e81 := (hk' 81 (by decide)).trans e81
  replace e83 := (hk' 83 (by decide)).trans e83
  rw [ha]
  clear hk' ha
  clear e84 e85
  refine wpAnyH_take (i := 11) (v := .pointer (some ⟨b, off + k * 3, none⟩)) rfl (by kernel_rfl) (by kernel_rfl) (by kernel_rfl) (fun _ _ _ h => hQ _ _ _ _ _ h) (Or.inl ⟨by rfl, fun w' hw' => ?_⟩) hS ?_
  · obtain ⟨z0, z1, z2⟩ := hw'
    generalize a10.eval = ρ at e86 ⊢
    go_simp
  show wpAnyH _ _ _ _ _ _ _ (Act.put a10 (some 87) (.pointer (some ⟨b, off + k * 3, none⟩))) _
  obtain ⟨a11, ha, F, e87, hk'⟩ := F.put 87 (.pointer (some ⟨b, off + k * 3, none⟩)) (by decide)
  replace e76 := (hk' 76 (by decide)).trans e76
  replace e81 := (hk' 81 (by decide)).trans e81
  replace e83 := (hk' 83 (by decide)).trans e83
  rw [ha]
  clear hk' ha
  clear e86
  refine wpAnyH_take (i := 12) (v := .string d.name) rfl (by kernel_rfl) (by kernel_rfl) (by kernel_rfl) (fun _ _ _ h => hQ _ _ _ _ _ h) (Or.inl ⟨by rfl, fun w' hw' => ?_⟩) hS ?_
  · obtain ⟨z0, z1, z2⟩ := hw'
    generalize a11.eval = ρ at e87 ⊢
    go_simp
  show wpAnyH _ _ _ _ _ _ _ (Act.put a11 (some 88) (.string d.name)) _
  obtain ⟨a12, ha, F, e88, hk'⟩ := F.put 88 (.string d.name) (by decide)
  replace e76 := (hk' 76 (by decide)).trans e76
  replace e81 := (hk' 81 (by decide)).trans e81
  replace e83 := (hk' 83 (by decide)).trans e83
  rw [ha]
  clear hk' ha
  clear e87
  refine wpAnyH_ready (rs := [6]) (by kernel_rfl) (by simp) ?_
  refine AllReadyH.cons rfl (fun K hK => ?_) AllReadyH.nil
  refine op_call (args := #[.pointer (some ⟨lx, 0, none⟩), .string d.name]) rfl (by have ef : a12.eval (.func 13) = .func (.func 13) #[] #[] := rfl; generalize a12.eval = ρ at e76 e81 ef ⊢; go_simp) ((T0.out).load d.name hns hB hGl.out) ?_
  rintro e w11 ⟨rfl, hT', hb'⟩
  refine ⟨_, rfl, ?_⟩
  have T1 := Lib.hid (hT')
  have HB1 := Lib.hid (HB0.out.trans hb')
  have R1 := Lib.hid (rdB_low R0.out hb' hAB)
  have hS : (fun w' => DfC w' b (off + k * 3) d A' n' c') w11 := hS.low hb' hbB
  have hGl := Lib.hid (hGl.out.below hb' hB)
  clear hT' hb'
  refine hK.out _ _ hS (fun _ => ?_)
  clear hK K
  show wpAnyH _ _ _ _ _ _ _ (Act.put a12 (some 82) (.string (σ.says d.name))) _
  obtain ⟨a13, ha, F, e82, hk'⟩ := F.put 82 (.string (σ.says d.name)) (by decide)
  replace e83 := (hk' 83 (by decide)).trans e83
  replace e88 := (hk' 88 (by decide)).trans e88
  rw [ha]
  clear hk' ha
  clear e76 e81
  refine wpAnyH_ready (rs := [13]) (by kernel_rfl) (by simp) ?_
  refine AllReadyH.cons rfl (fun K hK => ?_) AllReadyH.nil
  refine op_call (args := #[.pointer (some ⟨lz, 0, none⟩), .string d.name]) rfl (by have ef : a13.eval (.func 13) = .func (.func 13) #[] #[] := rfl; generalize a13.eval = ρ at e83 e88 ef ⊢; go_simp) ((T1.out).rot.rot.load d.name hns hB hGl.out) ?_
  rintro e w12 ⟨rfl, hT', hb'⟩
  refine ⟨_, rfl, ?_⟩
  have T2 := Lib.hid (hT'.rot)
  have HB2 := Lib.hid (HB1.out.trans hb')
  have R2 := Lib.hid (rdB_low R1.out hb' hAB)
  have hS : (fun w' => DfC w' b (off + k * 3) d A' n' c') w12 := hS.low hb' hbB
  have hGl := Lib.hid (hGl.out.below hb' hB)
  clear hT' hb'
  refine hK.out _ _ hS (fun _ => ?_)
  clear hK K
  show wpAnyH _ _ _ _ _ _ _ (Act.put a13 (some 89) (.string (υ.says d.name))) _
  obtain ⟨a14, ha, F, e89, hk'⟩ := F.put 89 (.string (υ.says d.name)) (by decide)
  replace e82 := (hk' 82 (by decide)).trans e82
  rw [ha]
  clear hk' ha
  clear e83 e88
  refine wpAnyH_take (i := 14) (v := .bool (!((σ.says d.name).toList == (υ.says d.name).toList))) rfl (by kernel_rfl) (by kernel_rfl) (by kernel_rfl) (fun _ _ _ h => hQ _ _ _ _ _ h) (Or.inl ⟨by rfl, fun w' hw' => ?_⟩) hS ?_
  · obtain ⟨z0, z1, z2⟩ := hw'
    generalize a14.eval = ρ at e82 e89 ⊢
    go_simp
  show wpAnyH _ _ _ _ _ _ _ (Act.put a14 (some 90) (.bool (!((σ.says d.name).toList == (υ.says d.name).toList)))) _
  obtain ⟨a15, ha, F, e90, hk'⟩ := F.put 90 (.bool (!((σ.says d.name).toList == (υ.says d.name).toList))) (by decide)
  rw [ha]
  clear hk' ha
  clear e82 e89
  refine wpAnyH_done (by kernel_rfl) ?_ _
  exact hfin _ _ F.z F.d F.k ⟨e90, T2.out⟩ HB2.out
theorem region_xzdef (a0 : Act) (b off n cap k : Nat) (d : DfD) (A' : Option Addr) (n' c' : Nat) (B lx ly lz : Nat) (σ τ υ : St) (w9 : World) (Q : Exit → Act → World → Prop) (hz : a0.tmps.size = 125) (e0 : a0.eval (.tmp 0) = .slice (some ⟨b, off, none⟩) n cap) (e10 : a0.eval (.tmp 10) = .int .i64 k) (e7 : a0.eval (.tmp 7) = .pointer (some ⟨lx, 0, none⟩)) (e9 : a0.eval (.tmp 9) = .pointer (some ⟨lz, 0, none⟩)) (hk : k < n) (hcap : n ≤ cap) (hcm : n ≤ 9223372036854775807) (hD : DfC w9 b (off + k * 3) d A' n' c') (hR : RdB w9 A' n' c' d.bytes) (hns : d.name.size ≤ 9223372036854775807) (hT : Tri B lx ly lz σ τ υ w9) (hB : 0 < B) (hbB : b < B) (hAB : ∀ a, A' = some a → 0 < d.bytes.length → a.block < B) (hgl : GlB w9)
    (hQ : ∀ c a d v w, Q (.panic c) (a.put (some d) v) w → Q (.panic c) a w)
    (hfin : ∀ (bb : Act) (W' : World), bb.tmps.size = 125 → bb.defers = a0.defers → (∀ i : Nat, (i < 91 ∨ 117 < i) → bb.eval (.tmp i) = a0.eval (.tmp i)) → (bb.eval (.tmp 117) = .bool (σ.defE d.name d.bytes != υ.defE d.name d.bytes) ∧ Tri B lx ly lz (σ.define d.name d.bytes) τ (υ.define d.name d.bytes) W') → Below B w9 W' → Q .normal bb W') :
    Code.wp Tryz.prog (Code.region 19 #[{ dst := some 91, op := Op.move (Operand.tmp 7), type := 25, pos := "more.go:98", after := #[], guard := none }, { dst := some 92, op := Op.move (Operand.tmp 0), type := 22, pos := "more.go:98", after := #[], guard := none }, { dst := some 93, op := Op.move (Operand.tmp 10), type := 3, pos := "more.go:98", after := #[], guard := none }, { dst := some 94, op := Op.indexAddr 22 (Operand.tmp 92) (Operand.tmp 93), type := 0, pos := "more.go:98", after := #[{ on := 1, ground := Ground.data }, { on := 2, ground := Ground.data }], guard := none }, { dst := some 95, op := Op.fieldAddr 29 (Operand.tmp 94) 0, type := 0, pos := "more.go:98", after := #[{ on := 3, ground := Ground.data }], guard := none }, { dst := some 96, op := Op.load 9 (Operand.tmp 95), type := 9, pos := "more.go:98", after := #[{ on := 4, ground := Ground.data }], guard := none }, { dst := some 97, op := Op.move (Operand.tmp 0), type := 22, pos := "more.go:98", after := #[], guard := none }, { dst := some 98, op := Op.move (Operand.tmp 10), type := 3, pos := "more.go:98", after := #[], guard := none }, { dst := some 99, op := Op.indexAddr 22 (Operand.tmp 97) (Operand.tmp 98), type := 0, pos := "more.go:98", after := #[{ on := 6, ground := Ground.data }, { on := 7, ground := Ground.data }], guard := none }, { dst := some 100, op := Op.fieldAddr 29 (Operand.tmp 99) 1, type := 0, pos := "more.go:98", after := #[{ on := 8, ground := Ground.data }], guard := none }, { dst := some 101, op := Op.load 27 (Operand.tmp 100), type := 27, pos := "more.go:98", after := #[{ on := 9, ground := Ground.data }], guard := none }, { dst := some 102, op := Op.call { callee := Callee.value (Operand.func 15), args := #[Operand.tmp 91, Operand.tmp 96, Operand.tmp 101], argTypes := #[25, 9, 27] }, type := 33, pos := "more.go:98", after := #[{ on := 0, ground := Ground.data }, { on := 5, ground := Ground.data }, { on := 10, ground := Ground.data }], guard := none }, { dst := some 103, op := Op.call { callee := Callee.value (Operand.func 19), args := #[Operand.tmp 102], argTypes := #[33] }, type := 3, pos := "more.go:98", after := #[{ on := 11, ground := Ground.data }, { on := 11, ground := Ground.chain }], guard := none }, { dst := some 104, op := Op.move (Operand.tmp 9), type := 25, pos := "more.go:98", after := #[], guard := none }, { dst := some 105, op := Op.move (Operand.tmp 0), type := 22, pos := "more.go:98", after := #[], guard := none }, { dst := some 106, op := Op.move (Operand.tmp 10), type := 3, pos := "more.go:98", after := #[], guard := none }, { dst := some 107, op := Op.indexAddr 22 (Operand.tmp 105) (Operand.tmp 106), type := 0, pos := "more.go:98", after := #[{ on := 14, ground := Ground.data }, { on := 15, ground := Ground.data }], guard := none }, { dst := some 108, op := Op.fieldAddr 29 (Operand.tmp 107) 0, type := 0, pos := "more.go:98", after := #[{ on := 16, ground := Ground.data }], guard := none }, { dst := some 109, op := Op.load 9 (Operand.tmp 108), type := 9, pos := "more.go:98", after := #[{ on := 17, ground := Ground.data }], guard := none }, { dst := some 110, op := Op.move (Operand.tmp 0), type := 22, pos := "more.go:98", after := #[], guard := none }, { dst := some 111, op := Op.move (Operand.tmp 10), type := 3, pos := "more.go:98", after := #[], guard := none }, { dst := some 112, op := Op.indexAddr 22 (Operand.tmp 110) (Operand.tmp 111), type := 0, pos := "more.go:98", after := #[{ on := 19, ground := Ground.data }, { on := 20, ground := Ground.data }], guard := none }, { dst := some 113, op := Op.fieldAddr 29 (Operand.tmp 112) 1, type := 0, pos := "more.go:98", after := #[{ on := 21, ground := Ground.data }], guard := none }, { dst := some 114, op := Op.load 27 (Operand.tmp 113), type := 27, pos := "more.go:98", after := #[{ on := 22, ground := Ground.data }], guard := none }, { dst := some 115, op := Op.call { callee := Callee.value (Operand.func 15), args := #[Operand.tmp 104, Operand.tmp 109, Operand.tmp 114], argTypes := #[25, 9, 27] }, type := 33, pos := "more.go:98", after := #[{ on := 13, ground := Ground.data }, { on := 18, ground := Ground.data }, { on := 23, ground := Ground.data }, { on := 12, ground := Ground.chain }], guard := none }, { dst := some 116, op := Op.call { callee := Callee.value (Operand.func 19), args := #[Operand.tmp 115], argTypes := #[33] }, type := 3, pos := "more.go:98", after := #[{ on := 24, ground := Ground.data }, { on := 24, ground := Ground.chain }], guard := none }, { dst := some 117, op := Op.binOp BinOp.neq 3 (Operand.tmp 103) (Operand.tmp 116) 3, type := 4, pos := "more.go:98", after := #[{ on := 12, ground := Ground.data }, { on := 25, ground := Ground.data }], guard := none }] true) Q a0 w9 := by
  refine wp_region_held_drew (S := fun w' => DfC w' b (off + k * 3) d A' n' c') rfl (show DfC w9.drew b (off + k * 3) d A' n' c' from ⟨hD.nm, hD.by', hD.ld⟩) (fun hS => ?_)
  have hdr := (Below.refl w9.heap.size w9).drew
  have T0 := Lib.hid (hT.below hdr)
  have HB0 := Lib.hid (show Below B w9 w9.drew from hdr.mono hT.sized)
  have hGl := Lib.hid (hgl.below hdr (by have := hT.sized; omega))
  have R0 := Lib.hid (hR.below hdr)
  have hi1 : (0 : Int) ≤ (k : Int) := by omega
  have hi2 : (k : Int) < (n : Int) := by omega
  clear hdr hD hT hgl hR
  generalize w9.drew = w10 at *
  have F : FrK a0 a0 125 91 117 := ⟨hz, rfl, fun _ _ => rfl⟩
  refine wpAnyH_take (i := 0) (v := .pointer (some ⟨lx, 0, none⟩)) rfl (by kernel_rfl) (by kernel_rfl) (by kernel_rfl) (fun _ _ _ h => hQ _ _ _ _ _ h) (Or.inl ⟨by rfl, fun w' hw' => ?_⟩) hS ?_
  · obtain ⟨z0, z1, z2⟩ := hw'
    generalize a0.eval = ρ at e7 ⊢
    go_simp
  show wpAnyH _ _ _ _ _ _ _ (Act.put a0 (some 91) (.pointer (some ⟨lx, 0, none⟩))) _
  obtain ⟨a1, ha, F, e91, hk'⟩ := F.put 91 (.pointer (some ⟨lx, 0, none⟩)) (by decide)
  replace e0 := (hk' 0 (by decide)).trans e0
  replace e10 := (hk' 10 (by decide)).trans e10
  replace e9 := (hk' 9 (by decide)).trans e9
  rw [ha]
  clear hk' ha
  clear e7
  refine wpAnyH_take (i := 1) (v := .slice (some ⟨b, off, none⟩) n cap) rfl (by kernel_rfl) (by kernel_rfl) (by kernel_rfl) (fun _ _ _ h => hQ _ _ _ _ _ h) (Or.inl ⟨by rfl, fun w' hw' => ?_⟩) hS ?_
  · obtain ⟨z0, z1, z2⟩ := hw'
    generalize a1.eval = ρ at e0 ⊢
    go_simp
  show wpAnyH _ _ _ _ _ _ _ (Act.put a1 (some 92) (.slice (some ⟨b, off, none⟩) n cap)) _
  obtain ⟨a2, ha, F, e92, hk'⟩ := F.put 92 (.slice (some ⟨b, off, none⟩) n cap) (by decide)
  replace e0 := (hk' 0 (by decide)).trans e0
  replace e10 := (hk' 10 (by decide)).trans e10
  replace e9 := (hk' 9 (by decide)).trans e9
  replace e91 := (hk' 91 (by decide)).trans e91
  rw [ha]
  clear hk' ha
  refine wpAnyH_take (i := 2) (v := .int .i64 k) rfl (by kernel_rfl) (by kernel_rfl) (by kernel_rfl) (fun _ _ _ h => hQ _ _ _ _ _ h) (Or.inl ⟨by rfl, fun w' hw' => ?_⟩) hS ?_
  · obtain ⟨z0, z1, z2⟩ := hw'
    generalize a2.eval = ρ at e10 ⊢
    go_simp
  show wpAnyH _ _ _ _ _ _ _ (Act.put a2 (some 93) (.int .i64 k)) _
  obtain ⟨a3, ha, F, e93, hk'⟩ := F.put 93 (.int .i64 k) (by decide)
  replace e0 := (hk' 0 (by decide)).trans e0
  replace e10 := (hk' 10 (by decide)).trans e10
  replace e9 := (hk' 9 (by decide)).trans e9
  replace e91 := (hk' 91 (by decide)).trans e91
  replace e92 := (hk' 92 (by decide)).trans e92
  rw [ha]
  clear hk' ha
  refine wpAnyH_take (i := 3) (v := .pointer (some ⟨b, off + k * 3, none⟩)) rfl (by kernel_rfl) (by kernel_rfl) (by kernel_rfl) (fun _ _ _ h => hQ _ _ _ _ _ h) (Or.inl ⟨by rfl, fun w' hw' => ?_⟩) hS ?_
  · obtain ⟨z0, z1, z2⟩ := hw'
    generalize a3.eval = ρ at e92 e93 ⊢
    go_simp
  show wpAnyH _ _ _ _ _ _ _ (Act.put a3 (some 94) (.pointer (some ⟨b, off + k * 3, none⟩))) _
  obtain ⟨a4, ha, F, e94, hk'⟩ := F.put 94 (.pointer (some ⟨b, off + k * 3, none⟩)) (by decide)
  replace e0 := (hk' 0 (by decide)).trans e0
  replace e10 := (hk' 10 (by decide)).trans e10
  replace e9 := (hk' 9 (by decide)).trans e9
  replace e91 := (hk' 91 (by decide)).trans e91
  rw [ha]
  clear hk' ha
  clear e92 e93
  refine wpAnyH_take (i := 4) (v := .pointer (some ⟨b, off + k * 3, none⟩)) rfl (by kernel_rfl) (by kernel_rfl) (by kernel_rfl) (fun _ _ _ h => hQ _ _ _ _ _ h) (Or.inl ⟨by rfl, fun w' hw' => ?_⟩) hS ?_
  · obtain ⟨z0, z1, z2⟩ := hw'
    generalize a4.eval = ρ at e94 ⊢
    go_simp
  show wpAnyH _ _ _ _ _ _ _ (Act.put a4 (some 95) (.pointer (some ⟨b, off + k * 3, none⟩))) _
  obtain ⟨a5, ha, F, e95, hk'⟩ := F.put 95 (.pointer (some ⟨b, off + k * 3, none⟩)) (by decide)
  replace e0 := (hk' 0 (by decide)).trans e0
  replace e10 := (hk' 10 (by decide)).trans e10
  replace e9 := (hk' 9 (by decide)).trans e9
  replace e91 := (hk' 91 (by decide)).trans e91
  rw [ha]
  clear hk' ha
  clear e94
  refine wpAnyH_take (i := 5) (v := .string d.name) rfl (by kernel_rfl) (by kernel_rfl) (by kernel_rfl) (fun _ _ _ h => hQ _ _ _ _ _ h) (Or.inl ⟨by rfl, fun w' hw' => ?_⟩) hS ?_
  · obtain ⟨z0, z1, z2⟩ := hw'
    generalize a5.eval = ρ at e95 ⊢
    go_simp
  show wpAnyH _ _ _ _ _ _ _ (Act.put a5 (some 96) (.string d.name)) _
  obtain ⟨a6, ha, F, e96, hk'⟩ := F.put 96 (.string d.name) (by decide)
  replace e0 := (hk' 0 (by decide)).trans e0
  replace e10 := (hk' 10 (by decide)).trans e10
  replace e9 := (hk' 9 (by decide)).trans e9
  replace e91 := (hk' 91 (by decide)).trans e91
  rw [ha]
  clear hk' ha
  clear e95
  refine wpAnyH_take (i := 6) (v := .slice (some ⟨b, off, none⟩) n cap) rfl (by kernel_rfl) (by kernel_rfl) (by kernel_rfl) (fun _ _ _ h => hQ _ _ _ _ _ h) (Or.inl ⟨by rfl, fun w' hw' => ?_⟩) hS ?_
  · obtain ⟨z0, z1, z2⟩ := hw'
    generalize a6.eval = ρ at e0 ⊢
    go_simp
  show wpAnyH _ _ _ _ _ _ _ (Act.put a6 (some 97) (.slice (some ⟨b, off, none⟩) n cap)) _
  obtain ⟨a7, ha, F, e97, hk'⟩ := F.put 97 (.slice (some ⟨b, off, none⟩) n cap) (by decide)
  replace e0 := (hk' 0 (by decide)).trans e0
  replace e10 := (hk' 10 (by decide)).trans e10
  replace e9 := (hk' 9 (by decide)).trans e9
  replace e91 := (hk' 91 (by decide)).trans e91
  replace e96 := (hk' 96 (by decide)).trans e96
  rw [ha]
  clear hk' ha
  refine wpAnyH_take (i := 7) (v := .int .i64 k) rfl (by kernel_rfl) (by kernel_rfl) (by kernel_rfl) (fun _ _ _ h => hQ _ _ _ _ _ h) (Or.inl ⟨by rfl, fun w' hw' => ?_⟩) hS ?_
  · obtain ⟨z0, z1, z2⟩ := hw'
    generalize a7.eval = ρ at e10 ⊢
    go_simp
  show wpAnyH _ _ _ _ _ _ _ (Act.put a7 (some 98) (.int .i64 k)) _
  obtain ⟨a8, ha, F, e98, hk'⟩ := F.put 98 (.int .i64 k) (by decide)
  replace e0 := (hk' 0 (by decide)).trans e0
  replace e10 := (hk' 10 (by decide)).trans e10
  replace e9 := (hk' 9 (by decide)).trans e9
  replace e91 := (hk' 91 (by decide)).trans e91
  replace e96 := (hk' 96 (by decide)).trans e96
  replace e97 := (hk' 97 (by decide)).trans e97
  rw [ha]
  clear hk' ha
  refine wpAnyH_take (i := 8) (v := .pointer (some ⟨b, off + k * 3, none⟩)) rfl (by kernel_rfl) (by kernel_rfl) (by kernel_rfl) (fun _ _ _ h => hQ _ _ _ _ _ h) (Or.inl ⟨by rfl, fun w' hw' => ?_⟩) hS ?_
  · obtain ⟨z0, z1, z2⟩ := hw'
    generalize a8.eval = ρ at e97 e98 ⊢
    go_simp
  show wpAnyH _ _ _ _ _ _ _ (Act.put a8 (some 99) (.pointer (some ⟨b, off + k * 3, none⟩))) _
  obtain ⟨a9, ha, F, e99, hk'⟩ := F.put 99 (.pointer (some ⟨b, off + k * 3, none⟩)) (by decide)
  replace e0 := (hk' 0 (by decide)).trans e0
  replace e10 := (hk' 10 (by decide)).trans e10
  replace e9 := (hk' 9 (by decide)).trans e9
  replace e91 := (hk' 91 (by decide)).trans e91
  replace e96 := (hk' 96 (by decide)).trans e96
  rw [ha]
  clear hk' ha
  clear e97 e98
  refine wpAnyH_take (i := 9) (v := .pointer (some ⟨b, off + k * 3 + 1, none⟩)) rfl (by kernel_rfl) (by kernel_rfl) (by kernel_rfl) (fun _ _ _ h => hQ _ _ _ _ _ h) (Or.inl ⟨by rfl, fun w' hw' => ?_⟩) hS ?_
  · obtain ⟨z0, z1, z2⟩ := hw'
    generalize a9.eval = ρ at e99 ⊢
    go_simp
  show wpAnyH _ _ _ _ _ _ _ (Act.put a9 (some 100) (.pointer (some ⟨b, off + k * 3 + 1, none⟩))) _
  obtain ⟨a10, ha, F, e100, hk'⟩ := F.put 100 (.pointer (some ⟨b, off + k * 3 + 1, none⟩)) (by decide)
  replace e0 := (hk' 0 (by decide)).trans e0
  replace e10 := (hk' 10 (by decide)).trans e10
  replace e9 := (hk' 9 (by decide)).trans e9
  replace e91 := (hk' 91 (by decide)).trans e91
  replace e96 := (hk' 96 (by decide)).trans e96
  rw [ha]
  clear hk' ha
  clear e99
  refine wpAnyH_take (i := 10) (v := .slice A' n' c') rfl (by kernel_rfl) (by kernel_rfl) (by kernel_rfl) (fun _ _ _ h => hQ _ _ _ _ _ h) (Or.inl ⟨by rfl, fun w' hw' => ?_⟩) hS ?_
  · obtain ⟨z0, z1, z2⟩ := hw'
    generalize a10.eval = ρ at e100 ⊢
    go_simp
  show wpAnyH _ _ _ _ _ _ _ (Act.put a10 (some 101) (.slice A' n' c')) _
  obtain ⟨a11, ha, F, e101, hk'⟩ := F.put 101 (.slice A' n' c') (by decide)
  replace e0 := (hk' 0 (by decide)).trans e0
  replace e10 := (hk' 10 (by decide)).trans e10
  replace e9 := (hk' 9 (by decide)).trans e9
  replace e91 := (hk' 91 (by decide)).trans e91
  replace e96 := (hk' 96 (by decide)).trans e96
  rw [ha]
  clear hk' ha
  clear e100
  refine wpAnyH_take (i := 13) (v := .pointer (some ⟨lz, 0, none⟩)) rfl (by kernel_rfl) (by kernel_rfl) (by kernel_rfl) (fun _ _ _ h => hQ _ _ _ _ _ h) (Or.inl ⟨by rfl, fun w' hw' => ?_⟩) hS ?_
  · obtain ⟨z0, z1, z2⟩ := hw'
    generalize a11.eval = ρ at e9 ⊢
    go_simp
  show wpAnyH _ _ _ _ _ _ _ (Act.put a11 (some 104) (.pointer (some ⟨lz, 0, none⟩))) _
  obtain ⟨a12, ha, F, e104, hk'⟩ := F.put 104 (.pointer (some ⟨lz, 0, none⟩)) (by decide)
  replace e0 := (hk' 0 (by decide)).trans e0
  replace e10 := (hk' 10 (by decide)).trans e10
  replace e91 := (hk' 91 (by decide)).trans e91
  replace e96 := (hk' 96 (by decide)).trans e96
  replace e101 := (hk' 101 (by decide)).trans e101
  rw [ha]
  clear hk' ha
  clear e9
  refine wpAnyH_take (i := 14) (v := .slice (some ⟨b, off, none⟩) n cap) rfl (by kernel_rfl) (by kernel_rfl) (by kernel_rfl) (fun _ _ _ h => hQ _ _ _ _ _ h) (Or.inl ⟨by rfl, fun w' hw' => ?_⟩) hS ?_
  · obtain ⟨z0, z1, z2⟩ := hw'
    generalize a12.eval = ρ at e0 ⊢
    go_simp
  show wpAnyH _ _ _ _ _ _ _ (Act.put a12 (some 105) (.slice (some ⟨b, off, none⟩) n cap)) _
  obtain ⟨a13, ha, F, e105, hk'⟩ := F.put 105 (.slice (some ⟨b, off, none⟩) n cap) (by decide)
  replace e0 := (hk' 0 (by decide)).trans e0
  replace e10 := (hk' 10 (by decide)).trans e10
  replace e91 := (hk' 91 (by decide)).trans e91
  replace e96 := (hk' 96 (by decide)).trans e96
  replace e101 := (hk' 101 (by decide)).trans e101
  replace e104 := (hk' 104 (by decide)).trans e104
  rw [ha]
  clear hk' ha
  refine wpAnyH_take (i := 15) (v := .int .i64 k) rfl (by kernel_rfl) (by kernel_rfl) (by kernel_rfl) (fun _ _ _ h => hQ _ _ _ _ _ h) (Or.inl ⟨by rfl, fun w' hw' => ?_⟩) hS ?_
  · obtain ⟨z0, z1, z2⟩ := hw'
    generalize a13.eval = ρ at e10 ⊢
    go_simp
  show wpAnyH _ _ _ _ _ _ _ (Act.put a13 (some 106) (.int .i64 k)) _
  obtain ⟨a14, ha, F, e106, hk'⟩ := F.put 106 (.int .i64 k) (by decide)
  replace e0 := (hk' 0 (by decide)).trans e0
  replace e10 := (hk' 10 (by decide)).trans e10
  replace e91 := (hk' 91 (by decide)).trans e91
  replace e96 := (hk' 96 (by decide)).trans e96
  replace e101 := (hk' 101 (by decide)).trans e101
  replace e104 := (hk' 104 (by decide)).trans e104
  replace e105 := (hk' 105 (by decide)).trans e105
  rw [ha]
  clear hk' ha
  refine wpAnyH_take (i := 16) (v := .pointer (some ⟨b, off + k * 3, none⟩)) rfl (by kernel_rfl) (by kernel_rfl) (by kernel_rfl) (fun _ _ _ h => hQ _ _ _ _ _ h) (Or.inl ⟨by rfl, fun w' hw' => ?_⟩) hS ?_
  · obtain ⟨z0, z1, z2⟩ := hw'
    generalize a14.eval = ρ at e105 e106 ⊢
    go_simp
  show wpAnyH _ _ _ _ _ _ _ (Act.put a14 (some 107) (.pointer (some ⟨b, off + k * 3, none⟩))) _
  obtain ⟨a15, ha, F, e107, hk'⟩ := F.put 107 (.pointer (some ⟨b, off + k * 3, none⟩)) (by decide)
  replace e0 := (hk' 0 (by decide)).trans e0
  replace e10 := (hk' 10 (by decide)).trans e10
  replace e91 := (hk' 91 (by decide)).trans e91
  replace e96 := (hk' 96 (by decide)).trans e96
  replace e101 := (hk' 101 (by decide)).trans e101
  replace e104 := (hk' 104 (by decide)).trans e104
  rw [ha]
  clear hk' ha
  clear e105 e106
  refine wpAnyH_take (i := 17) (v := .pointer (some ⟨b, off + k * 3, none⟩)) rfl (by kernel_rfl) (by kernel_rfl) (by kernel_rfl) (fun _ _ _ h => hQ _ _ _ _ _ h) (Or.inl ⟨by rfl, fun w' hw' => ?_⟩) hS ?_
  · obtain ⟨z0, z1, z2⟩ := hw'
    generalize a15.eval = ρ at e107 ⊢
    go_simp
  show wpAnyH _ _ _ _ _ _ _ (Act.put a15 (some 108) (.pointer (some ⟨b, off + k * 3, none⟩))) _
  obtain ⟨a16, ha, F, e108, hk'⟩ := F.put 108 (.pointer (some ⟨b, off + k * 3, none⟩)) (by decide)
  replace e0 := (hk' 0 (by decide)).trans e0
  replace e10 := (hk' 10 (by decide)).trans e10
  replace e91 := (hk' 91 (by decide)).trans e91
  replace e96 := (hk' 96 (by decide)).trans e96
  replace e101 := (hk' 101 (by decide)).trans e101
  replace e104 := (hk' 104 (by decide)).trans e104
  rw [ha]
  clear hk' ha
  clear e107
  refine wpAnyH_take (i := 18) (v := .string d.name) rfl (by kernel_rfl) (by kernel_rfl) (by kernel_rfl) (fun _ _ _ h => hQ _ _ _ _ _ h) (Or.inl ⟨by rfl, fun w' hw' => ?_⟩) hS ?_
  · obtain ⟨z0, z1, z2⟩ := hw'
    generalize a16.eval = ρ at e108 ⊢
    go_simp
  show wpAnyH _ _ _ _ _ _ _ (Act.put a16 (some 109) (.string d.name)) _
  obtain ⟨a17, ha, F, e109, hk'⟩ := F.put 109 (.string d.name) (by decide)
  replace e0 := (hk' 0 (by decide)).trans e0
  replace e10 := (hk' 10 (by decide)).trans e10
  replace e91 := (hk' 91 (by decide)).trans e91
  replace e96 := (hk' 96 (by decide)).trans e96
  replace e101 := (hk' 101 (by decide)).trans e101
  replace e104 := (hk' 104 (by decide)).trans e104
  rw [ha]
  clear hk' ha
  clear e108
  refine wpAnyH_take (i := 19) (v := .slice (some ⟨b, off, none⟩) n cap) rfl (by kernel_rfl) (by kernel_rfl) (by kernel_rfl) (fun _ _ _ h => hQ _ _ _ _ _ h) (Or.inl ⟨by rfl, fun w' hw' => ?_⟩) hS ?_
  · obtain ⟨z0, z1, z2⟩ := hw'
    generalize a17.eval = ρ at e0 ⊢
    go_simp
  show wpAnyH _ _ _ _ _ _ _ (Act.put a17 (some 110) (.slice (some ⟨b, off, none⟩) n cap)) _
  obtain ⟨a18, ha, F, e110, hk'⟩ := F.put 110 (.slice (some ⟨b, off, none⟩) n cap) (by decide)
  replace e10 := (hk' 10 (by decide)).trans e10
  replace e91 := (hk' 91 (by decide)).trans e91
  replace e96 := (hk' 96 (by decide)).trans e96
  replace e101 := (hk' 101 (by decide)).trans e101
  replace e104 := (hk' 104 (by decide)).trans e104
  replace e109 := (hk' 109 (by decide)).trans e109
  rw [ha]
  clear hk' ha
  clear e0
  refine wpAnyH_take (i := 20) (v := .int .i64 k) rfl (by kernel_rfl) (by kernel_rfl) (by kernel_rfl) (fun _ _ _ h => hQ _ _ _ _ _ h) (Or.inl ⟨by rfl, fun w' hw' => ?_⟩) hS ?_
  · obtain ⟨z0, z1, z2⟩ := hw'
    generalize a18.eval = ρ at e10 ⊢
    go_simp
  show wpAnyH _ _ _ _ _ _ _ (Act.put a18 (some 111) (.int .i64 k)) _
  obtain ⟨a19, ha, F, e111, hk'⟩ := F.put 111 (.int .i64 k) (by decide)
  replace e91 := (hk' 91 (by decide)).trans e91
  replace e96 := (hk' 96 (by decide)).trans e96
  replace e101 := (hk' 101 (by decide)).trans e101
  replace e104 := (hk' 104 (by decide)).trans e104
  replace e109 := (hk' 109 (by decide)).trans e109
  replace e110 := (hk' 110 (by decide)).trans e110
  rw [ha]
  clear hk' ha
  clear e10
  refine wpAnyH_take (i := 21) (v := .pointer (some ⟨b, off + k * 3, none⟩)) rfl (by kernel_rfl) (by kernel_rfl) (by kernel_rfl) (fun _ _ _ h => hQ _ _ _ _ _ h) (Or.inl ⟨by rfl, fun w' hw' => ?_⟩) hS ?_
  · obtain ⟨z0, z1, z2⟩ := hw'
    generalize a19.eval = ρ at e110 e111 ⊢
    go_simp
  show wpAnyH _ _ _ _ _ _ _ (Act.put a19 (some 112) (.pointer (some ⟨b, off + k * 3, none⟩))) _
  obtain ⟨a20, ha, F, e112, hk'⟩ := F.put 112 (.pointer (some ⟨b, off + k * 3, none⟩)) (by decide)
  replace e91 := (hk' 91 (by decide)).trans e91
  replace e96 := (hk' 96 (by decide)).trans e96
  replace e101 := (hk' 101 (by decide)).trans e101
  replace e104 := (hk' 104 (by decide)).trans e104
  replace e109 := (hk' 109 (by decide)).trans e109
  rw [ha]
  clear hk' ha
  clear e110 e111
  refine wpAnyH_take (i := 22) (v := .pointer (some ⟨b, off + k * 3 + 1, none⟩)) rfl (by kernel_rfl) (by kernel_rfl) (by kernel_rfl) (fun _ _ _ h => hQ _ _ _ _ _ h) (Or.inl ⟨by rfl, fun w' hw' => ?_⟩) hS ?_
  · obtain ⟨z0, z1, z2⟩ := hw'
    generalize a20.eval = ρ at e112 ⊢
    go_simp
  show wpAnyH _ _ _ _ _ _ _ (Act.put a20 (some 113) (.pointer (some ⟨b, off + k * 3 + 1, none⟩))) _
  obtain ⟨a21, ha, F, e113, hk'⟩ := F.put 113 (.pointer (some ⟨b, off + k * 3 + 1, none⟩)) (by decide)
  replace e91 := (hk' 91 (by decide)).trans e91
  replace e96 := (hk' 96 (by decide)).trans e96
  replace e101 := (hk' 101 (by decide)).trans e101
  replace e104 := (hk' 104 (by decide)).trans e104
  replace e109 := (hk' 109 (by decide)).trans e109
  rw [ha]
  clear hk' ha
  clear e112
  refine wpAnyH_take (i := 23) (v := .slice A' n' c') rfl (by kernel_rfl) (by kernel_rfl) (by kernel_rfl) (fun _ _ _ h => hQ _ _ _ _ _ h) (Or.inl ⟨by rfl, fun w' hw' => ?_⟩) hS ?_
  · obtain ⟨z0, z1, z2⟩ := hw'
    generalize a21.eval = ρ at e113 ⊢
    go_simp
  show wpAnyH _ _ _ _ _ _ _ (Act.put a21 (some 114) (.slice A' n' c')) _
  obtain ⟨a22, ha, F, e114, hk'⟩ := F.put 114 (.slice A' n' c') (by decide)
  replace e91 := (hk' 91 (by decide)).trans e91
  replace e96 := (hk' 96 (by decide)).trans e96
  replace e101 := (hk' 101 (by decide)).trans e101
  replace e104 := (hk' 104 (by decide)).trans e104
  replace e109 := (hk' 109 (by decide)).trans e109
  rw [ha]
  clear hk' ha
  clear e113
  refine wpAnyH_ready (rs := [11]) (by kernel_rfl) (by simp) ?_
  refine AllReadyH.cons rfl (fun K hK => ?_) AllReadyH.nil
  refine op_call (args := #[.pointer (some ⟨lx, 0, none⟩), .string d.name, .slice A' n' c']) rfl (by have ef : a22.eval (.func 15) = .func (.func 15) #[] #[] := rfl; generalize a22.eval = ρ at e91 e96 e101 ef ⊢; go_simp) ((T0.out).define d.name A' n' c' d.bytes hns R0.out R0.out.hmax) ?_
  rintro e w11 ⟨rfl, hT', hb'⟩
  refine ⟨_, rfl, ?_⟩
  have T1 := Lib.hid (hT')
  have HB1 := Lib.hid (HB0.out.trans hb')
  have R1 := Lib.hid (rdB_low R0.out hb' hAB)
  have hS : (fun w' => DfC w' b (off + k * 3) d A' n' c') w11 := hS.low hb' hbB
  have hGl := Lib.hid (hGl.out.below hb' hB)
  clear hT' hb'
  refine hK.out _ _ hS (fun _ => ?_)
  clear hK K
  show wpAnyH _ _ _ _ _ _ _ (Act.put a22 (some 102) (.int .i64 (σ.defE d.name d.bytes))) _
  obtain ⟨a23, ha, F, e102, hk'⟩ := F.put 102 (.int .i64 (σ.defE d.name d.bytes)) (by decide)
  replace e104 := (hk' 104 (by decide)).trans e104
  replace e109 := (hk' 109 (by decide)).trans e109
  replace e114 := (hk' 114 (by decide)).trans e114
  rw [ha]
  clear hk' ha
  clear e91 e96 e101
  refine wpAnyH_ready (rs := [12]) (by kernel_rfl) (by simp) ?_
  refine AllReadyH.cons rfl (fun K hK => ?_) AllReadyH.nil
  refine op_call (args := #[.int .i64 (σ.defE d.name d.bytes)]) rfl (by have ef : a23.eval (.func 19) = .func (.func 19) #[] #[] := rfl; generalize a23.eval = ρ at e102 ef ⊢; go_simp) (num_any _ _) ?_
  rintro e w' ⟨rfl, rfl⟩
  refine ⟨_, rfl, ?_⟩
  refine hK.out _ _ hS (fun _ => ?_)
  clear hK K
  show wpAnyH _ _ _ _ _ _ _ (Act.put a23 (some 103) (.int .i64 (σ.defE d.name d.bytes))) _
  obtain ⟨a24, ha, F, e103, hk'⟩ := F.put 103 (.int .i64 (σ.defE d.name d.bytes)) (by decide)
  replace e104 := (hk' 104 (by decide)).trans e104
  replace e109 := (hk' 109 (by decide)).trans e109
  replace e114 := (hk' 114 (by decide)).trans e114
  rw [ha]
  clear hk' ha
  clear e102
  refine wpAnyH_ready (rs := [24]) (by kernel_rfl) (by simp) ?_
  refine AllReadyH.cons rfl (fun K hK => ?_) AllReadyH.nil
  refine op_call (args := #[.pointer (some ⟨lz, 0, none⟩), .string d.name, .slice A' n' c']) rfl (by have ef : a24.eval (.func 15) = .func (.func 15) #[] #[] := rfl; generalize a24.eval = ρ at e104 e109 e114 ef ⊢; go_simp) ((T1.out).rot.rot.define d.name A' n' c' d.bytes hns R1.out R0.out.hmax) ?_
  rintro e w12 ⟨rfl, hT', hb'⟩
  refine ⟨_, rfl, ?_⟩
  have T2 := Lib.hid (hT'.rot)
  have HB2 := Lib.hid (HB1.out.trans hb')
  have R2 := Lib.hid (rdB_low R1.out hb' hAB)
  have hS : (fun w' => DfC w' b (off + k * 3) d A' n' c') w12 := hS.low hb' hbB
  have hGl := Lib.hid (hGl.out.below hb' hB)
  clear hT' hb'
  refine hK.out _ _ hS (fun _ => ?_)
  clear hK K
  show wpAnyH _ _ _ _ _ _ _ (Act.put a24 (some 115) (.int .i64 (υ.defE d.name d.bytes))) _
  obtain ⟨a25, ha, F, e115, hk'⟩ := F.put 115 (.int .i64 (υ.defE d.name d.bytes)) (by decide)
  replace e103 := (hk' 103 (by decide)).trans e103
  rw [ha]
  clear hk' ha
  clear e104 e109 e114
  refine wpAnyH_ready (rs := [25]) (by kernel_rfl) (by simp) ?_
  refine AllReadyH.cons rfl (fun K hK => ?_) AllReadyH.nil
  refine op_call (args := #[.int .i64 (υ.defE d.name d.bytes)]) rfl (by have ef : a25.eval (.func 19) = .func (.func 19) #[] #[] := rfl; generalize a25.eval = ρ at e115 ef ⊢; go_simp) (num_any _ _) ?_
  rintro e w' ⟨rfl, rfl⟩
  refine ⟨_, rfl, ?_⟩
  refine hK.out _ _ hS (fun _ => ?_)
  clear hK K
  show wpAnyH _ _ _ _ _ _ _ (Act.put a25 (some 116) (.int .i64 (υ.defE d.name d.bytes))) _
  obtain ⟨a26, ha, F, e116, hk'⟩ := F.put 116 (.int .i64 (υ.defE d.name d.bytes)) (by decide)
  replace e103 := (hk' 103 (by decide)).trans e103
  rw [ha]
  clear hk' ha
  clear e115
  refine wpAnyH_take (i := 26) (v := .bool (σ.defE d.name d.bytes != υ.defE d.name d.bytes)) rfl (by kernel_rfl) (by kernel_rfl) (by kernel_rfl) (fun _ _ _ h => hQ _ _ _ _ _ h) (Or.inl ⟨by rfl, fun w' hw' => ?_⟩) hS ?_
  · obtain ⟨z0, z1, z2⟩ := hw'
    generalize a26.eval = ρ at e103 e116 ⊢
    go_simp
  show wpAnyH _ _ _ _ _ _ _ (Act.put a26 (some 117) (.bool (σ.defE d.name d.bytes != υ.defE d.name d.bytes))) _
  obtain ⟨a27, ha, F, e117, hk'⟩ := F.put 117 (.bool (σ.defE d.name d.bytes != υ.defE d.name d.bytes)) (by decide)
  rw [ha]
  clear hk' ha
  clear e103 e116
  refine wpAnyH_done (by kernel_rfl) ?_ _
  exact hfin _ _ F.z F.d F.k ⟨e117, T2.out⟩ HB2.out
end Go.Proofs.YtdbniocnjhfhdaaGreatDoor
