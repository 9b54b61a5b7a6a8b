/-
  What the loader's laws rest on, part 24: walks of the program's functions and plain laws. Conditions: none but those that each theorem names.
-/
import Derived.Test.YtdbniocnjhfhdaaGreatDoorB09
import Derived.Test.YtdbniocnjhfhdaaGreatDoorB23
import Derived.Test.YtdbniocnjhfhdaaGreatDoorB15
import Derived.Test.YtdbniocnjhfhdaaGreatDoorB06
import Derived.Deep.AppendLies

set_option linter.unusedSimpArgs false
set_option linter.unusedVariables false
set_option maxRecDepth 100000
set_option maxHeartbeats 4000000
namespace Go.Proofs.YtdbniocnjhfhdaaGreatDoor
open Go Go.RowKit Lib
theorem clone_any (s : ByteArray) (w : World) (h : s.size ≤ 65536) : Calls Tryz.prog 99 #[.string s] w fun e w' => e = .returned (.string s) ∧ Below w.heap.size w w' := by
  go_enter Tryz.func99, Tryz.ntmps99
  go_wp2_with (go_at_call 129; refine (Tryz.stringslite_Clone s _ (by omega)).mono ?_; rintro e w1 ⟨rfl, hb⟩; have HB := Lib.hid hb; clear hb)
  go_ret
  exact ⟨rfl, HB.out⟩
theorem eval_put {a : Act} {d i : Nat} {v : Value} (h : i ≠ d) : (a.put (some d) v).eval (.tmp i) = a.eval (.tmp i) := by
  simp [Act.put, Act.eval, Array.getD_eq_getD_getElem?, Array.getElem?_setIfInBounds, Ne.symm h]
theorem eval_here {a : Act} {d : Nat} {v : Value} (h : d < a.tmps.size) : (a.put (some d) v).eval (.tmp d) = v := by
  simp [Act.put, Act.eval, Array.getD_eq_getD_getElem?, Array.getElem?_setIfInBounds, h]
theorem put_size {a : Act} {d : Nat} {v : Value} : (a.put (some d) v).tmps.size = a.tmps.size := by simp [Act.put]
structure FrK (a0 a : Act) (N lo hi : Nat) : Prop where
  z : a.tmps.size = N
  d : a.defers = a0.defers
  k : ∀ i : Nat, (i < lo ∨ hi < i) → a.eval (.tmp i) = a0.eval (.tmp i)
theorem FrK.put {a0 a : Act} {N lo hi : Nat} (h : FrK a0 a N lo hi) (d : Nat) (v : Value) (hd : lo ≤ d ∧ d ≤ hi ∧ d < N) : ∃ b, a.put (some d) v = b ∧ FrK a0 b N lo hi ∧ b.eval (.tmp d) = v ∧ ∀ i : Nat, i ≠ d → b.eval (.tmp i) = a.eval (.tmp i) :=
  ⟨_, rfl, ⟨put_size.trans h.z, h.d, fun i hi => (eval_put (by omega)).trans (h.k i hi)⟩, eval_here (by rw [h.z]; exact hd.2.2), fun i hi => eval_put hi⟩
theorem put_split {a : Act} {d : Nat} {v : Value} {N : Nat} (hz : a.tmps.size = N) (hd : d < N) : ∃ b, a.put (some d) v = b ∧ b.tmps.size = N ∧ b.eval (.tmp d) = v ∧ ∀ i : Nat, i ≠ d → b.eval (.tmp i) = a.eval (.tmp i) :=
  ⟨_, rfl, put_size.trans hz, eval_here (by omega), fun i hi => eval_put hi⟩
abbrev SF (FB KB : Nat) (acc val num : Int) (w' : World) : Prop := w'.cell? ⟨FB, 0, none⟩ = some (.int .i64 acc) ∧ w'.cell? ⟨FB, 3, none⟩ = some (.int .i64 val) ∧ w'.cell? ⟨KB, 2, none⟩ = some (.int .i64 num)
abbrev SM (FB : Nat) (acc : Int) (has : Bool) (w' : World) : Prop := w'.cell? ⟨FB, 0, none⟩ = some (.int .i64 acc) ∧ w'.cell? ⟨FB, 3, none⟩ = some (.bool has)
theorem act_chain (a b : Act) (lo n : Nat) (hsz : b.tmps.size = a.tmps.size) (hd : b.defers = a.defers) (hk : ∀ i : Nat, (i < lo ∨ lo + n - 1 < i) → b.eval (.tmp i) = a.eval (.tmp i)) (hln : lo + n ≤ a.tmps.size) (hn : 0 < n) :
    b = { tmps := (a.tmps.toList.take lo ++ ((List.range n).map fun j => b.eval (.tmp (lo + j))) ++ a.tmps.toList.drop (lo + n)).toArray, defers := a.defers } := by
  obtain ⟨bt, bd⟩ := b
  obtain ⟨av, ad⟩ := a
  simp only at hsz hd hln
  subst hd
  congr 1
  have hev : ∀ (x : Array Value) (i : Nat) (h : i < x.size), Act.eval ⟨x, bd⟩ (.tmp i) = x[i] := fun x i h => by simp [Act.eval, Array.getD, h]
  refine Array.ext (by simp; omega) fun i h1 h2 => ?_
  rw [← hev bt i h1]
  simp only [List.getElem_toArray]
  by_cases c1 : i < lo
  · rw [List.getElem_append_left (by simp; omega), List.getElem_append_left (by simp; omega), List.getElem_take, Array.getElem_toList, ← hev av i (by omega)]
    exact hk i (.inl c1)
  · by_cases c2 : i < lo + n
    · rw [List.getElem_append_left (by simp; omega), List.getElem_append_right (by simp; omega)]
      simp only [List.getElem_map, List.getElem_range, List.length_take, Array.length_toList]
      rw [show lo + (i - min lo av.size) = i by omega]
    · rw [List.getElem_append_right (by simp; omega)]
      simp only [List.getElem_drop, Array.getElem_toList]
      have e : lo + n + (i - (av.toList.take lo ++ (List.range n).map fun j => Act.eval ⟨bt, bd⟩ (.tmp (lo + j))).length) = i := by simp; omega
      rw [hk i (.inr (by omega)), hev av i (by omega)]
      congr 1
      exact e.symm
theorem op_value {Q : Exit → Act → World → Prop} {K : Act → World → Prop} {o : Oper} {ops : Array Oper} {a : Act} {w w' : World} {E : Prop} {v : Value} (hg : o.guard = none) (h : (execOp a.eval o).run Tryz.prog w = .ok (.value v) w') (hK : K (a.put o.dst v) w') :
    if Region.wanted o (yielded ops a.tmps) = true then Oper.wp Tryz.prog o a w K Q else E := by
  have hw : Region.wanted o (yielded ops a.tmps) = true := by unfold Region.wanted; rw [hg]
  rw [if_pos hw]
  unfold Oper.wp
  rw [h]
  exact hK
theorem op_skip {Q : Exit → Act → World → Prop} {K : Act → World → Prop} {o : Oper} {ops : Array Oper} {a : Act} {w w' : World} {E : Prop} (hg : o.guard = none) (hd : o.dst = none) (h : (execOp a.eval o).run Tryz.prog w = .ok .skip w') (hK : K a w') :
    if Region.wanted o (yielded ops a.tmps) = true then Oper.wp Tryz.prog o a w K Q else E := by
  have hw : Region.wanted o (yielded ops a.tmps) = true := by unfold Region.wanted; rw [hg]
  rw [if_pos hw]
  unfold Oper.wp
  rw [h, Oper.upon_skip, hd]
  exact hK
theorem op_clone {Q : Exit → Act → World → Prop} {K : Act → World → Prop} {o : Oper} {ops : Array Oper} {a : Act} {w : World} {E : Prop} (s : ByteArray) (hs : s.size ≤ 65536) (hg : o.guard = none) (h : (execOp a.eval o).run Tryz.prog w = .ok (.enter 99 #[.string s]) w)
    (hK : ∀ w', Below w.heap.size w w' → K (a.put o.dst (.string s)) w') : if Region.wanted o (yielded ops a.tmps) = true then Oper.wp Tryz.prog o a w K Q else E := by
  have hw : Region.wanted o (yielded ops a.tmps) = true := by unfold Region.wanted; rw [hg]
  rw [if_pos hw]
  unfold Oper.wp
  rw [h, Oper.upon_enter]
  refine (clone_any s w hs).mono ?_
  rintro e w' ⟨rfl, hb⟩
  exact hK w' hb
theorem region_fld (a0 : Act) (G FB M k : Nat) (pv : Value) (acc xn xd : Int) (val : Int) (KB : Nat) (kt num ka kb : Int) (kx : ByteArray) (nm ds : ByteArray) (tc : List Value) (rows : List Value) (w9 : World) (Q : Exit → Act → World → Prop) (hz : a0.tmps.size = 155) (e6 : a0.eval (.tmp 6) = .pointer (some ⟨G + 1, 0, none⟩)) (e12 : a0.eval (.tmp 12) = .pointer (some ⟨FB, 0, none⟩)) (e13 : a0.eval (.tmp 13) = .string nm) (e15 : a0.eval (.tmp 15) = .string ds) (e17 : a0.eval (.tmp 17) = .pointer (some ⟨KB, 0, none⟩))
    (XB : Hid (Bx w9 (G + 1) tc 39)) (hpv : tc[4]? = some pv) (XF : Hid (Bx w9 FB [.int .i64 acc, .int .i64 xn, .int .i64 xd, .int .i64 val] 119)) (XK : Hid (Bx w9 KB [.int .i64 kt, .string kx, .int .i64 num, .int .i64 ka, .int .i64 kb] 78)) (HO : Hid (w9.ownsRow M 52 5 pv k rows)) (hk : k ≤ 64) (hGM : G + 1 < M) (hMF : M ≤ FB) (hMw : M ≤ w9.heap.size) (hMK : M ≤ KB) (hown : ∀ g, pv.ownBlock = some g → g < FB) (hnl : nm.size ≤ 65536) (hdl : ds.size ≤ 65536) (hFK : FB < KB)
    (hQ : ∀ c a d v w, Q (.panic c) (a.put (some d) v) w → Q (.panic c) a w)
    (hfin : ∀ (b : Act) (g c : Nat) (W' : World), b.tmps.size = 155 → b.defers = a0.defers → (∀ i : Nat, (i < 100 ∨ 116 < i) → b.eval (.tmp i) = a0.eval (.tmp i)) → Bx W' (G + 1) (tc.set 4 (.slice (some ⟨g, 0, none⟩) (k + 1) c)) 39 → But M [G + 1] w9 W' → W'.ownsRow M 52 5 (.slice (some ⟨g, 0, none⟩) (k + 1) c) (k + 1) (rows ++ [.int .i64 acc, .string nm, .string ds, .bool (val != 0), .int .i64 num]) → w9.heap.size ≤ W'.heap.size → Q .normal b W') :
    Code.wp Tryz.prog (Code.region 20 #[{ dst := some 100, op := Op.fieldAddr 39 (Operand.tmp 6) 4, type := 0, pos := "check.go:331", after := #[], guard := none }, { dst := some 101, op := Op.load 37 (Operand.tmp 100), type := 37, pos := "check.go:331", after := #[{ on := 0, ground := Ground.data }], guard := none }, { dst := some 102, op := Op.fieldAddr 119 (Operand.tmp 12) 0, type := 0, pos := "check.go:331", after := #[], guard := none }, { dst := some 103, op := Op.load 3 (Operand.tmp 102), type := 3, pos := "check.go:331", after := #[{ on := 2, ground := Ground.data }], guard := none }, { dst := some 104, op := Op.move (Operand.tmp 13), type := 9, pos := "check.go:331", after := #[], guard := none }, { dst := some 105, op := Op.call { callee := Callee.value (Operand.func 99), args := #[Operand.tmp 104], argTypes := #[9] }, type := 9, pos := "check.go:331", after := #[{ on := 4, ground := Ground.data }], guard := none }, { dst := some 106, op := Op.move (Operand.tmp 15), type := 9, pos := "check.go:331", after := #[], guard := none }, { dst := some 107, op := Op.call { callee := Callee.value (Operand.func 99), args := #[Operand.tmp 106], argTypes := #[9] }, type := 9, pos := "check.go:331", after := #[{ on := 6, ground := Ground.data }, { on := 5, ground := Ground.chain }], guard := none }, { dst := some 108, op := Op.fieldAddr 119 (Operand.tmp 12) 3, type := 0, pos := "check.go:331", after := #[], guard := none }, { dst := some 109, op := Op.load 3 (Operand.tmp 108), type := 3, pos := "check.go:331", after := #[{ on := 8, ground := Ground.data }], guard := none }, { dst := some 110, op := Op.binOp BinOp.neq 3 (Operand.tmp 109) (Operand.const (Value.int IntKind.i64 0)) 3, type := 4, pos := "check.go:331", after := #[{ on := 9, ground := Ground.data }], guard := none }, { dst := some 111, op := Op.fieldAddr 78 (Operand.tmp 17) 2, type := 0, pos := "check.go:331", after := #[], guard := none }, { dst := some 112, op := Op.load 3 (Operand.tmp 111), type := 3, pos := "check.go:331", after := #[{ on := 11, ground := Ground.data }], guard := none }, { dst := some 113, op := Op.build 52 #[(0, Operand.tmp 103), (1, Operand.tmp 105), (2, Operand.tmp 107), (3, Operand.tmp 110), (4, Operand.tmp 112)], type := 52, pos := "check.go:331", after := #[{ on := 3, ground := Ground.data }, { on := 5, ground := Ground.data }, { on := 7, ground := Ground.data }, { on := 10, ground := Ground.data }, { on := 12, ground := Ground.data }], guard := none }, { dst := some 114, op := Op.buildSlice 37 1 #[(0, Operand.tmp 113)], type := 37, pos := "check.go:331", after := #[{ on := 13, ground := Ground.data }], guard := none }, { dst := some 115, op := Op.call { callee := Callee.builtin Builtin.append, args := #[Operand.tmp 101, Operand.tmp 114], argTypes := #[37, 37] }, type := 37, pos := "check.go:331", after := #[{ on := 1, ground := Ground.data }, { on := 14, ground := Ground.data }, { on := 7, ground := Ground.chain }], guard := none }, { dst := some 116, op := Op.fieldAddr 39 (Operand.tmp 6) 4, type := 0, pos := "check.go:331", after := #[{ on := 0, ground := Ground.phase }, { on := 1, ground := Ground.phase }, { on := 2, ground := Ground.phase }, { on := 3, ground := Ground.phase }, { on := 4, ground := Ground.phase }, { on := 5, ground := Ground.phase }, { on := 6, ground := Ground.phase }, { on := 7, ground := Ground.phase }, { on := 8, ground := Ground.phase }, { on := 9, ground := Ground.phase }, { on := 10, ground := Ground.phase }, { on := 11, ground := Ground.phase }, { on := 12, ground := Ground.phase }, { on := 13, ground := Ground.phase }, { on := 14, ground := Ground.phase }, { on := 15, ground := Ground.phase }], guard := none }, { dst := none, op := Op.store 37 (Operand.tmp 116) (Operand.tmp 115), type := 0, pos := "check.go:331", after := #[{ on := 16, ground := Ground.data }, { on := 15, ground := Ground.data }, { on := 15, ground := Ground.chain }, { on := 0, ground := Ground.phase }, { on := 1, ground := Ground.phase }, { on := 2, ground := Ground.phase }, { on := 3, ground := Ground.phase }, { on := 4, ground := Ground.phase }, { on := 5, ground := Ground.phase }, { on := 6, ground := Ground.phase }, { on := 7, ground := Ground.phase }, { on := 8, ground := Ground.phase }, { on := 9, ground := Ground.phase }, { on := 10, ground := Ground.phase }, { on := 11, ground := Ground.phase }, { on := 12, ground := Ground.phase }, { on := 13, ground := Ground.phase }, { on := 14, ground := Ground.phase }, { on := 15, ground := Ground.phase }], guard := none }] true) Q a0 w9 := by
  have S1 := XF.out.cell 0 rfl
  have S2 := XF.out.cell 3 rfl
  have S3 := XK.out.cell 2 rfl
  refine wp_region_held_drew (S := SF FB KB acc val num) rfl ⟨S1, S2, S3⟩ (fun hS => ?_)
  clear S1 S2 S3
  have hdr := (Below.refl w9.heap.size w9).drew
  have B10 := Lib.hid (XB.out.below hdr XB.out.lt)
  have HB10 := Lib.hid (show Below w9.heap.size w9 w9.drew from hdr)
  have hz10 : w9.drew.heap.size = w9.heap.size := rfl
  have hFl := XF.out.lt
  have hKl := XK.out.lt
  clear hdr
  generalize w9.drew = w10 at *
  have F : FrK a0 a0 155 100 116 := ⟨hz, rfl, fun _ _ => rfl⟩
  refine wpAnyH_take (i := 0) (v := .pointer (some ⟨G + 1, 4, none⟩)) rfl (by kernel_rfl) (by kernel_rfl) (by kernel_rfl) (fun _ _ _ h => hQ _ _ _ _ _ h) (Or.inl ⟨by rfl, fun w' hw' => ?_⟩) hS ?_
  · obtain ⟨z0, z1, z2⟩ := hw'
    generalize a0.eval = ρ at e6 ⊢
    go_simp
  show wpAnyH _ _ _ _ _ _ _ (Act.put a0 (some 100) (.pointer (some ⟨G + 1, 4, none⟩))) _
  obtain ⟨a1, ha, F, e100, hk'⟩ := F.put 100 (.pointer (some ⟨G + 1, 4, none⟩)) (by decide)
  replace e6 := (hk' 6 (by decide)).trans e6
  replace e12 := (hk' 12 (by decide)).trans e12
  replace e13 := (hk' 13 (by decide)).trans e13
  replace e15 := (hk' 15 (by decide)).trans e15
  replace e17 := (hk' 17 (by decide)).trans e17
  rw [ha]
  clear hk' ha
  refine wpAnyH_take (i := 2) (v := .pointer (some ⟨FB, 0, none⟩)) rfl (by kernel_rfl) (by kernel_rfl) (by kernel_rfl) (fun _ _ _ h => hQ _ _ _ _ _ h) (Or.inl ⟨by rfl, fun w' hw' => ?_⟩) hS ?_
  · obtain ⟨z0, z1, z2⟩ := hw'
    generalize a1.eval = ρ at e12 ⊢
    go_simp
  show wpAnyH _ _ _ _ _ _ _ (Act.put a1 (some 102) (.pointer (some ⟨FB, 0, none⟩))) _
  obtain ⟨a2, ha, F, e102, hk'⟩ := F.put 102 (.pointer (some ⟨FB, 0, none⟩)) (by decide)
  replace e6 := (hk' 6 (by decide)).trans e6
  replace e12 := (hk' 12 (by decide)).trans e12
  replace e13 := (hk' 13 (by decide)).trans e13
  replace e15 := (hk' 15 (by decide)).trans e15
  replace e17 := (hk' 17 (by decide)).trans e17
  replace e100 := (hk' 100 (by decide)).trans e100
  rw [ha]
  clear hk' ha
  refine wpAnyH_take (i := 3) (v := .int .i64 acc) rfl (by kernel_rfl) (by kernel_rfl) (by kernel_rfl) (fun _ _ _ h => hQ _ _ _ _ _ h) (Or.inl ⟨by rfl, fun w' hw' => ?_⟩) hS ?_
  · obtain ⟨z0, z1, z2⟩ := hw'
    generalize a2.eval = ρ at e102 ⊢
    go_simp
  show wpAnyH _ _ _ _ _ _ _ (Act.put a2 (some 103) (.int .i64 acc)) _
  obtain ⟨a3, ha, F, e103, hk'⟩ := F.put 103 (.int .i64 acc) (by decide)
  replace e6 := (hk' 6 (by decide)).trans e6
  replace e12 := (hk' 12 (by decide)).trans e12
  replace e13 := (hk' 13 (by decide)).trans e13
  replace e15 := (hk' 15 (by decide)).trans e15
  replace e17 := (hk' 17 (by decide)).trans e17
  replace e100 := (hk' 100 (by decide)).trans e100
  rw [ha]
  clear hk' ha
  clear e102
  refine wpAnyH_take (i := 4) (v := .string nm) rfl (by kernel_rfl) (by kernel_rfl) (by kernel_rfl) (fun _ _ _ h => hQ _ _ _ _ _ h) (Or.inl ⟨by rfl, fun w' hw' => ?_⟩) hS ?_
  · obtain ⟨z0, z1, z2⟩ := hw'
    generalize a3.eval = ρ at e13 ⊢
    go_simp
  show wpAnyH _ _ _ _ _ _ _ (Act.put a3 (some 104) (.string nm)) _
  obtain ⟨a4, ha, F, e104, hk'⟩ := F.put 104 (.string nm) (by decide)
  replace e6 := (hk' 6 (by decide)).trans e6
  replace e12 := (hk' 12 (by decide)).trans e12
  replace e15 := (hk' 15 (by decide)).trans e15
  replace e17 := (hk' 17 (by decide)).trans e17
  replace e100 := (hk' 100 (by decide)).trans e100
  replace e103 := (hk' 103 (by decide)).trans e103
  rw [ha]
  clear hk' ha
  clear e13
  refine wpAnyH_take (i := 6) (v := .string ds) rfl (by kernel_rfl) (by kernel_rfl) (by kernel_rfl) (fun _ _ _ h => hQ _ _ _ _ _ h) (Or.inl ⟨by rfl, fun w' hw' => ?_⟩) hS ?_
  · obtain ⟨z0, z1, z2⟩ := hw'
    generalize a4.eval = ρ at e15 ⊢
    go_simp
  show wpAnyH _ _ _ _ _ _ _ (Act.put a4 (some 106) (.string ds)) _
  obtain ⟨a5, ha, F, e106, hk'⟩ := F.put 106 (.string ds) (by decide)
  replace e6 := (hk' 6 (by decide)).trans e6
  replace e12 := (hk' 12 (by decide)).trans e12
  replace e17 := (hk' 17 (by decide)).trans e17
  replace e100 := (hk' 100 (by decide)).trans e100
  replace e103 := (hk' 103 (by decide)).trans e103
  replace e104 := (hk' 104 (by decide)).trans e104
  rw [ha]
  clear hk' ha
  clear e15
  refine wpAnyH_take (i := 8) (v := .pointer (some ⟨FB, 3, none⟩)) rfl (by kernel_rfl) (by kernel_rfl) (by kernel_rfl) (fun _ _ _ h => hQ _ _ _ _ _ h) (Or.inl ⟨by rfl, fun w' hw' => ?_⟩) hS ?_
  · obtain ⟨z0, z1, z2⟩ := hw'
    generalize a5.eval = ρ at e12 ⊢
    go_simp
  show wpAnyH _ _ _ _ _ _ _ (Act.put a5 (some 108) (.pointer (some ⟨FB, 3, none⟩))) _
  obtain ⟨a6, ha, F, e108, hk'⟩ := F.put 108 (.pointer (some ⟨FB, 3, none⟩)) (by decide)
  replace e6 := (hk' 6 (by decide)).trans e6
  replace e17 := (hk' 17 (by decide)).trans e17
  replace e100 := (hk' 100 (by decide)).trans e100
  replace e103 := (hk' 103 (by decide)).trans e103
  replace e104 := (hk' 104 (by decide)).trans e104
  replace e106 := (hk' 106 (by decide)).trans e106
  rw [ha]
  clear hk' ha
  clear e12
  refine wpAnyH_take (i := 9) (v := .int .i64 val) rfl (by kernel_rfl) (by kernel_rfl) (by kernel_rfl) (fun _ _ _ h => hQ _ _ _ _ _ h) (Or.inl ⟨by rfl, fun w' hw' => ?_⟩) hS ?_
  · obtain ⟨z0, z1, z2⟩ := hw'
    generalize a6.eval = ρ at e108 ⊢
    go_simp
  show wpAnyH _ _ _ _ _ _ _ (Act.put a6 (some 109) (.int .i64 val)) _
  obtain ⟨a7, ha, F, e109, hk'⟩ := F.put 109 (.int .i64 val) (by decide)
  replace e6 := (hk' 6 (by decide)).trans e6
  replace e17 := (hk' 17 (by decide)).trans e17
  replace e100 := (hk' 100 (by decide)).trans e100
  replace e103 := (hk' 103 (by decide)).trans e103
  replace e104 := (hk' 104 (by decide)).trans e104
  replace e106 := (hk' 106 (by decide)).trans e106
  rw [ha]
  clear hk' ha
  clear e108
  refine wpAnyH_take (i := 10) (v := .bool (val != 0)) rfl (by kernel_rfl) (by kernel_rfl) (by kernel_rfl) (fun _ _ _ h => hQ _ _ _ _ _ h) (Or.inl ⟨by rfl, fun w' hw' => ?_⟩) hS ?_
  · obtain ⟨z0, z1, z2⟩ := hw'
    have ec : ∀ v, a7.eval (.const v) = v := fun _ => rfl
    generalize a7.eval = ρ at e109 ec ⊢
    go_simp
  show wpAnyH _ _ _ _ _ _ _ (Act.put a7 (some 110) (.bool (val != 0))) _
  obtain ⟨a8, ha, F, e110, hk'⟩ := F.put 110 (.bool (val != 0)) (by decide)
  replace e6 := (hk' 6 (by decide)).trans e6
  replace e17 := (hk' 17 (by decide)).trans e17
  replace e100 := (hk' 100 (by decide)).trans e100
  replace e103 := (hk' 103 (by decide)).trans e103
  replace e104 := (hk' 104 (by decide)).trans e104
  replace e106 := (hk' 106 (by decide)).trans e106
  rw [ha]
  clear hk' ha
  clear e109
  refine wpAnyH_take (i := 11) (v := .pointer (some ⟨KB, 2, none⟩)) rfl (by kernel_rfl) (by kernel_rfl) (by kernel_rfl) (fun _ _ _ h => hQ _ _ _ _ _ h) (Or.inl ⟨by rfl, fun w' hw' => ?_⟩) hS ?_
  · obtain ⟨z0, z1, z2⟩ := hw'
    generalize a8.eval = ρ at e17 ⊢
    go_simp
  show wpAnyH _ _ _ _ _ _ _ (Act.put a8 (some 111) (.pointer (some ⟨KB, 2, none⟩))) _
  obtain ⟨a9, ha, F, e111, hk'⟩ := F.put 111 (.pointer (some ⟨KB, 2, none⟩)) (by decide)
  replace e6 := (hk' 6 (by decide)).trans e6
  replace e100 := (hk' 100 (by decide)).trans e100
  replace e103 := (hk' 103 (by decide)).trans e103
  replace e104 := (hk' 104 (by decide)).trans e104
  replace e106 := (hk' 106 (by decide)).trans e106
  replace e110 := (hk' 110 (by decide)).trans e110
  rw [ha]
  clear hk' ha
  clear e17
  refine wpAnyH_take (i := 12) (v := .int .i64 num) rfl (by kernel_rfl) (by kernel_rfl) (by kernel_rfl) (fun _ _ _ h => hQ _ _ _ _ _ h) (Or.inl ⟨by rfl, fun w' hw' => ?_⟩) hS ?_
  · obtain ⟨z0, z1, z2⟩ := hw'
    generalize a9.eval = ρ at e111 ⊢
    go_simp
  show wpAnyH _ _ _ _ _ _ _ (Act.put a9 (some 112) (.int .i64 num)) _
  obtain ⟨a10, ha, F, e112, hk'⟩ := F.put 112 (.int .i64 num) (by decide)
  replace e6 := (hk' 6 (by decide)).trans e6
  replace e100 := (hk' 100 (by decide)).trans e100
  replace e103 := (hk' 103 (by decide)).trans e103
  replace e104 := (hk' 104 (by decide)).trans e104
  replace e106 := (hk' 106 (by decide)).trans e106
  replace e110 := (hk' 110 (by decide)).trans e110
  rw [ha]
  clear hk' ha
  clear e111
  refine wpAnyH_ready (rs := [1, 5]) (by kernel_rfl) (by simp) ?_
  refine AllReadyH.cons rfl (fun K hK => ?_) (AllReadyH.cons rfl (fun K hK => ?_) AllReadyH.nil)
  · have cl := B10.out.cell 4 hpv
    refine op_value (v := pv) (w' := w10) rfl (by generalize a10.eval = ρ at e100 ⊢; go_simp) (hK.out _ _ hS (fun _ => ?_))
    clear hK K cl
    show wpAnyH _ _ _ _ _ _ _ (Act.put a10 (some 101) (pv)) _
    obtain ⟨a11, ha, F, e101, hk'⟩ := F.put 101 (pv) (by decide)
    replace e6 := (hk' 6 (by decide)).trans e6
    replace e103 := (hk' 103 (by decide)).trans e103
    replace e104 := (hk' 104 (by decide)).trans e104
    replace e106 := (hk' 106 (by decide)).trans e106
    replace e110 := (hk' 110 (by decide)).trans e110
    replace e112 := (hk' 112 (by decide)).trans e112
    rw [ha]
    clear hk' ha
    clear e100
    refine wpAnyH_ready (rs := [5]) (by kernel_rfl) (by simp) ?_
    refine AllReadyH.cons rfl (fun K hK => ?_) AllReadyH.nil
    refine op_clone nm hnl rfl (by have ef : a11.eval (.func 99) = .func (.func 99) #[] #[] := rfl; generalize a11.eval = ρ at e104 ef ⊢; go_simp) ?_
    rintro w11 hb
    have hz11 := hb.size
    have B11 := Lib.hid (B10.out.below hb B10.out.lt)
    have HB11 := Lib.hid (HB10.out.trans (hb.mono (by omega)))
    have hS : (SF FB KB acc val num) w11 := ⟨(hb.cell (p := ⟨FB, 0, none⟩) (show FB < _ by omega)).trans hS.1, (hb.cell (p := ⟨FB, 3, none⟩) (show FB < _ by omega)).trans hS.2.1, (hb.cell (p := ⟨KB, 2, none⟩) (show KB < _ by omega)).trans hS.2.2⟩
    clear hb
    refine hK.out _ _ hS (fun _ => ?_)
    clear hK K
    show wpAnyH _ _ _ _ _ _ _ (Act.put a11 (some 105) (.string nm)) _
    obtain ⟨a12, ha, F, e105, hk'⟩ := F.put 105 (.string nm) (by decide)
    replace e6 := (hk' 6 (by decide)).trans e6
    replace e103 := (hk' 103 (by decide)).trans e103
    replace e106 := (hk' 106 (by decide)).trans e106
    replace e110 := (hk' 110 (by decide)).trans e110
    replace e112 := (hk' 112 (by decide)).trans e112
    replace e101 := (hk' 101 (by decide)).trans e101
    rw [ha]
    clear hk' ha
    clear e104
    refine wpAnyH_ready (rs := [7]) (by kernel_rfl) (by simp) ?_
    refine AllReadyH.cons rfl (fun K hK => ?_) AllReadyH.nil
    refine op_clone ds hdl rfl (by have ef : a12.eval (.func 99) = .func (.func 99) #[] #[] := rfl; generalize a12.eval = ρ at e106 ef ⊢; go_simp) ?_
    rintro w12 hb
    have hz12 := hb.size
    have B12 := Lib.hid (B11.out.below hb B11.out.lt)
    have HB12 := Lib.hid (HB11.out.trans (hb.mono (by omega)))
    have hS : (SF FB KB acc val num) w12 := ⟨(hb.cell (p := ⟨FB, 0, none⟩) (show FB < _ by omega)).trans hS.1, (hb.cell (p := ⟨FB, 3, none⟩) (show FB < _ by omega)).trans hS.2.1, (hb.cell (p := ⟨KB, 2, none⟩) (show KB < _ by omega)).trans hS.2.2⟩
    clear hb
    refine hK.out _ _ hS (fun _ => ?_)
    clear hK K
    show wpAnyH _ _ _ _ _ _ _ (Act.put a12 (some 107) (.string ds)) _
    obtain ⟨a13, ha, F, e107, hk'⟩ := F.put 107 (.string ds) (by decide)
    replace e6 := (hk' 6 (by decide)).trans e6
    replace e103 := (hk' 103 (by decide)).trans e103
    replace e110 := (hk' 110 (by decide)).trans e110
    replace e112 := (hk' 112 (by decide)).trans e112
    replace e101 := (hk' 101 (by decide)).trans e101
    replace e105 := (hk' 105 (by decide)).trans e105
    rw [ha]
    clear hk' ha
    clear e106
    refine wpAnyH_take (i := 13) (v := .agg #[.int .i64 acc, .string nm, .string ds, .bool (val != 0), .int .i64 num]) rfl (by kernel_rfl) (by kernel_rfl) (by kernel_rfl) (fun _ _ _ h => hQ _ _ _ _ _ h) (Or.inl ⟨by rfl, fun w' hw' => ?_⟩) hS ?_
    · obtain ⟨z0, z1, z2⟩ := hw'
      generalize a13.eval = ρ at e103 e105 e107 e110 e112 ⊢
      go_simp
    show wpAnyH _ _ _ _ _ _ _ (Act.put a13 (some 113) (.agg #[.int .i64 acc, .string nm, .string ds, .bool (val != 0), .int .i64 num])) _
    obtain ⟨a14, ha, F, e113, hk'⟩ := F.put 113 (.agg #[.int .i64 acc, .string nm, .string ds, .bool (val != 0), .int .i64 num]) (by decide)
    replace e6 := (hk' 6 (by decide)).trans e6
    replace e101 := (hk' 101 (by decide)).trans e101
    rw [ha]
    clear hk' ha
    clear e103 e110 e112 e105 e107
    refine wpAnyH_ready (rs := [14]) (by kernel_rfl) (by simp) ?_
    refine AllReadyH.cons rfl (fun K hK => ?_) AllReadyH.nil
    refine op_value (v := .slice (some ⟨w12.heap.size, 0, none⟩) 1 1) (w' := w12.alloc (.cells #[.int .i64 acc, .string nm, .string ds, .bool (val != 0), .int .i64 num] 52)) rfl (by generalize a14.eval = ρ at e113 ⊢; go_simp) ?_
    have hb := (Below.refl w12.heap.size w12).alloc (Nat.le_refl _) (.cells #[.int .i64 acc, .string nm, .string ds, .bool (val != 0), .int .i64 num] 52)
    have hzb : (w12.alloc (.cells #[.int .i64 acc, .string nm, .string ds, .bool (val != 0), .int .i64 num] 52)).heap.size = w12.heap.size + 1 := by simp
    have B13 := Lib.hid (B12.out.below hb B12.out.lt)
    have HB13 := Lib.hid (HB12.out.trans (hb.mono (by omega)))
    have hS : (SF FB KB acc val num) (w12.alloc (.cells #[.int .i64 acc, .string nm, .string ds, .bool (val != 0), .int .i64 num] 52)) := ⟨(hb.cell (p := ⟨FB, 0, none⟩) (show FB < _ by omega)).trans hS.1, (hb.cell (p := ⟨FB, 3, none⟩) (show FB < _ by omega)).trans hS.2.1, (hb.cell (p := ⟨KB, 2, none⟩) (show KB < _ by omega)).trans hS.2.2⟩
    clear hb
    refine hK.out _ _ hS (fun _ => ?_)
    clear hK K
    show wpAnyH _ _ _ _ _ _ _ (Act.put a14 (some 114) (.slice (some ⟨w12.heap.size, 0, none⟩) 1 1)) _
    obtain ⟨a15, ha, F, e114, hk'⟩ := F.put 114 (.slice (some ⟨w12.heap.size, 0, none⟩) 1 1) (by decide)
    replace e6 := (hk' 6 (by decide)).trans e6
    replace e101 := (hk' 101 (by decide)).trans e101
    rw [ha]
    clear hk' ha
    clear e113
    refine wpAnyH_ready (rs := [15]) (by kernel_rfl) (by simp) ?_
    refine AllReadyH.cons rfl (fun K hK => ?_) AllReadyH.nil
    have HO13 := Lib.hid (own_heap HO.out fun q hq => HB13.out.block q (HO.out.lt q hq).2)
    refine step_lies rfl (.tmp 101) (.tmp 114) 37 rfl Tryz.underlying37 info_member rfl (by omega) M e101 HO13.out e114 rfl (cells_new w12 [.int .i64 acc, .string nm, .string ds, .bool (val != 0), .int .i64 num] _) (by simp [Value.oneCell']) (by omega) (by simp only [maxLen]; omega) (by omega) (by omega) ?_
    intro g3 c3 w14 ho3 hg3 hb3 hgg3
    have hz14 := hb3.size
    rw [hzb] at hz14
    have hS : (SF FB KB acc val num) w14 := ⟨(World.cell?_of_block (w := w12.alloc (.cells #[.int .i64 acc, .string nm, .string ds, .bool (val != 0), .int .i64 num] 52)) (hg3.block FB (by omega) (fun e => by have := hown _ e.symm; omega))).trans hS.1, (World.cell?_of_block (w := w12.alloc (.cells #[.int .i64 acc, .string nm, .string ds, .bool (val != 0), .int .i64 num] 52)) (hg3.block FB (by omega) (fun e => by have := hown _ e.symm; omega))).trans hS.2.1, (World.cell?_of_block (w := w12.alloc (.cells #[.int .i64 acc, .string nm, .string ds, .bool (val != 0), .int .i64 num] 52)) (hg3.block KB (by omega) (fun e => by have := hown _ e.symm; omega))).trans hS.2.2⟩
    have B14 := Lib.hid (B13.out.below hb3 (by omega))
    have HBT14 := Lib.hid ((But.of_below (S := [G + 1]) HB13.out).mono hMw (fun _ _ h => h) |>.trans (But.of_below (S := [G + 1]) hb3))
    have hge := (ho3.lt g3 rfl).1
    have HO14 := Lib.hid ho3
    clear hg3 hb3 hgg3 ho3
    refine hK.out _ _ hS (fun _ => ?_)
    clear hK K
    show wpAnyH _ _ _ _ _ _ _ (Act.put a15 (some 115) (.slice (some ⟨g3, 0, none⟩) (k + 1) c3)) _
    obtain ⟨a16, ha, F, e115, hk'⟩ := F.put 115 (.slice (some ⟨g3, 0, none⟩) (k + 1) c3) (by decide)
    replace e6 := (hk' 6 (by decide)).trans e6
    rw [ha]
    clear hk' ha
    clear e101 e114
    refine wpAnyH_take (i := 16) (v := .pointer (some ⟨G + 1, 4, none⟩)) rfl (by kernel_rfl) (by kernel_rfl) (by kernel_rfl) (fun _ _ _ h => hQ _ _ _ _ _ h) (Or.inl ⟨by rfl, fun w' hw' => ?_⟩) hS ?_
    · obtain ⟨z0, z1, z2⟩ := hw'
      generalize a16.eval = ρ at e6 ⊢
      go_simp
    show wpAnyH _ _ _ _ _ _ _ (Act.put a16 (some 116) (.pointer (some ⟨G + 1, 4, none⟩))) _
    obtain ⟨a17, ha, F, e116, hk'⟩ := F.put 116 (.pointer (some ⟨G + 1, 4, none⟩)) (by decide)
    replace e115 := (hk' 115 (by decide)).trans e115
    rw [ha]
    clear hk' ha
    clear e6
    refine wpAnyH_ready (rs := [17]) (by kernel_rfl) (by simp) ?_
    refine AllReadyH.cons rfl (fun K hK => ?_) AllReadyH.nil
    have cl := B14.out.cell 4 hpv
    have fl := B14.out.frozen 4
    refine op_skip rfl rfl (w' := w14.setCell ⟨G + 1, 4, none⟩ (.slice (some ⟨g3, 0, none⟩) (k + 1) c3)) (by generalize a17.eval = ρ at e116 e115 ⊢; go_simp) ?_
    have hS : (SF FB KB acc val num) (w14.setCell ⟨G + 1, 4, none⟩ (.slice (some ⟨g3, 0, none⟩) (k + 1) c3)) := ⟨(World.cell?_setCell_other _ _ _ _ (by intro e; injection e with e _; omega)).trans hS.1, (World.cell?_setCell_other _ _ _ _ (by intro e; injection e with e _; omega)).trans hS.2.1, (World.cell?_setCell_other _ _ _ _ (by intro e; injection e with e _; omega)).trans hS.2.2⟩
    refine hK.out _ _ hS (fun _ => ?_)
    clear hK K cl fl
    refine wpAnyH_done (by kernel_rfl) ?_ _
    refine hfin _ g3 c3 _ F.z F.d F.k (B14.out.set 4 _) (HBT14.out.set ⟨G + 1, 4, none⟩ (.inl (by simp)) _) (own_set HO14.out (p := ⟨G + 1, 4, none⟩) (by simp; omega) _) (by simp; omega)
  · refine op_clone nm hnl rfl (by have ef : a10.eval (.func 99) = .func (.func 99) #[] #[] := rfl; generalize a10.eval = ρ at e104 ef ⊢; go_simp) ?_
    rintro w11 hb
    have hz11 := hb.size
    have B11 := Lib.hid (B10.out.below hb B10.out.lt)
    have HB11 := Lib.hid (HB10.out.trans (hb.mono (by omega)))
    have hS : (SF FB KB acc val num) w11 := ⟨(hb.cell (p := ⟨FB, 0, none⟩) (show FB < _ by omega)).trans hS.1, (hb.cell (p := ⟨FB, 3, none⟩) (show FB < _ by omega)).trans hS.2.1, (hb.cell (p := ⟨KB, 2, none⟩) (show KB < _ by omega)).trans hS.2.2⟩
    clear hb
    refine hK.out _ _ hS (fun _ => ?_)
    clear hK K
    show wpAnyH _ _ _ _ _ _ _ (Act.put a10 (some 105) (.string nm)) _
    obtain ⟨a11, ha, F, e105, hk'⟩ := F.put 105 (.string nm) (by decide)
    replace e6 := (hk' 6 (by decide)).trans e6
    replace e100 := (hk' 100 (by decide)).trans e100
    replace e103 := (hk' 103 (by decide)).trans e103
    replace e106 := (hk' 106 (by decide)).trans e106
    replace e110 := (hk' 110 (by decide)).trans e110
    replace e112 := (hk' 112 (by decide)).trans e112
    rw [ha]
    clear hk' ha
    clear e104
    refine wpAnyH_ready (rs := [1, 7]) (by kernel_rfl) (by simp) ?_
    refine AllReadyH.cons rfl (fun K hK => ?_) (AllReadyH.cons rfl (fun K hK => ?_) AllReadyH.nil)
    · have cl := B11.out.cell 4 hpv
      refine op_value (v := pv) (w' := w11) rfl (by generalize a11.eval = ρ at e100 ⊢; go_simp) (hK.out _ _ hS (fun _ => ?_))
      clear hK K cl
      show wpAnyH _ _ _ _ _ _ _ (Act.put a11 (some 101) (pv)) _
      obtain ⟨a12, ha, F, e101, hk'⟩ := F.put 101 (pv) (by decide)
      replace e6 := (hk' 6 (by decide)).trans e6
      replace e103 := (hk' 103 (by decide)).trans e103
      replace e106 := (hk' 106 (by decide)).trans e106
      replace e110 := (hk' 110 (by decide)).trans e110
      replace e112 := (hk' 112 (by decide)).trans e112
      replace e105 := (hk' 105 (by decide)).trans e105
      rw [ha]
      clear hk' ha
      clear e100
      refine wpAnyH_ready (rs := [7]) (by kernel_rfl) (by simp) ?_
      refine AllReadyH.cons rfl (fun K hK => ?_) AllReadyH.nil
      refine op_clone ds hdl rfl (by have ef : a12.eval (.func 99) = .func (.func 99) #[] #[] := rfl; generalize a12.eval = ρ at e106 ef ⊢; go_simp) ?_
      rintro w12 hb
      have hz12 := hb.size
      have B12 := Lib.hid (B11.out.below hb B11.out.lt)
      have HB12 := Lib.hid (HB11.out.trans (hb.mono (by omega)))
      have hS : (SF FB KB acc val num) w12 := ⟨(hb.cell (p := ⟨FB, 0, none⟩) (show FB < _ by omega)).trans hS.1, (hb.cell (p := ⟨FB, 3, none⟩) (show FB < _ by omega)).trans hS.2.1, (hb.cell (p := ⟨KB, 2, none⟩) (show KB < _ by omega)).trans hS.2.2⟩
      clear hb
      refine hK.out _ _ hS (fun _ => ?_)
      clear hK K
      show wpAnyH _ _ _ _ _ _ _ (Act.put a12 (some 107) (.string ds)) _
      obtain ⟨a13, ha, F, e107, hk'⟩ := F.put 107 (.string ds) (by decide)
      replace e6 := (hk' 6 (by decide)).trans e6
      replace e103 := (hk' 103 (by decide)).trans e103
      replace e110 := (hk' 110 (by decide)).trans e110
      replace e112 := (hk' 112 (by decide)).trans e112
      replace e105 := (hk' 105 (by decide)).trans e105
      replace e101 := (hk' 101 (by decide)).trans e101
      rw [ha]
      clear hk' ha
      clear e106
      refine wpAnyH_take (i := 13) (v := .agg #[.int .i64 acc, .string nm, .string ds, .bool (val != 0), .int .i64 num]) rfl (by kernel_rfl) (by kernel_rfl) (by kernel_rfl) (fun _ _ _ h => hQ _ _ _ _ _ h) (Or.inl ⟨by rfl, fun w' hw' => ?_⟩) hS ?_
      · obtain ⟨z0, z1, z2⟩ := hw'
        generalize a13.eval = ρ at e103 e105 e107 e110 e112 ⊢
        go_simp
      show wpAnyH _ _ _ _ _ _ _ (Act.put a13 (some 113) (.agg #[.int .i64 acc, .string nm, .string ds, .bool (val != 0), .int .i64 num])) _
      obtain ⟨a14, ha, F, e113, hk'⟩ := F.put 113 (.agg #[.int .i64 acc, .string nm, .string ds, .bool (val != 0), .int .i64 num]) (by decide)
      replace e6 := (hk' 6 (by decide)).trans e6
      replace e101 := (hk' 101 (by decide)).trans e101
      rw [ha]
      clear hk' ha
      clear e103 e110 e112 e105 e107
      refine wpAnyH_ready (rs := [14]) (by kernel_rfl) (by simp) ?_
      refine AllReadyH.cons rfl (fun K hK => ?_) AllReadyH.nil
      refine op_value (v := .slice (some ⟨w12.heap.size, 0, none⟩) 1 1) (w' := w12.alloc (.cells #[.int .i64 acc, .string nm, .string ds, .bool (val != 0), .int .i64 num] 52)) rfl (by generalize a14.eval = ρ at e113 ⊢; go_simp) ?_
      have hb := (Below.refl w12.heap.size w12).alloc (Nat.le_refl _) (.cells #[.int .i64 acc, .string nm, .string ds, .bool (val != 0), .int .i64 num] 52)
      have hzb : (w12.alloc (.cells #[.int .i64 acc, .string nm, .string ds, .bool (val != 0), .int .i64 num] 52)).heap.size = w12.heap.size + 1 := by simp
      have B13 := Lib.hid (B12.out.below hb B12.out.lt)
      have HB13 := Lib.hid (HB12.out.trans (hb.mono (by omega)))
      have hS : (SF FB KB acc val num) (w12.alloc (.cells #[.int .i64 acc, .string nm, .string ds, .bool (val != 0), .int .i64 num] 52)) := ⟨(hb.cell (p := ⟨FB, 0, none⟩) (show FB < _ by omega)).trans hS.1, (hb.cell (p := ⟨FB, 3, none⟩) (show FB < _ by omega)).trans hS.2.1, (hb.cell (p := ⟨KB, 2, none⟩) (show KB < _ by omega)).trans hS.2.2⟩
      clear hb
      refine hK.out _ _ hS (fun _ => ?_)
      clear hK K
      show wpAnyH _ _ _ _ _ _ _ (Act.put a14 (some 114) (.slice (some ⟨w12.heap.size, 0, none⟩) 1 1)) _
      obtain ⟨a15, ha, F, e114, hk'⟩ := F.put 114 (.slice (some ⟨w12.heap.size, 0, none⟩) 1 1) (by decide)
      replace e6 := (hk' 6 (by decide)).trans e6
      replace e101 := (hk' 101 (by decide)).trans e101
      rw [ha]
      clear hk' ha
      clear e113
      refine wpAnyH_ready (rs := [15]) (by kernel_rfl) (by simp) ?_
      refine AllReadyH.cons rfl (fun K hK => ?_) AllReadyH.nil
      have HO13 := Lib.hid (own_heap HO.out fun q hq => HB13.out.block q (HO.out.lt q hq).2)
      refine step_lies rfl (.tmp 101) (.tmp 114) 37 rfl Tryz.underlying37 info_member rfl (by omega) M e101 HO13.out e114 rfl (cells_new w12 [.int .i64 acc, .string nm, .string ds, .bool (val != 0), .int .i64 num] _) (by simp [Value.oneCell']) (by omega) (by simp only [maxLen]; omega) (by omega) (by omega) ?_
      intro g3 c3 w14 ho3 hg3 hb3 hgg3
      have hz14 := hb3.size
      rw [hzb] at hz14
      have hS : (SF FB KB acc val num) w14 := ⟨(World.cell?_of_block (w := w12.alloc (.cells #[.int .i64 acc, .string nm, .string ds, .bool (val != 0), .int .i64 num] 52)) (hg3.block FB (by omega) (fun e => by have := hown _ e.symm; omega))).trans hS.1, (World.cell?_of_block (w := w12.alloc (.cells #[.int .i64 acc, .string nm, .string ds, .bool (val != 0), .int .i64 num] 52)) (hg3.block FB (by omega) (fun e => by have := hown _ e.symm; omega))).trans hS.2.1, (World.cell?_of_block (w := w12.alloc (.cells #[.int .i64 acc, .string nm, .string ds, .bool (val != 0), .int .i64 num] 52)) (hg3.block KB (by omega) (fun e => by have := hown _ e.symm; omega))).trans hS.2.2⟩
      have B14 := Lib.hid (B13.out.below hb3 (by omega))
      have HBT14 := Lib.hid ((But.of_below (S := [G + 1]) HB13.out).mono hMw (fun _ _ h => h) |>.trans (But.of_below (S := [G + 1]) hb3))
      have hge := (ho3.lt g3 rfl).1
      have HO14 := Lib.hid ho3
      clear hg3 hb3 hgg3 ho3
      refine hK.out _ _ hS (fun _ => ?_)
      clear hK K
      show wpAnyH _ _ _ _ _ _ _ (Act.put a15 (some 115) (.slice (some ⟨g3, 0, none⟩) (k + 1) c3)) _
      obtain ⟨a16, ha, F, e115, hk'⟩ := F.put 115 (.slice (some ⟨g3, 0, none⟩) (k + 1) c3) (by decide)
      replace e6 := (hk' 6 (by decide)).trans e6
      rw [ha]
      clear hk' ha
      clear e101 e114
      refine wpAnyH_take (i := 16) (v := .pointer (some ⟨G + 1, 4, none⟩)) rfl (by kernel_rfl) (by kernel_rfl) (by kernel_rfl) (fun _ _ _ h => hQ _ _ _ _ _ h) (Or.inl ⟨by rfl, fun w' hw' => ?_⟩) hS ?_
      · obtain ⟨z0, z1, z2⟩ := hw'
        generalize a16.eval = ρ at e6 ⊢
        go_simp
      show wpAnyH _ _ _ _ _ _ _ (Act.put a16 (some 116) (.pointer (some ⟨G + 1, 4, none⟩))) _
      obtain ⟨a17, ha, F, e116, hk'⟩ := F.put 116 (.pointer (some ⟨G + 1, 4, none⟩)) (by decide)
      replace e115 := (hk' 115 (by decide)).trans e115
      rw [ha]
      clear hk' ha
      clear e6
      refine wpAnyH_ready (rs := [17]) (by kernel_rfl) (by simp) ?_
      refine AllReadyH.cons rfl (fun K hK => ?_) AllReadyH.nil
      have cl := B14.out.cell 4 hpv
      have fl := B14.out.frozen 4
      refine op_skip rfl rfl (w' := w14.setCell ⟨G + 1, 4, none⟩ (.slice (some ⟨g3, 0, none⟩) (k + 1) c3)) (by generalize a17.eval = ρ at e116 e115 ⊢; go_simp) ?_
      have hS : (SF FB KB acc val num) (w14.setCell ⟨G + 1, 4, none⟩ (.slice (some ⟨g3, 0, none⟩) (k + 1) c3)) := ⟨(World.cell?_setCell_other _ _ _ _ (by intro e; injection e with e _; omega)).trans hS.1, (World.cell?_setCell_other _ _ _ _ (by intro e; injection e with e _; omega)).trans hS.2.1, (World.cell?_setCell_other _ _ _ _ (by intro e; injection e with e _; omega)).trans hS.2.2⟩
      refine hK.out _ _ hS (fun _ => ?_)
      clear hK K cl fl
      refine wpAnyH_done (by kernel_rfl) ?_ _
      refine hfin _ g3 c3 _ F.z F.d F.k (B14.out.set 4 _) (HBT14.out.set ⟨G + 1, 4, none⟩ (.inl (by simp)) _) (own_set HO14.out (p := ⟨G + 1, 4, none⟩) (by simp; omega) _) (by simp; omega)
    · refine op_clone ds hdl rfl (by have ef : a11.eval (.func 99) = .func (.func 99) #[] #[] := rfl; generalize a11.eval = ρ at e106 ef ⊢; go_simp) ?_
      rintro w12 hb
      have hz12 := hb.size
      have B12 := Lib.hid (B11.out.below hb B11.out.lt)
      have HB12 := Lib.hid (HB11.out.trans (hb.mono (by omega)))
      have hS : (SF FB KB acc val num) w12 := ⟨(hb.cell (p := ⟨FB, 0, none⟩) (show FB < _ by omega)).trans hS.1, (hb.cell (p := ⟨FB, 3, none⟩) (show FB < _ by omega)).trans hS.2.1, (hb.cell (p := ⟨KB, 2, none⟩) (show KB < _ by omega)).trans hS.2.2⟩
      clear hb
      refine hK.out _ _ hS (fun _ => ?_)
      clear hK K
      show wpAnyH _ _ _ _ _ _ _ (Act.put a11 (some 107) (.string ds)) _
      obtain ⟨a12, ha, F, e107, hk'⟩ := F.put 107 (.string ds) (by decide)
      replace e6 := (hk' 6 (by decide)).trans e6
      replace e100 := (hk' 100 (by decide)).trans e100
      replace e103 := (hk' 103 (by decide)).trans e103
      replace e110 := (hk' 110 (by decide)).trans e110
      replace e112 := (hk' 112 (by decide)).trans e112
      replace e105 := (hk' 105 (by decide)).trans e105
      rw [ha]
      clear hk' ha
      clear e106
      refine wpAnyH_take (i := 13) (v := .agg #[.int .i64 acc, .string nm, .string ds, .bool (val != 0), .int .i64 num]) rfl (by kernel_rfl) (by kernel_rfl) (by kernel_rfl) (fun _ _ _ h => hQ _ _ _ _ _ h) (Or.inl ⟨by rfl, fun w' hw' => ?_⟩) hS ?_
      · obtain ⟨z0, z1, z2⟩ := hw'
        generalize a12.eval = ρ at e103 e105 e107 e110 e112 ⊢
        go_simp
      show wpAnyH _ _ _ _ _ _ _ (Act.put a12 (some 113) (.agg #[.int .i64 acc, .string nm, .string ds, .bool (val != 0), .int .i64 num])) _
      obtain ⟨a13, ha, F, e113, hk'⟩ := F.put 113 (.agg #[.int .i64 acc, .string nm, .string ds, .bool (val != 0), .int .i64 num]) (by decide)
      replace e6 := (hk' 6 (by decide)).trans e6
      replace e100 := (hk' 100 (by decide)).trans e100
      rw [ha]
      clear hk' ha
      clear e103 e110 e112 e105 e107
      refine wpAnyH_ready (rs := [1, 14]) (by kernel_rfl) (by simp) ?_
      refine AllReadyH.cons rfl (fun K hK => ?_) (AllReadyH.cons rfl (fun K hK => ?_) AllReadyH.nil)
      · have cl := B12.out.cell 4 hpv
        refine op_value (v := pv) (w' := w12) rfl (by generalize a13.eval = ρ at e100 ⊢; go_simp) (hK.out _ _ hS (fun _ => ?_))
        clear hK K cl
        show wpAnyH _ _ _ _ _ _ _ (Act.put a13 (some 101) (pv)) _
        obtain ⟨a14, ha, F, e101, hk'⟩ := F.put 101 (pv) (by decide)
        replace e6 := (hk' 6 (by decide)).trans e6
        replace e113 := (hk' 113 (by decide)).trans e113
        rw [ha]
        clear hk' ha
        clear e100
        refine wpAnyH_ready (rs := [14]) (by kernel_rfl) (by simp) ?_
        refine AllReadyH.cons rfl (fun K hK => ?_) AllReadyH.nil
        refine op_value (v := .slice (some ⟨w12.heap.size, 0, none⟩) 1 1) (w' := w12.alloc (.cells #[.int .i64 acc, .string nm, .string ds, .bool (val != 0), .int .i64 num] 52)) rfl (by generalize a14.eval = ρ at e113 ⊢; go_simp) ?_
        have hb := (Below.refl w12.heap.size w12).alloc (Nat.le_refl _) (.cells #[.int .i64 acc, .string nm, .string ds, .bool (val != 0), .int .i64 num] 52)
        have hzb : (w12.alloc (.cells #[.int .i64 acc, .string nm, .string ds, .bool (val != 0), .int .i64 num] 52)).heap.size = w12.heap.size + 1 := by simp
        have B13 := Lib.hid (B12.out.below hb B12.out.lt)
        have HB13 := Lib.hid (HB12.out.trans (hb.mono (by omega)))
        have hS : (SF FB KB acc val num) (w12.alloc (.cells #[.int .i64 acc, .string nm, .string ds, .bool (val != 0), .int .i64 num] 52)) := ⟨(hb.cell (p := ⟨FB, 0, none⟩) (show FB < _ by omega)).trans hS.1, (hb.cell (p := ⟨FB, 3, none⟩) (show FB < _ by omega)).trans hS.2.1, (hb.cell (p := ⟨KB, 2, none⟩) (show KB < _ by omega)).trans hS.2.2⟩
        clear hb
        refine hK.out _ _ hS (fun _ => ?_)
        clear hK K
        show wpAnyH _ _ _ _ _ _ _ (Act.put a14 (some 114) (.slice (some ⟨w12.heap.size, 0, none⟩) 1 1)) _
        obtain ⟨a15, ha, F, e114, hk'⟩ := F.put 114 (.slice (some ⟨w12.heap.size, 0, none⟩) 1 1) (by decide)
        replace e6 := (hk' 6 (by decide)).trans e6
        replace e101 := (hk' 101 (by decide)).trans e101
        rw [ha]
        clear hk' ha
        clear e113
        refine wpAnyH_ready (rs := [15]) (by kernel_rfl) (by simp) ?_
        refine AllReadyH.cons rfl (fun K hK => ?_) AllReadyH.nil
        have HO13 := Lib.hid (own_heap HO.out fun q hq => HB13.out.block q (HO.out.lt q hq).2)
        refine step_lies rfl (.tmp 101) (.tmp 114) 37 rfl Tryz.underlying37 info_member rfl (by omega) M e101 HO13.out e114 rfl (cells_new w12 [.int .i64 acc, .string nm, .string ds, .bool (val != 0), .int .i64 num] _) (by simp [Value.oneCell']) (by omega) (by simp only [maxLen]; omega) (by omega) (by omega) ?_
        intro g3 c3 w14 ho3 hg3 hb3 hgg3
        have hz14 := hb3.size
        rw [hzb] at hz14
        have hS : (SF FB KB acc val num) w14 := ⟨(World.cell?_of_block (w := w12.alloc (.cells #[.int .i64 acc, .string nm, .string ds, .bool (val != 0), .int .i64 num] 52)) (hg3.block FB (by omega) (fun e => by have := hown _ e.symm; omega))).trans hS.1, (World.cell?_of_block (w := w12.alloc (.cells #[.int .i64 acc, .string nm, .string ds, .bool (val != 0), .int .i64 num] 52)) (hg3.block FB (by omega) (fun e => by have := hown _ e.symm; omega))).trans hS.2.1, (World.cell?_of_block (w := w12.alloc (.cells #[.int .i64 acc, .string nm, .string ds, .bool (val != 0), .int .i64 num] 52)) (hg3.block KB (by omega) (fun e => by have := hown _ e.symm; omega))).trans hS.2.2⟩
        have B14 := Lib.hid (B13.out.below hb3 (by omega))
        have HBT14 := Lib.hid ((But.of_below (S := [G + 1]) HB13.out).mono hMw (fun _ _ h => h) |>.trans (But.of_below (S := [G + 1]) hb3))
        have hge := (ho3.lt g3 rfl).1
        have HO14 := Lib.hid ho3
        clear hg3 hb3 hgg3 ho3
        refine hK.out _ _ hS (fun _ => ?_)
        clear hK K
        show wpAnyH _ _ _ _ _ _ _ (Act.put a15 (some 115) (.slice (some ⟨g3, 0, none⟩) (k + 1) c3)) _
        obtain ⟨a16, ha, F, e115, hk'⟩ := F.put 115 (.slice (some ⟨g3, 0, none⟩) (k + 1) c3) (by decide)
        replace e6 := (hk' 6 (by decide)).trans e6
        rw [ha]
        clear hk' ha
        clear e101 e114
        refine wpAnyH_take (i := 16) (v := .pointer (some ⟨G + 1, 4, none⟩)) rfl (by kernel_rfl) (by kernel_rfl) (by kernel_rfl) (fun _ _ _ h => hQ _ _ _ _ _ h) (Or.inl ⟨by rfl, fun w' hw' => ?_⟩) hS ?_
        · obtain ⟨z0, z1, z2⟩ := hw'
          generalize a16.eval = ρ at e6 ⊢
          go_simp
        show wpAnyH _ _ _ _ _ _ _ (Act.put a16 (some 116) (.pointer (some ⟨G + 1, 4, none⟩))) _
        obtain ⟨a17, ha, F, e116, hk'⟩ := F.put 116 (.pointer (some ⟨G + 1, 4, none⟩)) (by decide)
        replace e115 := (hk' 115 (by decide)).trans e115
        rw [ha]
        clear hk' ha
        clear e6
        refine wpAnyH_ready (rs := [17]) (by kernel_rfl) (by simp) ?_
        refine AllReadyH.cons rfl (fun K hK => ?_) AllReadyH.nil
        have cl := B14.out.cell 4 hpv
        have fl := B14.out.frozen 4
        refine op_skip rfl rfl (w' := w14.setCell ⟨G + 1, 4, none⟩ (.slice (some ⟨g3, 0, none⟩) (k + 1) c3)) (by generalize a17.eval = ρ at e116 e115 ⊢; go_simp) ?_
        have hS : (SF FB KB acc val num) (w14.setCell ⟨G + 1, 4, none⟩ (.slice (some ⟨g3, 0, none⟩) (k + 1) c3)) := ⟨(World.cell?_setCell_other _ _ _ _ (by intro e; injection e with e _; omega)).trans hS.1, (World.cell?_setCell_other _ _ _ _ (by intro e; injection e with e _; omega)).trans hS.2.1, (World.cell?_setCell_other _ _ _ _ (by intro e; injection e with e _; omega)).trans hS.2.2⟩
        refine hK.out _ _ hS (fun _ => ?_)
        clear hK K cl fl
        refine wpAnyH_done (by kernel_rfl) ?_ _
        refine hfin _ g3 c3 _ F.z F.d F.k (B14.out.set 4 _) (HBT14.out.set ⟨G + 1, 4, none⟩ (.inl (by simp)) _) (own_set HO14.out (p := ⟨G + 1, 4, none⟩) (by simp; omega) _) (by simp; omega)
      · refine op_value (v := .slice (some ⟨w12.heap.size, 0, none⟩) 1 1) (w' := w12.alloc (.cells #[.int .i64 acc, .string nm, .string ds, .bool (val != 0), .int .i64 num] 52)) rfl (by generalize a13.eval = ρ at e113 ⊢; go_simp) ?_
        have hb := (Below.refl w12.heap.size w12).alloc (Nat.le_refl _) (.cells #[.int .i64 acc, .string nm, .string ds, .bool (val != 0), .int .i64 num] 52)
        have hzb : (w12.alloc (.cells #[.int .i64 acc, .string nm, .string ds, .bool (val != 0), .int .i64 num] 52)).heap.size = w12.heap.size + 1 := by simp
        have B13 := Lib.hid (B12.out.below hb B12.out.lt)
        have HB13 := Lib.hid (HB12.out.trans (hb.mono (by omega)))
        have hS : (SF FB KB acc val num) (w12.alloc (.cells #[.int .i64 acc, .string nm, .string ds, .bool (val != 0), .int .i64 num] 52)) := ⟨(hb.cell (p := ⟨FB, 0, none⟩) (show FB < _ by omega)).trans hS.1, (hb.cell (p := ⟨FB, 3, none⟩) (show FB < _ by omega)).trans hS.2.1, (hb.cell (p := ⟨KB, 2, none⟩) (show KB < _ by omega)).trans hS.2.2⟩
        clear hb
        refine hK.out _ _ hS (fun _ => ?_)
        clear hK K
        show wpAnyH _ _ _ _ _ _ _ (Act.put a13 (some 114) (.slice (some ⟨w12.heap.size, 0, none⟩) 1 1)) _
        obtain ⟨a14, ha, F, e114, hk'⟩ := F.put 114 (.slice (some ⟨w12.heap.size, 0, none⟩) 1 1) (by decide)
        replace e6 := (hk' 6 (by decide)).trans e6
        replace e100 := (hk' 100 (by decide)).trans e100
        rw [ha]
        clear hk' ha
        clear e113
        refine wpAnyH_ready (rs := [1]) (by kernel_rfl) (by simp) ?_
        refine AllReadyH.cons rfl (fun K hK => ?_) AllReadyH.nil
        have cl := B13.out.cell 4 hpv
        refine op_value (v := pv) (w' := (w12.alloc (.cells #[.int .i64 acc, .string nm, .string ds, .bool (val != 0), .int .i64 num] 52))) rfl (by generalize a14.eval = ρ at e100 ⊢; go_simp) (hK.out _ _ hS (fun _ => ?_))
        clear hK K cl
        show wpAnyH _ _ _ _ _ _ _ (Act.put a14 (some 101) (pv)) _
        obtain ⟨a15, ha, F, e101, hk'⟩ := F.put 101 (pv) (by decide)
        replace e6 := (hk' 6 (by decide)).trans e6
        replace e114 := (hk' 114 (by decide)).trans e114
        rw [ha]
        clear hk' ha
        clear e100
        refine wpAnyH_ready (rs := [15]) (by kernel_rfl) (by simp) ?_
        refine AllReadyH.cons rfl (fun K hK => ?_) AllReadyH.nil
        have HO13 := Lib.hid (own_heap HO.out fun q hq => HB13.out.block q (HO.out.lt q hq).2)
        refine step_lies rfl (.tmp 101) (.tmp 114) 37 rfl Tryz.underlying37 info_member rfl (by omega) M e101 HO13.out e114 rfl (cells_new w12 [.int .i64 acc, .string nm, .string ds, .bool (val != 0), .int .i64 num] _) (by simp [Value.oneCell']) (by omega) (by simp only [maxLen]; omega) (by omega) (by omega) ?_
        intro g3 c3 w14 ho3 hg3 hb3 hgg3
        have hz14 := hb3.size
        rw [hzb] at hz14
        have hS : (SF FB KB acc val num) w14 := ⟨(World.cell?_of_block (w := w12.alloc (.cells #[.int .i64 acc, .string nm, .string ds, .bool (val != 0), .int .i64 num] 52)) (hg3.block FB (by omega) (fun e => by have := hown _ e.symm; omega))).trans hS.1, (World.cell?_of_block (w := w12.alloc (.cells #[.int .i64 acc, .string nm, .string ds, .bool (val != 0), .int .i64 num] 52)) (hg3.block FB (by omega) (fun e => by have := hown _ e.symm; omega))).trans hS.2.1, (World.cell?_of_block (w := w12.alloc (.cells #[.int .i64 acc, .string nm, .string ds, .bool (val != 0), .int .i64 num] 52)) (hg3.block KB (by omega) (fun e => by have := hown _ e.symm; omega))).trans hS.2.2⟩
        have B14 := Lib.hid (B13.out.below hb3 (by omega))
        have HBT14 := Lib.hid ((But.of_below (S := [G + 1]) HB13.out).mono hMw (fun _ _ h => h) |>.trans (But.of_below (S := [G + 1]) hb3))
        have hge := (ho3.lt g3 rfl).1
        have HO14 := Lib.hid ho3
        clear hg3 hb3 hgg3 ho3
        refine hK.out _ _ hS (fun _ => ?_)
        clear hK K
        show wpAnyH _ _ _ _ _ _ _ (Act.put a15 (some 115) (.slice (some ⟨g3, 0, none⟩) (k + 1) c3)) _
        obtain ⟨a16, ha, F, e115, hk'⟩ := F.put 115 (.slice (some ⟨g3, 0, none⟩) (k + 1) c3) (by decide)
        replace e6 := (hk' 6 (by decide)).trans e6
        rw [ha]
        clear hk' ha
        clear e114 e101
        refine wpAnyH_take (i := 16) (v := .pointer (some ⟨G + 1, 4, none⟩)) rfl (by kernel_rfl) (by kernel_rfl) (by kernel_rfl) (fun _ _ _ h => hQ _ _ _ _ _ h) (Or.inl ⟨by rfl, fun w' hw' => ?_⟩) hS ?_
        · obtain ⟨z0, z1, z2⟩ := hw'
          generalize a16.eval = ρ at e6 ⊢
          go_simp
        show wpAnyH _ _ _ _ _ _ _ (Act.put a16 (some 116) (.pointer (some ⟨G + 1, 4, none⟩))) _
        obtain ⟨a17, ha, F, e116, hk'⟩ := F.put 116 (.pointer (some ⟨G + 1, 4, none⟩)) (by decide)
        replace e115 := (hk' 115 (by decide)).trans e115
        rw [ha]
        clear hk' ha
        clear e6
        refine wpAnyH_ready (rs := [17]) (by kernel_rfl) (by simp) ?_
        refine AllReadyH.cons rfl (fun K hK => ?_) AllReadyH.nil
        have cl := B14.out.cell 4 hpv
        have fl := B14.out.frozen 4
        refine op_skip rfl rfl (w' := w14.setCell ⟨G + 1, 4, none⟩ (.slice (some ⟨g3, 0, none⟩) (k + 1) c3)) (by generalize a17.eval = ρ at e116 e115 ⊢; go_simp) ?_
        have hS : (SF FB KB acc val num) (w14.setCell ⟨G + 1, 4, none⟩ (.slice (some ⟨g3, 0, none⟩) (k + 1) c3)) := ⟨(World.cell?_setCell_other _ _ _ _ (by intro e; injection e with e _; omega)).trans hS.1, (World.cell?_setCell_other _ _ _ _ (by intro e; injection e with e _; omega)).trans hS.2.1, (World.cell?_setCell_other _ _ _ _ (by intro e; injection e with e _; omega)).trans hS.2.2⟩
        refine hK.out _ _ hS (fun _ => ?_)
        clear hK K cl fl
        refine wpAnyH_done (by kernel_rfl) ?_ _
        refine hfin _ g3 c3 _ F.z F.d F.k (B14.out.set 4 _) (HBT14.out.set ⟨G + 1, 4, none⟩ (.inl (by simp)) _) (own_set HO14.out (p := ⟨G + 1, 4, none⟩) (by simp; omega) _) (by simp; omega)
theorem region_mth (a0 : Act) (G FB M k : Nat) (pv : Value) (acc xn xd : Int) (has : Bool) (xs xl : Int) (cv tv : Value) (nm ds : ByteArray) (tc : List Value) (rows : List Value) (w9 : World) (Q : Exit → Act → World → Prop) (hz : a0.tmps.size = 155) (e6 : a0.eval (.tmp 6) = .pointer (some ⟨G + 1, 0, none⟩)) (e20 : a0.eval (.tmp 20) = .pointer (some ⟨FB, 0, none⟩)) (e21 : a0.eval (.tmp 21) = .string nm) (e23 : a0.eval (.tmp 23) = .string ds)
    (XB : Hid (Bx w9 (G + 1) tc 39)) (hpv : tc[5]? = some pv) (XF : Hid (Bx w9 FB [.int .i64 acc, .int .i64 xn, .int .i64 xd, .bool has, .int .i64 xs, .int .i64 xl, cv, tv] 91)) (HO : Hid (w9.ownsRow M 52 5 pv k rows)) (hk : k ≤ 64) (hGM : G + 1 < M) (hMF : M ≤ FB) (hMw : M ≤ w9.heap.size) (hown : ∀ g, pv.ownBlock = some g → g < FB) (hnl : nm.size ≤ 65536) (hdl : ds.size ≤ 65536)
    (hQ : ∀ c a d v w, Q (.panic c) (a.put (some d) v) w → Q (.panic c) a w)
    (hfin : ∀ (b : Act) (g c : Nat) (W' : World), b.tmps.size = 155 → b.defers = a0.defers → (∀ i : Nat, (i < 139 ∨ 152 < i) → b.eval (.tmp i) = a0.eval (.tmp i)) → Bx W' (G + 1) (tc.set 5 (.slice (some ⟨g, 0, none⟩) (k + 1) c)) 39 → But M [G + 1] w9 W' → W'.ownsRow M 52 5 (.slice (some ⟨g, 0, none⟩) (k + 1) c) (k + 1) (rows ++ [.int .i64 acc, .string nm, .string ds, .bool has, .int .i64 0]) → w9.heap.size ≤ W'.heap.size → Q .normal b W') :
    Code.wp Tryz.prog (Code.region 27 #[{ dst := some 139, op := Op.fieldAddr 39 (Operand.tmp 6) 5, type := 0, pos := "check.go:336", after := #[], guard := none }, { dst := some 140, op := Op.load 37 (Operand.tmp 139), type := 37, pos := "check.go:336", after := #[{ on := 0, ground := Ground.data }], guard := none }, { dst := some 141, op := Op.fieldAddr 91 (Operand.tmp 20) 0, type := 0, pos := "check.go:336", after := #[], guard := none }, { dst := some 142, op := Op.load 3 (Operand.tmp 141), type := 3, pos := "check.go:336", after := #[{ on := 2, ground := Ground.data }], guard := none }, { dst := some 143, op := Op.move (Operand.tmp 21), type := 9, pos := "check.go:336", after := #[], guard := none }, { dst := some 144, op := Op.call { callee := Callee.value (Operand.func 99), args := #[Operand.tmp 143], argTypes := #[9] }, type := 9, pos := "check.go:336", after := #[{ on := 4, ground := Ground.data }], guard := none }, { dst := some 145, op := Op.move (Operand.tmp 23), type := 9, pos := "check.go:336", after := #[], guard := none }, { dst := some 146, op := Op.call { callee := Callee.value (Operand.func 99), args := #[Operand.tmp 145], argTypes := #[9] }, type := 9, pos := "check.go:336", after := #[{ on := 6, ground := Ground.data }, { on := 5, ground := Ground.chain }], guard := none }, { dst := some 147, op := Op.fieldAddr 91 (Operand.tmp 20) 3, type := 0, pos := "check.go:336", after := #[], guard := none }, { dst := some 148, op := Op.load 4 (Operand.tmp 147), type := 4, pos := "check.go:336", after := #[{ on := 8, ground := Ground.data }], guard := none }, { dst := some 149, op := Op.build 52 #[(0, Operand.tmp 142), (1, Operand.tmp 144), (2, Operand.tmp 146), (3, Operand.tmp 148)], type := 52, pos := "check.go:336", after := #[{ on := 3, ground := Ground.data }, { on := 5, ground := Ground.data }, { on := 7, ground := Ground.data }, { on := 9, ground := Ground.data }], guard := none }, { dst := some 150, op := Op.buildSlice 37 1 #[(0, Operand.tmp 149)], type := 37, pos := "check.go:336", after := #[{ on := 10, ground := Ground.data }], guard := none }, { dst := some 151, op := Op.call { callee := Callee.builtin Builtin.append, args := #[Operand.tmp 140, Operand.tmp 150], argTypes := #[37, 37] }, type := 37, pos := "check.go:336", after := #[{ on := 1, ground := Ground.data }, { on := 11, ground := Ground.data }, { on := 7, ground := Ground.chain }], guard := none }, { dst := some 152, op := Op.fieldAddr 39 (Operand.tmp 6) 5, type := 0, pos := "check.go:336", after := #[{ on := 0, ground := Ground.phase }, { on := 1, ground := Ground.phase }, { on := 2, ground := Ground.phase }, { on := 3, ground := Ground.phase }, { on := 4, ground := Ground.phase }, { on := 5, ground := Ground.phase }, { on := 6, ground := Ground.phase }, { on := 7, ground := Ground.phase }, { on := 8, ground := Ground.phase }, { on := 9, ground := Ground.phase }, { on := 10, ground := Ground.phase }, { on := 11, ground := Ground.phase }, { on := 12, ground := Ground.phase }], guard := none }, { dst := none, op := Op.store 37 (Operand.tmp 152) (Operand.tmp 151), type := 0, pos := "check.go:336", after := #[{ on := 13, ground := Ground.data }, { on := 12, ground := Ground.data }, { on := 12, ground := Ground.chain }, { on := 0, ground := Ground.phase }, { on := 1, ground := Ground.phase }, { on := 2, ground := Ground.phase }, { on := 3, ground := Ground.phase }, { on := 4, ground := Ground.phase }, { on := 5, ground := Ground.phase }, { on := 6, ground := Ground.phase }, { on := 7, ground := Ground.phase }, { on := 8, ground := Ground.phase }, { on := 9, ground := Ground.phase }, { on := 10, ground := Ground.phase }, { on := 11, ground := Ground.phase }, { on := 12, ground := Ground.phase }], guard := none }] true) Q a0 w9 := by
  have S1 := XF.out.cell 0 rfl
  have S2 := XF.out.cell 3 rfl
  refine wp_region_held_drew (S := SM FB acc has) rfl ⟨S1, S2⟩ (fun hS => ?_)
  clear S1 S2
  have hdr := (Below.refl w9.heap.size w9).drew
  have B10 := Lib.hid (XB.out.below hdr XB.out.lt)
  have HB10 := Lib.hid (show Below w9.heap.size w9 w9.drew from hdr)
  have hz10 : w9.drew.heap.size = w9.heap.size := rfl
  have hFl := XF.out.lt

  clear hdr
  generalize w9.drew = w10 at *
  have F : FrK a0 a0 155 139 152 := ⟨hz, rfl, fun _ _ => rfl⟩
  refine wpAnyH_take (i := 0) (v := .pointer (some ⟨G + 1, 5, none⟩)) rfl (by kernel_rfl) (by kernel_rfl) (by kernel_rfl) (fun _ _ _ h => hQ _ _ _ _ _ h) (Or.inl ⟨by rfl, fun w' hw' => ?_⟩) hS ?_
  · obtain ⟨z0, z1⟩ := hw'
    generalize a0.eval = ρ at e6 ⊢
    go_simp
  show wpAnyH _ _ _ _ _ _ _ (Act.put a0 (some 139) (.pointer (some ⟨G + 1, 5, none⟩))) _
  obtain ⟨a1, ha, F, e139, hk'⟩ := F.put 139 (.pointer (some ⟨G + 1, 5, none⟩)) (by decide)
  replace e6 := (hk' 6 (by decide)).trans e6
  replace e20 := (hk' 20 (by decide)).trans e20
  replace e21 := (hk' 21 (by decide)).trans e21
  replace e23 := (hk' 23 (by decide)).trans e23
  rw [ha]
  clear hk' ha
  refine wpAnyH_take (i := 2) (v := .pointer (some ⟨FB, 0, none⟩)) rfl (by kernel_rfl) (by kernel_rfl) (by kernel_rfl) (fun _ _ _ h => hQ _ _ _ _ _ h) (Or.inl ⟨by rfl, fun w' hw' => ?_⟩) hS ?_
  · obtain ⟨z0, z1⟩ := hw'
    generalize a1.eval = ρ at e20 ⊢
    go_simp
  show wpAnyH _ _ _ _ _ _ _ (Act.put a1 (some 141) (.pointer (some ⟨FB, 0, none⟩))) _
  obtain ⟨a2, ha, F, e141, hk'⟩ := F.put 141 (.pointer (some ⟨FB, 0, none⟩)) (by decide)
  replace e6 := (hk' 6 (by decide)).trans e6
  replace e20 := (hk' 20 (by decide)).trans e20
  replace e21 := (hk' 21 (by decide)).trans e21
  replace e23 := (hk' 23 (by decide)).trans e23
  replace e139 := (hk' 139 (by decide)).trans e139
  rw [ha]
  clear hk' ha
  refine wpAnyH_take (i := 3) (v := .int .i64 acc) rfl (by kernel_rfl) (by kernel_rfl) (by kernel_rfl) (fun _ _ _ h => hQ _ _ _ _ _ h) (Or.inl ⟨by rfl, fun w' hw' => ?_⟩) hS ?_
  · obtain ⟨z0, z1⟩ := hw'
    generalize a2.eval = ρ at e141 ⊢
    go_simp
  show wpAnyH _ _ _ _ _ _ _ (Act.put a2 (some 142) (.int .i64 acc)) _
  obtain ⟨a3, ha, F, e142, hk'⟩ := F.put 142 (.int .i64 acc) (by decide)
  replace e6 := (hk' 6 (by decide)).trans e6
  replace e20 := (hk' 20 (by decide)).trans e20
  replace e21 := (hk' 21 (by decide)).trans e21
  replace e23 := (hk' 23 (by decide)).trans e23
  replace e139 := (hk' 139 (by decide)).trans e139
  rw [ha]
  clear hk' ha
  clear e141
  refine wpAnyH_take (i := 4) (v := .string nm) rfl (by kernel_rfl) (by kernel_rfl) (by kernel_rfl) (fun _ _ _ h => hQ _ _ _ _ _ h) (Or.inl ⟨by rfl, fun w' hw' => ?_⟩) hS ?_
  · obtain ⟨z0, z1⟩ := hw'
    generalize a3.eval = ρ at e21 ⊢
    go_simp
  show wpAnyH _ _ _ _ _ _ _ (Act.put a3 (some 143) (.string nm)) _
  obtain ⟨a4, ha, F, e143, hk'⟩ := F.put 143 (.string nm) (by decide)
  replace e6 := (hk' 6 (by decide)).trans e6
  replace e20 := (hk' 20 (by decide)).trans e20
  replace e23 := (hk' 23 (by decide)).trans e23
  replace e139 := (hk' 139 (by decide)).trans e139
  replace e142 := (hk' 142 (by decide)).trans e142
  rw [ha]
  clear hk' ha
  clear e21
  refine wpAnyH_take (i := 6) (v := .string ds) rfl (by kernel_rfl) (by kernel_rfl) (by kernel_rfl) (fun _ _ _ h => hQ _ _ _ _ _ h) (Or.inl ⟨by rfl, fun w' hw' => ?_⟩) hS ?_
  · obtain ⟨z0, z1⟩ := hw'
    generalize a4.eval = ρ at e23 ⊢
    go_simp
  show wpAnyH _ _ _ _ _ _ _ (Act.put a4 (some 145) (.string ds)) _
  obtain ⟨a5, ha, F, e145, hk'⟩ := F.put 145 (.string ds) (by decide)
  replace e6 := (hk' 6 (by decide)).trans e6
  replace e20 := (hk' 20 (by decide)).trans e20
  replace e139 := (hk' 139 (by decide)).trans e139
  replace e142 := (hk' 142 (by decide)).trans e142
  replace e143 := (hk' 143 (by decide)).trans e143
  rw [ha]
  clear hk' ha
  clear e23
  refine wpAnyH_take (i := 8) (v := .pointer (some ⟨FB, 3, none⟩)) rfl (by kernel_rfl) (by kernel_rfl) (by kernel_rfl) (fun _ _ _ h => hQ _ _ _ _ _ h) (Or.inl ⟨by rfl, fun w' hw' => ?_⟩) hS ?_
  · obtain ⟨z0, z1⟩ := hw'
    generalize a5.eval = ρ at e20 ⊢
    go_simp
  show wpAnyH _ _ _ _ _ _ _ (Act.put a5 (some 147) (.pointer (some ⟨FB, 3, none⟩))) _
  obtain ⟨a6, ha, F, e147, hk'⟩ := F.put 147 (.pointer (some ⟨FB, 3, none⟩)) (by decide)
  replace e6 := (hk' 6 (by decide)).trans e6
  replace e139 := (hk' 139 (by decide)).trans e139
  replace e142 := (hk' 142 (by decide)).trans e142
  replace e143 := (hk' 143 (by decide)).trans e143
  replace e145 := (hk' 145 (by decide)).trans e145
  rw [ha]
  clear hk' ha
  clear e20
  refine wpAnyH_take (i := 9) (v := .bool has) rfl (by kernel_rfl) (by kernel_rfl) (by kernel_rfl) (fun _ _ _ h => hQ _ _ _ _ _ h) (Or.inl ⟨by rfl, fun w' hw' => ?_⟩) hS ?_
  · obtain ⟨z0, z1⟩ := hw'
    generalize a6.eval = ρ at e147 ⊢
    go_simp
  show wpAnyH _ _ _ _ _ _ _ (Act.put a6 (some 148) (.bool has)) _
  obtain ⟨a7, ha, F, e148, hk'⟩ := F.put 148 (.bool has) (by decide)
  replace e6 := (hk' 6 (by decide)).trans e6
  replace e139 := (hk' 139 (by decide)).trans e139
  replace e142 := (hk' 142 (by decide)).trans e142
  replace e143 := (hk' 143 (by decide)).trans e143
  replace e145 := (hk' 145 (by decide)).trans e145
  rw [ha]
  clear hk' ha
  clear e147
  refine wpAnyH_ready (rs := [1, 5]) (by kernel_rfl) (by simp) ?_
  refine AllReadyH.cons rfl (fun K hK => ?_) (AllReadyH.cons rfl (fun K hK => ?_) AllReadyH.nil)
  · have cl := B10.out.cell 5 hpv
    refine op_value (v := pv) (w' := w10) rfl (by generalize a7.eval = ρ at e139 ⊢; go_simp) (hK.out _ _ hS (fun _ => ?_))
    clear hK K cl
    show wpAnyH _ _ _ _ _ _ _ (Act.put a7 (some 140) (pv)) _
    obtain ⟨a8, ha, F, e140, hk'⟩ := F.put 140 (pv) (by decide)
    replace e6 := (hk' 6 (by decide)).trans e6
    replace e142 := (hk' 142 (by decide)).trans e142
    replace e143 := (hk' 143 (by decide)).trans e143
    replace e145 := (hk' 145 (by decide)).trans e145
    replace e148 := (hk' 148 (by decide)).trans e148
    rw [ha]
    clear hk' ha
    clear e139
    refine wpAnyH_ready (rs := [5]) (by kernel_rfl) (by simp) ?_
    refine AllReadyH.cons rfl (fun K hK => ?_) AllReadyH.nil
    refine op_clone nm hnl rfl (by have ef : a8.eval (.func 99) = .func (.func 99) #[] #[] := rfl; generalize a8.eval = ρ at e143 ef ⊢; go_simp) ?_
    rintro w11 hb
    have hz11 := hb.size
    have B11 := Lib.hid (B10.out.below hb B10.out.lt)
    have HB11 := Lib.hid (HB10.out.trans (hb.mono (by omega)))
    have hS : (SM FB acc has) w11 := ⟨(hb.cell (p := ⟨FB, 0, none⟩) (show FB < _ by omega)).trans hS.1, (hb.cell (p := ⟨FB, 3, none⟩) (show FB < _ by omega)).trans hS.2⟩
    clear hb
    refine hK.out _ _ hS (fun _ => ?_)
    clear hK K
    show wpAnyH _ _ _ _ _ _ _ (Act.put a8 (some 144) (.string nm)) _
    obtain ⟨a9, ha, F, e144, hk'⟩ := F.put 144 (.string nm) (by decide)
    replace e6 := (hk' 6 (by decide)).trans e6
    replace e142 := (hk' 142 (by decide)).trans e142
    replace e145 := (hk' 145 (by decide)).trans e145
    replace e148 := (hk' 148 (by decide)).trans e148
    replace e140 := (hk' 140 (by decide)).trans e140
    rw [ha]
    clear hk' ha
    clear e143
    refine wpAnyH_ready (rs := [7]) (by kernel_rfl) (by simp) ?_
    refine AllReadyH.cons rfl (fun K hK => ?_) AllReadyH.nil
    refine op_clone ds hdl rfl (by have ef : a9.eval (.func 99) = .func (.func 99) #[] #[] := rfl; generalize a9.eval = ρ at e145 ef ⊢; go_simp) ?_
    rintro w12 hb
    have hz12 := hb.size
    have B12 := Lib.hid (B11.out.below hb B11.out.lt)
    have HB12 := Lib.hid (HB11.out.trans (hb.mono (by omega)))
    have hS : (SM FB acc has) w12 := ⟨(hb.cell (p := ⟨FB, 0, none⟩) (show FB < _ by omega)).trans hS.1, (hb.cell (p := ⟨FB, 3, none⟩) (show FB < _ by omega)).trans hS.2⟩
    clear hb
    refine hK.out _ _ hS (fun _ => ?_)
    clear hK K
    show wpAnyH _ _ _ _ _ _ _ (Act.put a9 (some 146) (.string ds)) _
    obtain ⟨a10, ha, F, e146, hk'⟩ := F.put 146 (.string ds) (by decide)
    replace e6 := (hk' 6 (by decide)).trans e6
    replace e142 := (hk' 142 (by decide)).trans e142
    replace e148 := (hk' 148 (by decide)).trans e148
    replace e140 := (hk' 140 (by decide)).trans e140
    replace e144 := (hk' 144 (by decide)).trans e144
    rw [ha]
    clear hk' ha
    clear e145
    refine wpAnyH_take (i := 10) (v := .agg #[.int .i64 acc, .string nm, .string ds, .bool has, .int .i64 0]) rfl (by kernel_rfl) (by kernel_rfl) (by kernel_rfl) (fun _ _ _ h => hQ _ _ _ _ _ h) (Or.inl ⟨by rfl, fun w' hw' => ?_⟩) hS ?_
    · obtain ⟨z0, z1⟩ := hw'
      generalize a10.eval = ρ at e142 e144 e146 e148 ⊢
      go_simp
    show wpAnyH _ _ _ _ _ _ _ (Act.put a10 (some 149) (.agg #[.int .i64 acc, .string nm, .string ds, .bool has, .int .i64 0])) _
    obtain ⟨a11, ha, F, e149, hk'⟩ := F.put 149 (.agg #[.int .i64 acc, .string nm, .string ds, .bool has, .int .i64 0]) (by decide)
    replace e6 := (hk' 6 (by decide)).trans e6
    replace e140 := (hk' 140 (by decide)).trans e140
    rw [ha]
    clear hk' ha
    clear e142 e148 e144 e146
    refine wpAnyH_ready (rs := [11]) (by kernel_rfl) (by simp) ?_
    refine AllReadyH.cons rfl (fun K hK => ?_) AllReadyH.nil
    refine op_value (v := .slice (some ⟨w12.heap.size, 0, none⟩) 1 1) (w' := w12.alloc (.cells #[.int .i64 acc, .string nm, .string ds, .bool has, .int .i64 0] 52)) rfl (by generalize a11.eval = ρ at e149 ⊢; go_simp) ?_
    have hb := (Below.refl w12.heap.size w12).alloc (Nat.le_refl _) (.cells #[.int .i64 acc, .string nm, .string ds, .bool has, .int .i64 0] 52)
    have hzb : (w12.alloc (.cells #[.int .i64 acc, .string nm, .string ds, .bool has, .int .i64 0] 52)).heap.size = w12.heap.size + 1 := by simp
    have B13 := Lib.hid (B12.out.below hb B12.out.lt)
    have HB13 := Lib.hid (HB12.out.trans (hb.mono (by omega)))
    have hS : (SM FB acc has) (w12.alloc (.cells #[.int .i64 acc, .string nm, .string ds, .bool has, .int .i64 0] 52)) := ⟨(hb.cell (p := ⟨FB, 0, none⟩) (show FB < _ by omega)).trans hS.1, (hb.cell (p := ⟨FB, 3, none⟩) (show FB < _ by omega)).trans hS.2⟩
    clear hb
    refine hK.out _ _ hS (fun _ => ?_)
    clear hK K
    show wpAnyH _ _ _ _ _ _ _ (Act.put a11 (some 150) (.slice (some ⟨w12.heap.size, 0, none⟩) 1 1)) _
    obtain ⟨a12, ha, F, e150, hk'⟩ := F.put 150 (.slice (some ⟨w12.heap.size, 0, none⟩) 1 1) (by decide)
    replace e6 := (hk' 6 (by decide)).trans e6
    replace e140 := (hk' 140 (by decide)).trans e140
    rw [ha]
    clear hk' ha
    clear e149
    refine wpAnyH_ready (rs := [12]) (by kernel_rfl) (by simp) ?_
    refine AllReadyH.cons rfl (fun K hK => ?_) AllReadyH.nil
    have HO13 := Lib.hid (own_heap HO.out fun q hq => HB13.out.block q (HO.out.lt q hq).2)
    refine step_lies rfl (.tmp 140) (.tmp 150) 37 rfl Tryz.underlying37 info_member rfl (by omega) M e140 HO13.out e150 rfl (cells_new w12 [.int .i64 acc, .string nm, .string ds, .bool has, .int .i64 0] _) (by simp [Value.oneCell']) (by omega) (by simp only [maxLen]; omega) (by omega) (by omega) ?_
    intro g3 c3 w14 ho3 hg3 hb3 hgg3
    have hz14 := hb3.size
    rw [hzb] at hz14
    have hS : (SM FB acc has) w14 := ⟨(World.cell?_of_block (w := w12.alloc (.cells #[.int .i64 acc, .string nm, .string ds, .bool has, .int .i64 0] 52)) (hg3.block FB (by omega) (fun e => by have := hown _ e.symm; omega))).trans hS.1, (World.cell?_of_block (w := w12.alloc (.cells #[.int .i64 acc, .string nm, .string ds, .bool has, .int .i64 0] 52)) (hg3.block FB (by omega) (fun e => by have := hown _ e.symm; omega))).trans hS.2⟩
    have B14 := Lib.hid (B13.out.below hb3 (by omega))
    have HBT14 := Lib.hid ((But.of_below (S := [G + 1]) HB13.out).mono hMw (fun _ _ h => h) |>.trans (But.of_below (S := [G + 1]) hb3))
    have hge := (ho3.lt g3 rfl).1
    have HO14 := Lib.hid ho3
    clear hg3 hb3 hgg3 ho3
    refine hK.out _ _ hS (fun _ => ?_)
    clear hK K
    show wpAnyH _ _ _ _ _ _ _ (Act.put a12 (some 151) (.slice (some ⟨g3, 0, none⟩) (k + 1) c3)) _
    obtain ⟨a13, ha, F, e151, hk'⟩ := F.put 151 (.slice (some ⟨g3, 0, none⟩) (k + 1) c3) (by decide)
    replace e6 := (hk' 6 (by decide)).trans e6
    rw [ha]
    clear hk' ha
    clear e140 e150
    refine wpAnyH_take (i := 13) (v := .pointer (some ⟨G + 1, 5, none⟩)) rfl (by kernel_rfl) (by kernel_rfl) (by kernel_rfl) (fun _ _ _ h => hQ _ _ _ _ _ h) (Or.inl ⟨by rfl, fun w' hw' => ?_⟩) hS ?_
    · obtain ⟨z0, z1⟩ := hw'
      generalize a13.eval = ρ at e6 ⊢
      go_simp
    show wpAnyH _ _ _ _ _ _ _ (Act.put a13 (some 152) (.pointer (some ⟨G + 1, 5, none⟩))) _
    obtain ⟨a14, ha, F, e152, hk'⟩ := F.put 152 (.pointer (some ⟨G + 1, 5, none⟩)) (by decide)
    replace e151 := (hk' 151 (by decide)).trans e151
    rw [ha]
    clear hk' ha
    clear e6
    refine wpAnyH_ready (rs := [14]) (by kernel_rfl) (by simp) ?_
    refine AllReadyH.cons rfl (fun K hK => ?_) AllReadyH.nil
    have cl := B14.out.cell 5 hpv
    have fl := B14.out.frozen 5
    refine op_skip rfl rfl (w' := w14.setCell ⟨G + 1, 5, none⟩ (.slice (some ⟨g3, 0, none⟩) (k + 1) c3)) (by generalize a14.eval = ρ at e152 e151 ⊢; go_simp) ?_
    have hS : (SM FB acc has) (w14.setCell ⟨G + 1, 5, none⟩ (.slice (some ⟨g3, 0, none⟩) (k + 1) c3)) := ⟨(World.cell?_setCell_other _ _ _ _ (by intro e; injection e with e _; omega)).trans hS.1, (World.cell?_setCell_other _ _ _ _ (by intro e; injection e with e _; omega)).trans hS.2⟩
    refine hK.out _ _ hS (fun _ => ?_)
    clear hK K cl fl
    refine wpAnyH_done (by kernel_rfl) ?_ _
    refine hfin _ g3 c3 _ F.z F.d F.k (B14.out.set 5 _) (HBT14.out.set ⟨G + 1, 5, none⟩ (.inl (by simp)) _) (own_set HO14.out (p := ⟨G + 1, 5, none⟩) (by simp; omega) _) (by simp; omega)
  · refine op_clone nm hnl rfl (by have ef : a7.eval (.func 99) = .func (.func 99) #[] #[] := rfl; generalize a7.eval = ρ at e143 ef ⊢; go_simp) ?_
    rintro w11 hb
    have hz11 := hb.size
    have B11 := Lib.hid (B10.out.below hb B10.out.lt)
    have HB11 := Lib.hid (HB10.out.trans (hb.mono (by omega)))
    have hS : (SM FB acc has) w11 := ⟨(hb.cell (p := ⟨FB, 0, none⟩) (show FB < _ by omega)).trans hS.1, (hb.cell (p := ⟨FB, 3, none⟩) (show FB < _ by omega)).trans hS.2⟩
    clear hb
    refine hK.out _ _ hS (fun _ => ?_)
    clear hK K
    show wpAnyH _ _ _ _ _ _ _ (Act.put a7 (some 144) (.string nm)) _
    obtain ⟨a8, ha, F, e144, hk'⟩ := F.put 144 (.string nm) (by decide)
    replace e6 := (hk' 6 (by decide)).trans e6
    replace e139 := (hk' 139 (by decide)).trans e139
    replace e142 := (hk' 142 (by decide)).trans e142
    replace e145 := (hk' 145 (by decide)).trans e145
    replace e148 := (hk' 148 (by decide)).trans e148
    rw [ha]
    clear hk' ha
    clear e143
    refine wpAnyH_ready (rs := [1, 7]) (by kernel_rfl) (by simp) ?_
    refine AllReadyH.cons rfl (fun K hK => ?_) (AllReadyH.cons rfl (fun K hK => ?_) AllReadyH.nil)
    · have cl := B11.out.cell 5 hpv
      refine op_value (v := pv) (w' := w11) rfl (by generalize a8.eval = ρ at e139 ⊢; go_simp) (hK.out _ _ hS (fun _ => ?_))
      clear hK K cl
      show wpAnyH _ _ _ _ _ _ _ (Act.put a8 (some 140) (pv)) _
      obtain ⟨a9, ha, F, e140, hk'⟩ := F.put 140 (pv) (by decide)
      replace e6 := (hk' 6 (by decide)).trans e6
      replace e142 := (hk' 142 (by decide)).trans e142
      replace e145 := (hk' 145 (by decide)).trans e145
      replace e148 := (hk' 148 (by decide)).trans e148
      replace e144 := (hk' 144 (by decide)).trans e144
      rw [ha]
      clear hk' ha
      clear e139
      refine wpAnyH_ready (rs := [7]) (by kernel_rfl) (by simp) ?_
      refine AllReadyH.cons rfl (fun K hK => ?_) AllReadyH.nil
      refine op_clone ds hdl rfl (by have ef : a9.eval (.func 99) = .func (.func 99) #[] #[] := rfl; generalize a9.eval = ρ at e145 ef ⊢; go_simp) ?_
      rintro w12 hb
      have hz12 := hb.size
      have B12 := Lib.hid (B11.out.below hb B11.out.lt)
      have HB12 := Lib.hid (HB11.out.trans (hb.mono (by omega)))
      have hS : (SM FB acc has) w12 := ⟨(hb.cell (p := ⟨FB, 0, none⟩) (show FB < _ by omega)).trans hS.1, (hb.cell (p := ⟨FB, 3, none⟩) (show FB < _ by omega)).trans hS.2⟩
      clear hb
      refine hK.out _ _ hS (fun _ => ?_)
      clear hK K
      show wpAnyH _ _ _ _ _ _ _ (Act.put a9 (some 146) (.string ds)) _
      obtain ⟨a10, ha, F, e146, hk'⟩ := F.put 146 (.string ds) (by decide)
      replace e6 := (hk' 6 (by decide)).trans e6
      replace e142 := (hk' 142 (by decide)).trans e142
      replace e148 := (hk' 148 (by decide)).trans e148
      replace e144 := (hk' 144 (by decide)).trans e144
      replace e140 := (hk' 140 (by decide)).trans e140
      rw [ha]
      clear hk' ha
      clear e145
      refine wpAnyH_take (i := 10) (v := .agg #[.int .i64 acc, .string nm, .string ds, .bool has, .int .i64 0]) rfl (by kernel_rfl) (by kernel_rfl) (by kernel_rfl) (fun _ _ _ h => hQ _ _ _ _ _ h) (Or.inl ⟨by rfl, fun w' hw' => ?_⟩) hS ?_
      · obtain ⟨z0, z1⟩ := hw'
        generalize a10.eval = ρ at e142 e144 e146 e148 ⊢
        go_simp
      show wpAnyH _ _ _ _ _ _ _ (Act.put a10 (some 149) (.agg #[.int .i64 acc, .string nm, .string ds, .bool has, .int .i64 0])) _
      obtain ⟨a11, ha, F, e149, hk'⟩ := F.put 149 (.agg #[.int .i64 acc, .string nm, .string ds, .bool has, .int .i64 0]) (by decide)
      replace e6 := (hk' 6 (by decide)).trans e6
      replace e140 := (hk' 140 (by decide)).trans e140
      rw [ha]
      clear hk' ha
      clear e142 e148 e144 e146
      refine wpAnyH_ready (rs := [11]) (by kernel_rfl) (by simp) ?_
      refine AllReadyH.cons rfl (fun K hK => ?_) AllReadyH.nil
      refine op_value (v := .slice (some ⟨w12.heap.size, 0, none⟩) 1 1) (w' := w12.alloc (.cells #[.int .i64 acc, .string nm, .string ds, .bool has, .int .i64 0] 52)) rfl (by generalize a11.eval = ρ at e149 ⊢; go_simp) ?_
      have hb := (Below.refl w12.heap.size w12).alloc (Nat.le_refl _) (.cells #[.int .i64 acc, .string nm, .string ds, .bool has, .int .i64 0] 52)
      have hzb : (w12.alloc (.cells #[.int .i64 acc, .string nm, .string ds, .bool has, .int .i64 0] 52)).heap.size = w12.heap.size + 1 := by simp
      have B13 := Lib.hid (B12.out.below hb B12.out.lt)
      have HB13 := Lib.hid (HB12.out.trans (hb.mono (by omega)))
      have hS : (SM FB acc has) (w12.alloc (.cells #[.int .i64 acc, .string nm, .string ds, .bool has, .int .i64 0] 52)) := ⟨(hb.cell (p := ⟨FB, 0, none⟩) (show FB < _ by omega)).trans hS.1, (hb.cell (p := ⟨FB, 3, none⟩) (show FB < _ by omega)).trans hS.2⟩
      clear hb
      refine hK.out _ _ hS (fun _ => ?_)
      clear hK K
      show wpAnyH _ _ _ _ _ _ _ (Act.put a11 (some 150) (.slice (some ⟨w12.heap.size, 0, none⟩) 1 1)) _
      obtain ⟨a12, ha, F, e150, hk'⟩ := F.put 150 (.slice (some ⟨w12.heap.size, 0, none⟩) 1 1) (by decide)
      replace e6 := (hk' 6 (by decide)).trans e6
      replace e140 := (hk' 140 (by decide)).trans e140
      rw [ha]
      clear hk' ha
      clear e149
      refine wpAnyH_ready (rs := [12]) (by kernel_rfl) (by simp) ?_
      refine AllReadyH.cons rfl (fun K hK => ?_) AllReadyH.nil
      have HO13 := Lib.hid (own_heap HO.out fun q hq => HB13.out.block q (HO.out.lt q hq).2)
      refine step_lies rfl (.tmp 140) (.tmp 150) 37 rfl Tryz.underlying37 info_member rfl (by omega) M e140 HO13.out e150 rfl (cells_new w12 [.int .i64 acc, .string nm, .string ds, .bool has, .int .i64 0] _) (by simp [Value.oneCell']) (by omega) (by simp only [maxLen]; omega) (by omega) (by omega) ?_
      intro g3 c3 w14 ho3 hg3 hb3 hgg3
      have hz14 := hb3.size
      rw [hzb] at hz14
      have hS : (SM FB acc has) w14 := ⟨(World.cell?_of_block (w := w12.alloc (.cells #[.int .i64 acc, .string nm, .string ds, .bool has, .int .i64 0] 52)) (hg3.block FB (by omega) (fun e => by have := hown _ e.symm; omega))).trans hS.1, (World.cell?_of_block (w := w12.alloc (.cells #[.int .i64 acc, .string nm, .string ds, .bool has, .int .i64 0] 52)) (hg3.block FB (by omega) (fun e => by have := hown _ e.symm; omega))).trans hS.2⟩
      have B14 := Lib.hid (B13.out.below hb3 (by omega))
      have HBT14 := Lib.hid ((But.of_below (S := [G + 1]) HB13.out).mono hMw (fun _ _ h => h) |>.trans (But.of_below (S := [G + 1]) hb3))
      have hge := (ho3.lt g3 rfl).1
      have HO14 := Lib.hid ho3
      clear hg3 hb3 hgg3 ho3
      refine hK.out _ _ hS (fun _ => ?_)
      clear hK K
      show wpAnyH _ _ _ _ _ _ _ (Act.put a12 (some 151) (.slice (some ⟨g3, 0, none⟩) (k + 1) c3)) _
      obtain ⟨a13, ha, F, e151, hk'⟩ := F.put 151 (.slice (some ⟨g3, 0, none⟩) (k + 1) c3) (by decide)
      replace e6 := (hk' 6 (by decide)).trans e6
      rw [ha]
      clear hk' ha
      clear e140 e150
      refine wpAnyH_take (i := 13) (v := .pointer (some ⟨G + 1, 5, none⟩)) rfl (by kernel_rfl) (by kernel_rfl) (by kernel_rfl) (fun _ _ _ h => hQ _ _ _ _ _ h) (Or.inl ⟨by rfl, fun w' hw' => ?_⟩) hS ?_
      · obtain ⟨z0, z1⟩ := hw'
        generalize a13.eval = ρ at e6 ⊢
        go_simp
      show wpAnyH _ _ _ _ _ _ _ (Act.put a13 (some 152) (.pointer (some ⟨G + 1, 5, none⟩))) _
      obtain ⟨a14, ha, F, e152, hk'⟩ := F.put 152 (.pointer (some ⟨G + 1, 5, none⟩)) (by decide)
      replace e151 := (hk' 151 (by decide)).trans e151
      rw [ha]
      clear hk' ha
      clear e6
      refine wpAnyH_ready (rs := [14]) (by kernel_rfl) (by simp) ?_
      refine AllReadyH.cons rfl (fun K hK => ?_) AllReadyH.nil
      have cl := B14.out.cell 5 hpv
      have fl := B14.out.frozen 5
      refine op_skip rfl rfl (w' := w14.setCell ⟨G + 1, 5, none⟩ (.slice (some ⟨g3, 0, none⟩) (k + 1) c3)) (by generalize a14.eval = ρ at e152 e151 ⊢; go_simp) ?_
      have hS : (SM FB acc has) (w14.setCell ⟨G + 1, 5, none⟩ (.slice (some ⟨g3, 0, none⟩) (k + 1) c3)) := ⟨(World.cell?_setCell_other _ _ _ _ (by intro e; injection e with e _; omega)).trans hS.1, (World.cell?_setCell_other _ _ _ _ (by intro e; injection e with e _; omega)).trans hS.2⟩
      refine hK.out _ _ hS (fun _ => ?_)
      clear hK K cl fl
      refine wpAnyH_done (by kernel_rfl) ?_ _
      refine hfin _ g3 c3 _ F.z F.d F.k (B14.out.set 5 _) (HBT14.out.set ⟨G + 1, 5, none⟩ (.inl (by simp)) _) (own_set HO14.out (p := ⟨G + 1, 5, none⟩) (by simp; omega) _) (by simp; omega)
    · refine op_clone ds hdl rfl (by have ef : a8.eval (.func 99) = .func (.func 99) #[] #[] := rfl; generalize a8.eval = ρ at e145 ef ⊢; go_simp) ?_
      rintro w12 hb
      have hz12 := hb.size
      have B12 := Lib.hid (B11.out.below hb B11.out.lt)
      have HB12 := Lib.hid (HB11.out.trans (hb.mono (by omega)))
      have hS : (SM FB acc has) w12 := ⟨(hb.cell (p := ⟨FB, 0, none⟩) (show FB < _ by omega)).trans hS.1, (hb.cell (p := ⟨FB, 3, none⟩) (show FB < _ by omega)).trans hS.2⟩
      clear hb
      refine hK.out _ _ hS (fun _ => ?_)
      clear hK K
      show wpAnyH _ _ _ _ _ _ _ (Act.put a8 (some 146) (.string ds)) _
      obtain ⟨a9, ha, F, e146, hk'⟩ := F.put 146 (.string ds) (by decide)
      replace e6 := (hk' 6 (by decide)).trans e6
      replace e139 := (hk' 139 (by decide)).trans e139
      replace e142 := (hk' 142 (by decide)).trans e142
      replace e148 := (hk' 148 (by decide)).trans e148
      replace e144 := (hk' 144 (by decide)).trans e144
      rw [ha]
      clear hk' ha
      clear e145
      refine wpAnyH_take (i := 10) (v := .agg #[.int .i64 acc, .string nm, .string ds, .bool has, .int .i64 0]) rfl (by kernel_rfl) (by kernel_rfl) (by kernel_rfl) (fun _ _ _ h => hQ _ _ _ _ _ h) (Or.inl ⟨by rfl, fun w' hw' => ?_⟩) hS ?_
      · obtain ⟨z0, z1⟩ := hw'
        generalize a9.eval = ρ at e142 e144 e146 e148 ⊢
        go_simp
      show wpAnyH _ _ _ _ _ _ _ (Act.put a9 (some 149) (.agg #[.int .i64 acc, .string nm, .string ds, .bool has, .int .i64 0])) _
      obtain ⟨a10, ha, F, e149, hk'⟩ := F.put 149 (.agg #[.int .i64 acc, .string nm, .string ds, .bool has, .int .i64 0]) (by decide)
      replace e6 := (hk' 6 (by decide)).trans e6
      replace e139 := (hk' 139 (by decide)).trans e139
      rw [ha]
      clear hk' ha
      clear e142 e148 e144 e146
      refine wpAnyH_ready (rs := [1, 11]) (by kernel_rfl) (by simp) ?_
      refine AllReadyH.cons rfl (fun K hK => ?_) (AllReadyH.cons rfl (fun K hK => ?_) AllReadyH.nil)
      · have cl := B12.out.cell 5 hpv
        refine op_value (v := pv) (w' := w12) rfl (by generalize a10.eval = ρ at e139 ⊢; go_simp) (hK.out _ _ hS (fun _ => ?_))
        clear hK K cl
        show wpAnyH _ _ _ _ _ _ _ (Act.put a10 (some 140) (pv)) _
        obtain ⟨a11, ha, F, e140, hk'⟩ := F.put 140 (pv) (by decide)
        replace e6 := (hk' 6 (by decide)).trans e6
        replace e149 := (hk' 149 (by decide)).trans e149
        rw [ha]
        clear hk' ha
        clear e139
        refine wpAnyH_ready (rs := [11]) (by kernel_rfl) (by simp) ?_
        refine AllReadyH.cons rfl (fun K hK => ?_) AllReadyH.nil
        refine op_value (v := .slice (some ⟨w12.heap.size, 0, none⟩) 1 1) (w' := w12.alloc (.cells #[.int .i64 acc, .string nm, .string ds, .bool has, .int .i64 0] 52)) rfl (by generalize a11.eval = ρ at e149 ⊢; go_simp) ?_
        have hb := (Below.refl w12.heap.size w12).alloc (Nat.le_refl _) (.cells #[.int .i64 acc, .string nm, .string ds, .bool has, .int .i64 0] 52)
        have hzb : (w12.alloc (.cells #[.int .i64 acc, .string nm, .string ds, .bool has, .int .i64 0] 52)).heap.size = w12.heap.size + 1 := by simp
        have B13 := Lib.hid (B12.out.below hb B12.out.lt)
        have HB13 := Lib.hid (HB12.out.trans (hb.mono (by omega)))
        have hS : (SM FB acc has) (w12.alloc (.cells #[.int .i64 acc, .string nm, .string ds, .bool has, .int .i64 0] 52)) := ⟨(hb.cell (p := ⟨FB, 0, none⟩) (show FB < _ by omega)).trans hS.1, (hb.cell (p := ⟨FB, 3, none⟩) (show FB < _ by omega)).trans hS.2⟩
        clear hb
        refine hK.out _ _ hS (fun _ => ?_)
        clear hK K
        show wpAnyH _ _ _ _ _ _ _ (Act.put a11 (some 150) (.slice (some ⟨w12.heap.size, 0, none⟩) 1 1)) _
        obtain ⟨a12, ha, F, e150, hk'⟩ := F.put 150 (.slice (some ⟨w12.heap.size, 0, none⟩) 1 1) (by decide)
        replace e6 := (hk' 6 (by decide)).trans e6
        replace e140 := (hk' 140 (by decide)).trans e140
        rw [ha]
        clear hk' ha
        clear e149
        refine wpAnyH_ready (rs := [12]) (by kernel_rfl) (by simp) ?_
        refine AllReadyH.cons rfl (fun K hK => ?_) AllReadyH.nil
        have HO13 := Lib.hid (own_heap HO.out fun q hq => HB13.out.block q (HO.out.lt q hq).2)
        refine step_lies rfl (.tmp 140) (.tmp 150) 37 rfl Tryz.underlying37 info_member rfl (by omega) M e140 HO13.out e150 rfl (cells_new w12 [.int .i64 acc, .string nm, .string ds, .bool has, .int .i64 0] _) (by simp [Value.oneCell']) (by omega) (by simp only [maxLen]; omega) (by omega) (by omega) ?_
        intro g3 c3 w14 ho3 hg3 hb3 hgg3
        have hz14 := hb3.size
        rw [hzb] at hz14
        have hS : (SM FB acc has) w14 := ⟨(World.cell?_of_block (w := w12.alloc (.cells #[.int .i64 acc, .string nm, .string ds, .bool has, .int .i64 0] 52)) (hg3.block FB (by omega) (fun e => by have := hown _ e.symm; omega))).trans hS.1, (World.cell?_of_block (w := w12.alloc (.cells #[.int .i64 acc, .string nm, .string ds, .bool has, .int .i64 0] 52)) (hg3.block FB (by omega) (fun e => by have := hown _ e.symm; omega))).trans hS.2⟩
        have B14 := Lib.hid (B13.out.below hb3 (by omega))
        have HBT14 := Lib.hid ((But.of_below (S := [G + 1]) HB13.out).mono hMw (fun _ _ h => h) |>.trans (But.of_below (S := [G + 1]) hb3))
        have hge := (ho3.lt g3 rfl).1
        have HO14 := Lib.hid ho3
        clear hg3 hb3 hgg3 ho3
        refine hK.out _ _ hS (fun _ => ?_)
        clear hK K
        show wpAnyH _ _ _ _ _ _ _ (Act.put a12 (some 151) (.slice (some ⟨g3, 0, none⟩) (k + 1) c3)) _
        obtain ⟨a13, ha, F, e151, hk'⟩ := F.put 151 (.slice (some ⟨g3, 0, none⟩) (k + 1) c3) (by decide)
        replace e6 := (hk' 6 (by decide)).trans e6
        rw [ha]
        clear hk' ha
        clear e140 e150
        refine wpAnyH_take (i := 13) (v := .pointer (some ⟨G + 1, 5, none⟩)) rfl (by kernel_rfl) (by kernel_rfl) (by kernel_rfl) (fun _ _ _ h => hQ _ _ _ _ _ h) (Or.inl ⟨by rfl, fun w' hw' => ?_⟩) hS ?_
        · obtain ⟨z0, z1⟩ := hw'
          generalize a13.eval = ρ at e6 ⊢
          go_simp
        show wpAnyH _ _ _ _ _ _ _ (Act.put a13 (some 152) (.pointer (some ⟨G + 1, 5, none⟩))) _
        obtain ⟨a14, ha, F, e152, hk'⟩ := F.put 152 (.pointer (some ⟨G + 1, 5, none⟩)) (by decide)
        replace e151 := (hk' 151 (by decide)).trans e151
        rw [ha]
        clear hk' ha
        clear e6
        refine wpAnyH_ready (rs := [14]) (by kernel_rfl) (by simp) ?_
        refine AllReadyH.cons rfl (fun K hK => ?_) AllReadyH.nil
        have cl := B14.out.cell 5 hpv
        have fl := B14.out.frozen 5
        refine op_skip rfl rfl (w' := w14.setCell ⟨G + 1, 5, none⟩ (.slice (some ⟨g3, 0, none⟩) (k + 1) c3)) (by generalize a14.eval = ρ at e152 e151 ⊢; go_simp) ?_
        have hS : (SM FB acc has) (w14.setCell ⟨G + 1, 5, none⟩ (.slice (some ⟨g3, 0, none⟩) (k + 1) c3)) := ⟨(World.cell?_setCell_other _ _ _ _ (by intro e; injection e with e _; omega)).trans hS.1, (World.cell?_setCell_other _ _ _ _ (by intro e; injection e with e _; omega)).trans hS.2⟩
        refine hK.out _ _ hS (fun _ => ?_)
        clear hK K cl fl
        refine wpAnyH_done (by kernel_rfl) ?_ _
        refine hfin _ g3 c3 _ F.z F.d F.k (B14.out.set 5 _) (HBT14.out.set ⟨G + 1, 5, none⟩ (.inl (by simp)) _) (own_set HO14.out (p := ⟨G + 1, 5, none⟩) (by simp; omega) _) (by simp; omega)
      · refine op_value (v := .slice (some ⟨w12.heap.size, 0, none⟩) 1 1) (w' := w12.alloc (.cells #[.int .i64 acc, .string nm, .string ds, .bool has, .int .i64 0] 52)) rfl (by generalize a10.eval = ρ at e149 ⊢; go_simp) ?_
        have hb := (Below.refl w12.heap.size w12).alloc (Nat.le_refl _) (.cells #[.int .i64 acc, .string nm, .string ds, .bool has, .int .i64 0] 52)
        have hzb : (w12.alloc (.cells #[.int .i64 acc, .string nm, .string ds, .bool has, .int .i64 0] 52)).heap.size = w12.heap.size + 1 := by simp
        have B13 := Lib.hid (B12.out.below hb B12.out.lt)
        have HB13 := Lib.hid (HB12.out.trans (hb.mono (by omega)))
        have hS : (SM FB acc has) (w12.alloc (.cells #[.int .i64 acc, .string nm, .string ds, .bool has, .int .i64 0] 52)) := ⟨(hb.cell (p := ⟨FB, 0, none⟩) (show FB < _ by omega)).trans hS.1, (hb.cell (p := ⟨FB, 3, none⟩) (show FB < _ by omega)).trans hS.2⟩
        clear hb
        refine hK.out _ _ hS (fun _ => ?_)
        clear hK K
        show wpAnyH _ _ _ _ _ _ _ (Act.put a10 (some 150) (.slice (some ⟨w12.heap.size, 0, none⟩) 1 1)) _
        obtain ⟨a11, ha, F, e150, hk'⟩ := F.put 150 (.slice (some ⟨w12.heap.size, 0, none⟩) 1 1) (by decide)
        replace e6 := (hk' 6 (by decide)).trans e6
        replace e139 := (hk' 139 (by decide)).trans e139
        rw [ha]
        clear hk' ha
        clear e149
        refine wpAnyH_ready (rs := [1]) (by kernel_rfl) (by simp) ?_
        refine AllReadyH.cons rfl (fun K hK => ?_) AllReadyH.nil
        have cl := B13.out.cell 5 hpv
        refine op_value (v := pv) (w' := (w12.alloc (.cells #[.int .i64 acc, .string nm, .string ds, .bool has, .int .i64 0] 52))) rfl (by generalize a11.eval = ρ at e139 ⊢; go_simp) (hK.out _ _ hS (fun _ => ?_))
        clear hK K cl
        show wpAnyH _ _ _ _ _ _ _ (Act.put a11 (some 140) (pv)) _
        obtain ⟨a12, ha, F, e140, hk'⟩ := F.put 140 (pv) (by decide)
        replace e6 := (hk' 6 (by decide)).trans e6
        replace e150 := (hk' 150 (by decide)).trans e150
        rw [ha]
        clear hk' ha
        clear e139
        refine wpAnyH_ready (rs := [12]) (by kernel_rfl) (by simp) ?_
        refine AllReadyH.cons rfl (fun K hK => ?_) AllReadyH.nil
        have HO13 := Lib.hid (own_heap HO.out fun q hq => HB13.out.block q (HO.out.lt q hq).2)
        refine step_lies rfl (.tmp 140) (.tmp 150) 37 rfl Tryz.underlying37 info_member rfl (by omega) M e140 HO13.out e150 rfl (cells_new w12 [.int .i64 acc, .string nm, .string ds, .bool has, .int .i64 0] _) (by simp [Value.oneCell']) (by omega) (by simp only [maxLen]; omega) (by omega) (by omega) ?_
        intro g3 c3 w14 ho3 hg3 hb3 hgg3
        have hz14 := hb3.size
        rw [hzb] at hz14
        have hS : (SM FB acc has) w14 := ⟨(World.cell?_of_block (w := w12.alloc (.cells #[.int .i64 acc, .string nm, .string ds, .bool has, .int .i64 0] 52)) (hg3.block FB (by omega) (fun e => by have := hown _ e.symm; omega))).trans hS.1, (World.cell?_of_block (w := w12.alloc (.cells #[.int .i64 acc, .string nm, .string ds, .bool has, .int .i64 0] 52)) (hg3.block FB (by omega) (fun e => by have := hown _ e.symm; omega))).trans hS.2⟩
        have B14 := Lib.hid (B13.out.below hb3 (by omega))
        have HBT14 := Lib.hid ((But.of_below (S := [G + 1]) HB13.out).mono hMw (fun _ _ h => h) |>.trans (But.of_below (S := [G + 1]) hb3))
        have hge := (ho3.lt g3 rfl).1
        have HO14 := Lib.hid ho3
        clear hg3 hb3 hgg3 ho3
        refine hK.out _ _ hS (fun _ => ?_)
        clear hK K
        show wpAnyH _ _ _ _ _ _ _ (Act.put a12 (some 151) (.slice (some ⟨g3, 0, none⟩) (k + 1) c3)) _
        obtain ⟨a13, ha, F, e151, hk'⟩ := F.put 151 (.slice (some ⟨g3, 0, none⟩) (k + 1) c3) (by decide)
        replace e6 := (hk' 6 (by decide)).trans e6
        rw [ha]
        clear hk' ha
        clear e150 e140
        refine wpAnyH_take (i := 13) (v := .pointer (some ⟨G + 1, 5, none⟩)) rfl (by kernel_rfl) (by kernel_rfl) (by kernel_rfl) (fun _ _ _ h => hQ _ _ _ _ _ h) (Or.inl ⟨by rfl, fun w' hw' => ?_⟩) hS ?_
        · obtain ⟨z0, z1⟩ := hw'
          generalize a13.eval = ρ at e6 ⊢
          go_simp
        show wpAnyH _ _ _ _ _ _ _ (Act.put a13 (some 152) (.pointer (some ⟨G + 1, 5, none⟩))) _
        obtain ⟨a14, ha, F, e152, hk'⟩ := F.put 152 (.pointer (some ⟨G + 1, 5, none⟩)) (by decide)
        replace e151 := (hk' 151 (by decide)).trans e151
        rw [ha]
        clear hk' ha
        clear e6
        refine wpAnyH_ready (rs := [14]) (by kernel_rfl) (by simp) ?_
        refine AllReadyH.cons rfl (fun K hK => ?_) AllReadyH.nil
        have cl := B14.out.cell 5 hpv
        have fl := B14.out.frozen 5
        refine op_skip rfl rfl (w' := w14.setCell ⟨G + 1, 5, none⟩ (.slice (some ⟨g3, 0, none⟩) (k + 1) c3)) (by generalize a14.eval = ρ at e152 e151 ⊢; go_simp) ?_
        have hS : (SM FB acc has) (w14.setCell ⟨G + 1, 5, none⟩ (.slice (some ⟨g3, 0, none⟩) (k + 1) c3)) := ⟨(World.cell?_setCell_other _ _ _ _ (by intro e; injection e with e _; omega)).trans hS.1, (World.cell?_setCell_other _ _ _ _ (by intro e; injection e with e _; omega)).trans hS.2⟩
        refine hK.out _ _ hS (fun _ => ?_)
        clear hK K cl fl
        refine wpAnyH_done (by kernel_rfl) ?_ _
        refine hfin _ g3 c3 _ F.z F.d F.k (B14.out.set 5 _) (HBT14.out.set ⟨G + 1, 5, none⟩ (.inl (by simp)) _) (own_set HO14.out (p := ⟨G + 1, 5, none⟩) (by simp; omega) _) (by simp; omega)
end Go.Proofs.YtdbniocnjhfhdaaGreatDoor
