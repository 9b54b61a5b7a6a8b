/-
  What the loader's laws rest on, part 16: walks of the program's functions and plain laws. Conditions: none but those that each theorem names.
-/
import Derived.Test.YtdbniocnjhfhdaaGreatDoorB15
import Derived.Test.YtdbniocnjhfhdaaGreatDoorB06
import Derived.Test.YtdbniocnjhfhdaaGreatDoorB03
import Derived.Test.YtdbniocnjhfhdaaGreatDoorB08
import Derived.Test.YtdbniocnjhfhdaaGreatDoorB09
import Derived.Test.YtdbniocnjhfhdaaGreatDoorB01
import Derived.Test.YtdbniocnjhfhdaaGreatDoorB13

set_option linter.unusedSimpArgs false
set_option linter.unusedVariables false
set_option maxRecDepth 100000
set_option maxHeartbeats 1000000
namespace Go.Proofs.YtdbniocnjhfhdaaGreatDoor
open Go Go.RowKit Lib
theorem region_two (G : Nat) (c0 c1 c2 c3 x0 x1 x2 x3 x4 x6 x7 x8 x9 x10 x11 x12 x13 x14 x15 x16 x17 x18 y19 y20 y21 y22 y23 y24 y25 y26 y27 y28 y29 y30 y31 y32 : Value) (A2 A3 : Option Addr) (n2 k2 n3 k3 : Nat) (cs2 cs3 : List Value) (ok2 ok3 : Nat → Prop) (w2 : World) (Q : Exit → Act → World → Prop)
    (X2 : Hid (Bx w2 G [c0, c1, c2, c3, .slice A2 n2 k2, .slice A3 n3 k3] 39)) (S2 : Hid (SlAt w2 ok2 5 n2 cs2 (.slice A2 n2 k2))) (S3 : Hid (SlAt w2 ok3 5 n3 cs3 (.slice A3 n3 k3))) (O2 : Hid (∀ u ∈ cs2, u.oneCell' = true)) (O3 : Hid (∀ u ∈ cs3, u.oneCell' = true))
    (hQ : ∀ c a (k : Nat) v w, Q (.panic c) (a.put (some k) v) w → Q (.panic c) a w)
    (hfin : ∀ A5 k5 A6 k6 w9, Bx w9 G [c0, c1, c2, c3, .slice A5 n2 k5, .slice A6 n3 k6] 39 → But w2.heap.size [G] w2 w9 → SlAt w9 (fun g => w2.heap.size ≤ g) 5 n2 cs2 (.slice A5 n2 k5) → SlAt w9 (fun g => w2.heap.size ≤ g) 5 n3 cs3 (.slice A6 n3 k6) →
      Q .normal { tmps := #[x0, x1, x2, x3, x4, .pointer (some ⟨G, 0, none⟩), x6, x7, x8, x9, x10, x11, x12, x13, x14, x15, x16, x17, x18, .pointer (some ⟨G, 4, none⟩), .slice A2 n2 k2, .slice A5 n2 k5, .pointer (some ⟨G, 5, none⟩), .slice A3 n3 k3, .slice A6 n3 k6, .pointer (some ⟨G, 4, none⟩), .pointer (some ⟨G, 5, none⟩), y27, y28, y29, y30, y31, y32], defers := [] } w9) :
    Code.wp Tryz.prog (Code.region 6 #[{ dst := some 19, op := Op.fieldAddr 39 (Operand.tmp 5) 4, type := 0, pos := "load.go:154", after := #[], guard := none },
      { dst := some 20, op := Op.load 37 (Operand.tmp 19), type := 37, pos := "load.go:154", after := #[{ on := 0, ground := Ground.data }], guard := none },
      { dst := some 21, op := Op.call { callee := Callee.value (Operand.func 28), args := #[Operand.tmp 20], argTypes := #[37] }, type := 37, pos := "load.go:154", after := #[{ on := 1, ground := Ground.data }], guard := none },
      { dst := some 22, op := Op.fieldAddr 39 (Operand.tmp 5) 5, type := 0, pos := "load.go:154", after := #[], guard := none },
      { dst := some 23, op := Op.load 37 (Operand.tmp 22), type := 37, pos := "load.go:154", after := #[{ on := 3, ground := Ground.data }], guard := none },
      { dst := some 24, op := Op.call { callee := Callee.value (Operand.func 28), args := #[Operand.tmp 23], argTypes := #[37] }, type := 37, pos := "load.go:154", after := #[{ on := 4, ground := Ground.data }, { on := 2, ground := Ground.chain }], guard := none },
      { dst := some 25, op := Op.fieldAddr 39 (Operand.tmp 5) 4, type := 0, pos := "load.go:154", after := #[{ on := 0, ground := Ground.phase }, { on := 1, ground := Ground.phase }, { on := 2, ground := Ground.phase }, { on := 3, ground := Ground.phase }, { on := 4, ground := Ground.phase }, { on := 5, ground := Ground.textOnly Departure.lateStoresUnsure }], guard := none },
      { dst := none, op := Op.store 37 (Operand.tmp 25) (Operand.tmp 21), type := 0, pos := "load.go:154", after := #[{ on := 6, ground := Ground.data }, { on := 2, ground := Ground.data }, { on := 5, ground := Ground.chain }, { on := 0, ground := Ground.phase }, { on := 1, ground := Ground.phase }, { on := 2, ground := Ground.phase }, { on := 3, ground := Ground.phase }, { on := 4, ground := Ground.phase }, { on := 5, ground := Ground.textOnly Departure.lateStoresUnsure }], guard := none },
      { dst := some 26, op := Op.fieldAddr 39 (Operand.tmp 5) 5, type := 0, pos := "load.go:154", after := #[{ on := 0, ground := Ground.phase }, { on := 1, ground := Ground.phase }, { on := 2, ground := Ground.phase }, { on := 3, ground := Ground.phase }, { on := 4, ground := Ground.phase }, { on := 5, ground := Ground.phase }, { on := 6, ground := Ground.phase }, { on := 7, ground := Ground.phase }], guard := none },
      { dst := none, op := Op.store 37 (Operand.tmp 26) (Operand.tmp 24), type := 0, pos := "load.go:154", after := #[{ on := 8, ground := Ground.data }, { on := 5, ground := Ground.data }, { on := 7, ground := Ground.chain }, { on := 0, ground := Ground.phase }, { on := 1, ground := Ground.phase }, { on := 2, ground := Ground.phase }, { on := 3, ground := Ground.phase }, { on := 4, ground := Ground.phase }, { on := 5, ground := Ground.phase }, { on := 6, ground := Ground.phase }, { on := 7, ground := Ground.phase }], guard := none }] true) Q { tmps := #[x0, x1, x2, x3, x4, .pointer (some ⟨G, 0, none⟩), x6, x7, x8, x9, x10, x11, x12, x13, x14, x15, x16, x17, x18, y19, y20, y21, y22, y23, y24, y25, y26, y27, y28, y29, y30, y31, y32], defers := [] } w2 := by
  refine wp_region_held_drew (S := fun _ => True) rfl trivial (fun _ => ?_)
  have X3 := Lib.hid (X2.out.below ((Below.refl w2.heap.size w2).drew) X2.out.lt)
  have B3 := Lib.hid ((Below.refl w2.heap.size w2).drew)
  have hG2 := X2.out.lt
  generalize w2.drew = w3 at *
  refine wpAnyH_take (i := 0) (oi := { dst := some 19, op := Op.fieldAddr 39 (Operand.tmp 5) 4, type := 0, pos := "load.go:154", after := #[], guard := none }) (v := .pointer (some ⟨G, 4, none⟩)) rfl (by kernel_rfl) (by kernel_rfl) (by kernel_rfl) (fun _ _ _ h => hQ _ _ _ _ _ h) (Or.inl ⟨by rfl, fun w' hw' => ?_⟩) trivial ?_
  · go_simp
  try simp only [Act.put, List.setIfInBounds_toArray, List.set_cons_zero, List.set_cons_succ]
  refine wpAnyH_take (i := 3) (oi := { dst := some 22, op := Op.fieldAddr 39 (Operand.tmp 5) 5, type := 0, pos := "load.go:154", after := #[], guard := none }) (v := .pointer (some ⟨G, 5, none⟩)) rfl (by kernel_rfl) (by kernel_rfl) (by kernel_rfl) (fun _ _ _ h => hQ _ _ _ _ _ h) (Or.inl ⟨by rfl, fun w' hw' => ?_⟩) trivial ?_
  · go_simp
  try simp only [Act.put, List.setIfInBounds_toArray, List.set_cons_zero, List.set_cons_succ]
  have tail : ∀ (Av5 : Option Addr) (kv5 : Nat) (w4 : World), Hid (Bx w4 G [c0, c1, c2, c3, .slice A2 n2 k2, .slice A3 n3 k3] 39) → Hid (Below w2.heap.size w2 w4) → Hid (SlAt w4 (fun g => w2.heap.size ≤ g) 5 n2 cs2 (.slice Av5 n2 kv5)) → wpAnyH Tryz.prog .any #[{ dst := some 19, op := Op.fieldAddr 39 (Operand.tmp 5) 4, type := 0, pos := "load.go:154", after := #[], guard := none },
        { dst := some 20, op := Op.load 37 (Operand.tmp 19), type := 37, pos := "load.go:154", after := #[{ on := 0, ground := Ground.data }], guard := none },
        { dst := some 21, op := Op.call { callee := Callee.value (Operand.func 28), args := #[Operand.tmp 20], argTypes := #[37] }, type := 37, pos := "load.go:154", after := #[{ on := 1, ground := Ground.data }], guard := none },
        { dst := some 22, op := Op.fieldAddr 39 (Operand.tmp 5) 5, type := 0, pos := "load.go:154", after := #[], guard := none },
        { dst := some 23, op := Op.load 37 (Operand.tmp 22), type := 37, pos := "load.go:154", after := #[{ on := 3, ground := Ground.data }], guard := none },
        { dst := some 24, op := Op.call { callee := Callee.value (Operand.func 28), args := #[Operand.tmp 23], argTypes := #[37] }, type := 37, pos := "load.go:154", after := #[{ on := 4, ground := Ground.data }, { on := 2, ground := Ground.chain }], guard := none },
        { dst := some 25, op := Op.fieldAddr 39 (Operand.tmp 5) 4, type := 0, pos := "load.go:154", after := #[{ on := 0, ground := Ground.phase }, { on := 1, ground := Ground.phase }, { on := 2, ground := Ground.phase }, { on := 3, ground := Ground.phase }, { on := 4, ground := Ground.phase }, { on := 5, ground := Ground.textOnly Departure.lateStoresUnsure }], guard := none },
        { dst := none, op := Op.store 37 (Operand.tmp 25) (Operand.tmp 21), type := 0, pos := "load.go:154", after := #[{ on := 6, ground := Ground.data }, { on := 2, ground := Ground.data }, { on := 5, ground := Ground.chain }, { on := 0, ground := Ground.phase }, { on := 1, ground := Ground.phase }, { on := 2, ground := Ground.phase }, { on := 3, ground := Ground.phase }, { on := 4, ground := Ground.phase }, { on := 5, ground := Ground.textOnly Departure.lateStoresUnsure }], guard := none },
        { dst := some 26, op := Op.fieldAddr 39 (Operand.tmp 5) 5, type := 0, pos := "load.go:154", after := #[{ on := 0, ground := Ground.phase }, { on := 1, ground := Ground.phase }, { on := 2, ground := Ground.phase }, { on := 3, ground := Ground.phase }, { on := 4, ground := Ground.phase }, { on := 5, ground := Ground.phase }, { on := 6, ground := Ground.phase }, { on := 7, ground := Ground.phase }], guard := none },
        { dst := none, op := Op.store 37 (Operand.tmp 26) (Operand.tmp 24), type := 0, pos := "load.go:154", after := #[{ on := 8, ground := Ground.data }, { on := 5, ground := Ground.data }, { on := 7, ground := Ground.chain }, { on := 0, ground := Ground.phase }, { on := 1, ground := Ground.phase }, { on := 2, ground := Ground.phase }, { on := 3, ground := Ground.phase }, { on := 4, ground := Ground.phase }, { on := 5, ground := Ground.phase }, { on := 6, ground := Ground.phase }, { on := 7, ground := Ground.phase }], guard := none }] Q (fun _ => True) 5 #[true, true, true, true, true, false, false, false, false, false] { tmps := #[x0, x1, x2, x3, x4, .pointer (some ⟨G, 0, none⟩), x6, x7, x8, x9, x10, x11, x12, x13, x14, x15, x16, x17, x18, .pointer (some ⟨G, 4, none⟩), .slice A2 n2 k2, .slice Av5 n2 kv5, .pointer (some ⟨G, 5, none⟩), .slice A3 n3 k3, y24, y25, y26, y27, y28, y29, y30, y31, y32], defers := [] } w4 := by
    intro Av5 kv5 w4 X4 B4 Sv5
    refine wpAnyH_take (i := 6) (oi := { dst := some 25, op := Op.fieldAddr 39 (Operand.tmp 5) 4, type := 0, pos := "load.go:154", after := #[{ on := 0, ground := Ground.phase }, { on := 1, ground := Ground.phase }, { on := 2, ground := Ground.phase }, { on := 3, ground := Ground.phase }, { on := 4, ground := Ground.phase }, { on := 5, ground := Ground.textOnly Departure.lateStoresUnsure }], guard := none }) (v := .pointer (some ⟨G, 4, none⟩)) rfl (by kernel_rfl) (by kernel_rfl) (by kernel_rfl) (fun _ _ _ h => hQ _ _ _ _ _ h) (Or.inl ⟨by rfl, fun w' hw' => ?_⟩) trivial ?_
    · go_simp
    try simp only [Act.put, List.setIfInBounds_toArray, List.set_cons_zero, List.set_cons_succ]
    refine wpAnyH_ready (rs := [5]) (by kernel_rfl) (by simp) ?_
    refine AllReadyH.cons (o := { dst := some 24, op := Op.call { callee := Callee.value (Operand.func 28), args := #[Operand.tmp 23], argTypes := #[37] }, type := 37, pos := "load.go:154", after := #[{ on := 4, ground := Ground.data }, { on := 2, ground := Ground.chain }], guard := none }) rfl (fun K hK => ?_) AllReadyH.nil
    have SK := Lib.hid (S3.out.keep (Kept.of_below B4.out))
    go_wp2_with (go_at_call 28; refine stop_here ?_)
    refine go_on ?_
    refine (members_any _ n3 cs3 _ _ SK.out O3.out).mono ?_
    rintro e w6 ⟨v6, rfl, hsv6, hbv6⟩
    have Xw6 := Lib.hid (X4.out.below hbv6 X4.out.lt)
    have B6 := Lib.hid hbv6
    have Bw6 := Lib.hid (B4.out.trans (hbv6.mono B4.out.size))
    obtain ⟨Av6, kv6, rfl, _⟩ := sl_len hsv6
    have Sv6 := Lib.hid (hsv6.mono (ok' := fun g => w2.heap.size ≤ g) (fun g _ hg => Nat.le_trans B4.out.size hg))
    clear hsv6 hbv6 SK
    refine hK.out _ _ trivial (fun _ => ?_)
    clear hK K
    try simp only [Act.put, List.setIfInBounds_toArray, List.set_cons_zero, List.set_cons_succ]
    refine wpAnyH_ready (rs := [7]) (by kernel_rfl) (by simp) ?_
    refine AllReadyH.cons (o := { dst := none, op := Op.store 37 (Operand.tmp 25) (Operand.tmp 21), type := 0, pos := "load.go:154", after := #[{ on := 6, ground := Ground.data }, { on := 2, ground := Ground.data }, { on := 5, ground := Ground.chain }, { on := 0, ground := Ground.phase }, { on := 1, ground := Ground.phase }, { on := 2, ground := Ground.phase }, { on := 3, ground := Ground.phase }, { on := 4, ground := Ground.phase }, { on := 5, ground := Ground.textOnly Departure.lateStoresUnsure }], guard := none }) rfl (fun K hK => ?_) AllReadyH.nil
    have cl := Xw6.out.cell 4 rfl
    have fl := Xw6.out.frozen 4
    refine if_pos_mp (by rfl) ?_
    go_wp2_with fail
    refine hK.out _ _ trivial (fun _ => ?_)
    clear hK K cl fl
    have X7 := Lib.hid (show Bx (w6.setCell ⟨G, 4, none⟩ (.slice Av5 n2 kv5)) G [c0, c1, c2, c3, .slice Av5 n2 kv5, .slice A3 n3 k3] 39 from Xw6.out.set 4 _)
    have B7 := Lib.hid ((But.of_below (S := [G]) Bw6.out).set ⟨G, 4, none⟩ (.inl (by simp)) (.slice Av5 n2 kv5))
    have T7 := Lib.hid (Kept.of_but (ok := fun g => w2.heap.size ≤ g) ((But.refl w6.heap.size [G] w6).set ⟨G, 4, none⟩ (.inl (by simp)) (.slice Av5 n2 kv5)) (fun g hg hm => by simp at hg hm; omega))
    generalize w6.setCell ⟨G, 4, none⟩ (.slice Av5 n2 kv5) = w7 at *
    try simp only [Act.put, List.setIfInBounds_toArray, List.set_cons_zero, List.set_cons_succ]
    refine wpAnyH_take (i := 8) (oi := { dst := some 26, op := Op.fieldAddr 39 (Operand.tmp 5) 5, type := 0, pos := "load.go:154", after := #[{ on := 0, ground := Ground.phase }, { on := 1, ground := Ground.phase }, { on := 2, ground := Ground.phase }, { on := 3, ground := Ground.phase }, { on := 4, ground := Ground.phase }, { on := 5, ground := Ground.phase }, { on := 6, ground := Ground.phase }, { on := 7, ground := Ground.phase }], guard := none }) (v := .pointer (some ⟨G, 5, none⟩)) rfl (by kernel_rfl) (by kernel_rfl) (by kernel_rfl) (fun _ _ _ h => hQ _ _ _ _ _ h) (Or.inl ⟨by rfl, fun w' hw' => ?_⟩) trivial ?_
    · go_simp
    try simp only [Act.put, List.setIfInBounds_toArray, List.set_cons_zero, List.set_cons_succ]
    refine wpAnyH_ready (rs := [9]) (by kernel_rfl) (by simp) ?_
    refine AllReadyH.cons (o := { dst := none, op := Op.store 37 (Operand.tmp 26) (Operand.tmp 24), type := 0, pos := "load.go:154", after := #[{ on := 8, ground := Ground.data }, { on := 5, ground := Ground.data }, { on := 7, ground := Ground.chain }, { on := 0, ground := Ground.phase }, { on := 1, ground := Ground.phase }, { on := 2, ground := Ground.phase }, { on := 3, ground := Ground.phase }, { on := 4, ground := Ground.phase }, { on := 5, ground := Ground.phase }, { on := 6, ground := Ground.phase }, { on := 7, ground := Ground.phase }], guard := none }) rfl (fun K hK => ?_) AllReadyH.nil
    have cl := X7.out.cell 5 rfl
    have fl := X7.out.frozen 5
    refine if_pos_mp (by rfl) ?_
    go_wp2_with fail
    refine hK.out _ _ trivial (fun _ => ?_)
    clear hK K cl fl
    have X9 := Lib.hid (show Bx (w7.setCell ⟨G, 5, none⟩ (.slice Av6 n3 kv6)) G [c0, c1, c2, c3, .slice Av5 n2 kv5, .slice Av6 n3 kv6] 39 from X7.out.set 5 _)
    have B9 := Lib.hid (B7.out.set ⟨G, 5, none⟩ (.inl (by simp)) (.slice Av6 n3 kv6))
    have T9 := Lib.hid (Kept.of_but (ok := fun g => w2.heap.size ≤ g) ((But.refl w7.heap.size [G] w7).set ⟨G, 5, none⟩ (.inl (by simp)) (.slice Av6 n3 kv6)) (fun g hg hm => by simp at hg hm; omega))
    generalize w7.setCell ⟨G, 5, none⟩ (.slice Av6 n3 kv6) = w9 at *
    refine wpAnyH_done (by kernel_rfl) ?_ _
    try simp only [Act.put, List.setIfInBounds_toArray, List.set_cons_zero, List.set_cons_succ]
    exact hfin _ _ _ _ _ X9.out B9.out ((((Sv5.out.keep (Kept.of_below B6.out)).keep T7.out)).keep T9.out) ((Sv6.out.keep T7.out).keep T9.out)
  refine wpAnyH_ready (rs := [1, 4]) (by kernel_rfl) (by simp) ?_
  refine AllReadyH.cons (o := { dst := some 20, op := Op.load 37 (Operand.tmp 19), type := 37, pos := "load.go:154", after := #[{ on := 0, ground := Ground.data }], guard := none }) rfl (fun K hK => ?_) (AllReadyH.cons (o := { dst := some 23, op := Op.load 37 (Operand.tmp 22), type := 37, pos := "load.go:154", after := #[{ on := 3, ground := Ground.data }], guard := none }) rfl (fun K hK => ?_) AllReadyH.nil)
  · have cl := X3.out.cell 4 rfl
    refine if_pos_mp (by rfl) ?_
    go_wp2_with fail
    refine hK.out _ _ trivial (fun _ => ?_)
    clear hK K cl
    try simp only [Act.put, List.setIfInBounds_toArray, List.set_cons_zero, List.set_cons_succ]
    refine wpAnyH_ready (rs := [2, 4]) (by kernel_rfl) (by simp) ?_
    refine AllReadyH.cons (o := { dst := some 21, op := Op.call { callee := Callee.value (Operand.func 28), args := #[Operand.tmp 20], argTypes := #[37] }, type := 37, pos := "load.go:154", after := #[{ on := 1, ground := Ground.data }], guard := none }) rfl (fun K hK => ?_) (AllReadyH.cons (o := { dst := some 23, op := Op.load 37 (Operand.tmp 22), type := 37, pos := "load.go:154", after := #[{ on := 3, ground := Ground.data }], guard := none }) rfl (fun K hK => ?_) AllReadyH.nil)
    · have SK := Lib.hid (S2.out.keep (Kept.of_below B3.out))
      go_wp2_with (go_at_call 28; refine stop_here ?_)
      refine go_on ?_
      refine (members_any _ n2 cs2 _ _ SK.out O2.out).mono ?_
      rintro e w4 ⟨v5, rfl, hsv5, hbv5⟩
      have Xw4 := Lib.hid (X3.out.below hbv5 X3.out.lt)
      have Bw4 := Lib.hid (B3.out.trans (hbv5.mono B3.out.size))
      obtain ⟨Av5, kv5, rfl, _⟩ := sl_len hsv5
      have Sv5 := Lib.hid (hsv5.mono (ok' := fun g => w2.heap.size ≤ g) (fun g _ hg => Nat.le_trans B3.out.size hg))
      clear hsv5 hbv5 SK
      refine hK.out _ _ trivial (fun _ => ?_)
      clear hK K
      try simp only [Act.put, List.setIfInBounds_toArray, List.set_cons_zero, List.set_cons_succ]
      refine wpAnyH_ready (rs := [4]) (by kernel_rfl) (by simp) ?_
      refine AllReadyH.cons (o := { dst := some 23, op := Op.load 37 (Operand.tmp 22), type := 37, pos := "load.go:154", after := #[{ on := 3, ground := Ground.data }], guard := none }) rfl (fun K hK => ?_) AllReadyH.nil
      have cl := Xw4.out.cell 5 rfl
      refine if_pos_mp (by rfl) ?_
      go_wp2_with fail
      refine hK.out _ _ trivial (fun _ => ?_)
      clear hK K cl
      try simp only [Act.put, List.setIfInBounds_toArray, List.set_cons_zero, List.set_cons_succ]
      refine wpAnyH_at (L' := #[true, true, true, true, true, false, false, false, false, false]) (by kernel_rfl) ?_
      exact tail _ _ _ Xw4 Bw4 Sv5
    · have cl := X3.out.cell 5 rfl
      refine if_pos_mp (by rfl) ?_
      go_wp2_with fail
      refine hK.out _ _ trivial (fun _ => ?_)
      clear hK K cl
      try simp only [Act.put, List.setIfInBounds_toArray, List.set_cons_zero, List.set_cons_succ]
      refine wpAnyH_ready (rs := [2]) (by kernel_rfl) (by simp) ?_
      refine AllReadyH.cons (o := { dst := some 21, op := Op.call { callee := Callee.value (Operand.func 28), args := #[Operand.tmp 20], argTypes := #[37] }, type := 37, pos := "load.go:154", after := #[{ on := 1, ground := Ground.data }], guard := none }) rfl (fun K hK => ?_) AllReadyH.nil
      have SK := Lib.hid (S2.out.keep (Kept.of_below B3.out))
      go_wp2_with (go_at_call 28; refine stop_here ?_)
      refine go_on ?_
      refine (members_any _ n2 cs2 _ _ SK.out O2.out).mono ?_
      rintro e w4 ⟨v5, rfl, hsv5, hbv5⟩
      have Xw4 := Lib.hid (X3.out.below hbv5 X3.out.lt)
      have Bw4 := Lib.hid (B3.out.trans (hbv5.mono B3.out.size))
      obtain ⟨Av5, kv5, rfl, _⟩ := sl_len hsv5
      have Sv5 := Lib.hid (hsv5.mono (ok' := fun g => w2.heap.size ≤ g) (fun g _ hg => Nat.le_trans B3.out.size hg))
      clear hsv5 hbv5 SK
      refine hK.out _ _ trivial (fun _ => ?_)
      clear hK K
      try simp only [Act.put, List.setIfInBounds_toArray, List.set_cons_zero, List.set_cons_succ]
      refine wpAnyH_at (L' := #[true, true, true, true, true, false, false, false, false, false]) (by kernel_rfl) ?_
      exact tail _ _ _ Xw4 Bw4 Sv5
  · have cl := X3.out.cell 5 rfl
    refine if_pos_mp (by rfl) ?_
    go_wp2_with fail
    refine hK.out _ _ trivial (fun _ => ?_)
    clear hK K cl
    try simp only [Act.put, List.setIfInBounds_toArray, List.set_cons_zero, List.set_cons_succ]
    refine wpAnyH_ready (rs := [1]) (by kernel_rfl) (by simp) ?_
    refine AllReadyH.cons (o := { dst := some 20, op := Op.load 37 (Operand.tmp 19), type := 37, pos := "load.go:154", after := #[{ on := 0, ground := Ground.data }], guard := none }) rfl (fun K hK => ?_) AllReadyH.nil
    have cl := X3.out.cell 4 rfl
    refine if_pos_mp (by rfl) ?_
    go_wp2_with fail
    refine hK.out _ _ trivial (fun _ => ?_)
    clear hK K cl
    try simp only [Act.put, List.setIfInBounds_toArray, List.set_cons_zero, List.set_cons_succ]
    refine wpAnyH_ready (rs := [2]) (by kernel_rfl) (by simp) ?_
    refine AllReadyH.cons (o := { dst := some 21, op := Op.call { callee := Callee.value (Operand.func 28), args := #[Operand.tmp 20], argTypes := #[37] }, type := 37, pos := "load.go:154", after := #[{ on := 1, ground := Ground.data }], guard := none }) rfl (fun K hK => ?_) AllReadyH.nil
    have SK := Lib.hid (S2.out.keep (Kept.of_below B3.out))
    go_wp2_with (go_at_call 28; refine stop_here ?_)
    refine go_on ?_
    refine (members_any _ n2 cs2 _ _ SK.out O2.out).mono ?_
    rintro e w4 ⟨v5, rfl, hsv5, hbv5⟩
    have Xw4 := Lib.hid (X3.out.below hbv5 X3.out.lt)
    have Bw4 := Lib.hid (B3.out.trans (hbv5.mono B3.out.size))
    obtain ⟨Av5, kv5, rfl, _⟩ := sl_len hsv5
    have Sv5 := Lib.hid (hsv5.mono (ok' := fun g => w2.heap.size ≤ g) (fun g _ hg => Nat.le_trans B3.out.size hg))
    clear hsv5 hbv5 SK
    refine hK.out _ _ trivial (fun _ => ?_)
    clear hK K
    try simp only [Act.put, List.setIfInBounds_toArray, List.set_cons_zero, List.set_cons_succ]
    refine wpAnyH_at (L' := #[true, true, true, true, true, false, false, false, false, false]) (by kernel_rfl) ?_
    exact tail _ _ _ Xw4 Bw4 Sv5
end Go.Proofs.YtdbniocnjhfhdaaGreatDoor

set_option linter.unusedSimpArgs false
set_option linter.unusedVariables false
set_option maxRecDepth 100000
set_option maxHeartbeats 1000000
namespace Go.Proofs.YtdbniocnjhfhdaaGreatDoor
open Go Go.RowKit Lib Go.Maps
def IfsAt (M : Nat) (o : Value) (us : List TyV) (w : World) : Prop := ∀ t ∈ us, SlAt w (fun g => M ≤ g ∧ o.ownBlock ≠ some g) 1 t.ifl.length t.ifCells t.ifs
theorem IfsAt.next {M n c g3 : Nat} {o : Value} {us : List TyV} {t : TyV} {w wa wz : World} (h : IfsAt M o us w) (hb : Below w.heap.size w wa) (ho : ∀ g, o.ownBlock = some g → g < w.heap.size) (hg : wa.grownBy wz o.ownBlock) (hgg : o.ownBlock = some g3 ∨ g3 = wa.heap.size)
    (ht : SlAt wa (fun g => w.heap.size ≤ g) 1 t.ifl.length t.ifCells t.ifs) (hM : M ≤ w.heap.size) : IfsAt M (.slice (some ⟨g3, 0, none⟩) n c) (us ++ [t]) wz := by
  have hs := hb.size
  have hk : Kept (fun g => o.ownBlock ≠ some g) wa wz := ⟨hg.size, fun g hgl hok off => World.cell?_of_block (w := wa) (hg.block g hgl (fun e => hok e.symm))⟩
  have last : ∀ u : TyV, SlAt wa (fun g => M ≤ g ∧ o.ownBlock ≠ some g) 1 u.ifl.length u.ifCells u.ifs → SlAt wz (fun g => M ≤ g ∧ (Value.slice (some ⟨g3, 0, none⟩) n c).ownBlock ≠ some g) 1 u.ifl.length u.ifCells u.ifs := fun u hu => by
    refine ((hu.mono (ok' := fun g => (M ≤ g ∧ o.ownBlock ≠ some g) ∧ g < wa.heap.size) fun g hgl hok => ⟨hok, hgl⟩).keep (hk.mono fun g hg => hg.1.2)).mono fun g _ hok => ⟨hok.1.1, fun e => ?_⟩
    have e' : g3 = g := by simpa [Value.ownBlock] using e
    subst e'
    rcases hgg with hgg | hgg
    · exact hok.1.2 hgg
    · have := hok.2
      omega
  intro u hu
  rcases List.mem_append.1 hu with hu | hu
  · exact last u ((h u hu).keep (Kept.of_below hb))
  · obtain rfl : u = t := by simpa using hu
    exact last u (ht.mono fun g _ hg => ⟨by omega, fun e => by have := ho g e; omega⟩)
theorem ltypes_all {B : Nat} {L : LPos} {nd : Nat} {defs : List UInt8 → Option (List UInt8)} {files : List UInt8 → Option ClassV} {ks going : List (List UInt8)} {ts : List TyV} {v : Value} {W : World} (h : LdG B L nd defs files ks going ts v W) (h0 : 0 < ts.length) (hn : ts.length ≤ 1000) :
    Calls Tryz.prog 14 #[.pointer (some ⟨L.lb, 0, none⟩)] W fun e w' => ∃ ov ts', e = .returned ov ∧ w'.ownsRow W.heap.size 39 6 ov ts.length (tyCells ts') ∧ ts'.map TyV.key = ts.map TyV.key ∧ (∀ t ∈ ts', SlAt w' (fun g => W.heap.size ≤ g ∧ ov.ownBlock ≠ some g) 1 t.ifl.length t.ifCells t.ifs) ∧ Below W.heap.size W w' := by
  obtain ⟨g, cap, rfl, hcap, hg, hcell⟩ := h.rows h0
  have C4 := h.c4
  have hlt := h.lt
  have HC := Lib.hid hcell
  have HR := Lib.hid h.rd
  clear hcell h
  go_enter Tryz.func14, Tryz.ntmps14
  go_wp2_with fail
  go_loopw [3, 11] (fun o i wr => ∃ (k : Nat) (us : List TyV), k ≤ ts.length ∧ i = .int .i64 k ∧ Hid (wr.ownsRow W.heap.size 39 6 o k (tyCells us)) ∧ Hid (us.map TyV.key = (ts.take k).map TyV.key) ∧ Hid (Below W.heap.size W wr) ∧ Hid (IfsAt W.heap.size o us wr)) (fun _ i _ => ts.length - (RowKit.intOf i).toNat)
  case atStart => exact ⟨0, [], by omega, rfl, Lib.hid (World.ownsRow_nil _ _ _ _), Lib.hid rfl, Lib.hid (Below.refl _ _), Lib.hid (by intro t ht; cases ht)⟩
  case round =>
    obtain ⟨k, us, hk, rfl, HO, HU, HB, HIF⟩ := hrel
    by_cases hlt2 : k < ts.length
    · obtain ⟨t, ht⟩ : ∃ t, ts[k]? = some t := ⟨_, List.getElem?_eq_getElem hlt2⟩
      have hrd := HR.out t (List.mem_of_getElem? ht)
      have hown := fun q (hq : q < 6) => (HB.out.cell (p := ⟨g, k * 6 + q, none⟩) hg).trans (HC.out k t ht q hq)
      have HT := Lib.hid ht
      obtain ⟨nm, sp, ac, i1, f1, m1, il⟩ := t
      obtain ⟨s1', ⟨n2, cs2, s2, o2⟩, ⟨n3, cs3, s3, o3⟩⟩ := hrd
      obtain ⟨n1, hn1⟩ : ∃ n, il.length = n := ⟨_, rfl⟩
      obtain ⟨cs1, hcs1⟩ : ∃ cs, TyV.ifCells ⟨nm, sp, ac, i1, f1, m1, il⟩ = cs := ⟨_, rfl⟩
      have s1 := s1'
      have o1 : ∀ u ∈ cs1, u.oneCell' = true := by rw [← hcs1]; intro u hu; obtain ⟨x, _, rfl⟩ := List.mem_map.1 hu; rfl
      rw [hcs1] at s1
      simp only [hn1] at s1
      have HN1 := Lib.hid hn1
      have HCS1 := Lib.hid hcs1
      clear s1' hn1 hcs1
      obtain ⟨A1, k1, h1, q1, z1⟩ := sl_len s1
      obtain ⟨A2, k2, h2, q2, z2⟩ := sl_len s2
      obtain ⟨A3, k3, h3, q3, z3⟩ := sl_len s3
      simp only at h1 h2 h3
      subst h1 h2 h3
      have q0 := hown 0 (by omega)
      have q1 := hown 1 (by omega)
      have q2 := hown 2 (by omega)
      have q3 := hown 3 (by omega)
      have q4 := hown 4 (by omega)
      have q5 := hown 5 (by omega)
      simp only [TyV.cells, List.getElem?_cons_zero, List.getElem?_cons_succ, Nat.add_zero] at q0 q1 q2 q3 q4 q5
      have hL1 : cs1.length = n1 * 1 := by
        obtain ⟨_, _, _, _, _, hl, _⟩ := s1
        exact hl
      have hzr := HB.out.size
      have S1 := Lib.hid s1
      have S2 := Lib.hid s2
      have S3 := Lib.hid s3
      have O1 := Lib.hid o1
      have O2 := Lib.hid o2
      have O3 := Lib.hid o3
      have HL1 := Lib.hid hL1
      clear s1 s2 s3 o1 o2 o3 hown ht hL1
      have X0 := Lib.hid (bx_new wr [.string ⟨nm.toArray⟩, .string ⟨sp.toArray⟩, .int .i64 ac, .slice A1 n1 k1, .slice A2 n2 k2, .slice A3 n3 k3] 39)
      have B0 := Lib.hid (HB.out.alloc hzr (.cells #[.string ⟨nm.toArray⟩, .string ⟨sp.toArray⟩, .int .i64 ac, .slice A1 n1 k1, .slice A2 n2 k2, .slice A3 n3 k3] 39))
      have SR1 := Lib.hid (S1.out.keep (Kept.of_below B0.out)).src
      go_wp2_with (at_builtin; refine wpl_own rfl _ _ 36 rfl Tryz.underlying36 info_string rfl (by omega) (wr.heap.size + 1) rfl (World.ownsRow_nil _ _ _ _) rfl HL1.out SR1.out O1.out (by simp only [maxLen]; omega) (by omega) (by simp) ?_; intro v' w' ho hgr hb; refine stop_here ?_)
      have X1 := Lib.hid (X0.out.below hb (Nat.lt_succ_self _))
      have HO1 := Lib.hid (own_eq ho (Nat.zero_add _) (List.nil_append _))
      have B1 := Lib.hid (((Below.refl wr.heap.size wr).alloc (Nat.le_refl _) (.cells #[.string ⟨nm.toArray⟩, .string ⟨sp.toArray⟩, .int .i64 ac, .slice A1 n1 k1, .slice A2 n2 k2, .slice A3 n3 k3] 39)).trans (hb.mono (Nat.le_succ _)))
      have hz1 : wr.heap.size + 1 ≤ w'.heap.size := by have := hb.size; simpa using this
      clear ho hgr hb X0 SR1
      have S4 := Lib.hid (slAt_own HO1.out (fun g => wr.heap.size + 1 ≤ g) (by omega) z1 (fun g hg => (HO1.out.lt g hg).1))
      obtain ⟨A4, k4, rfl, _⟩ := sl_len (slAt_own HO1.out (fun _ => True) (by omega) z1 (fun _ _ => trivial))
      have c3 := X1.out.cell 3 rfl
      have f3 := X1.out.frozen 3
      obtain ⟨G, hG⟩ : ∃ G, wr.heap.size = G := ⟨_, rfl⟩
      rw [hG] at X1 c3 f3 hz1 HO1 S4 ⊢
      refine go_on ?_
      go_wp2_with fail
      have X2 := Lib.hid (show Bx (w'.setCell ⟨G, 3, none⟩ (.slice A4 n1 k4)) G [.string ⟨nm.toArray⟩, .string ⟨sp.toArray⟩, .int .i64 ac, .slice A4 n1 k4, .slice A2 n2 k2, .slice A3 n3 k3] 39 from X1.out.set 3 _)
      have B2 := Lib.hid (B1.out.setCell (p := ⟨G, 3, none⟩) (Nat.le_of_eq hG) (.slice A4 n1 k4))
      have S5 := Lib.hid (S4.out.keep (Kept.of_but (ok := fun g => G + 1 ≤ g) ((But.refl w'.heap.size [G] w').set ⟨G, 3, none⟩ (.inl (by simp)) (.slice A4 n1 k4)) (fun g hg hm => by simp at hm; omega)))
      clear X1 B1 c3 f3 B0 HO1 S4
      generalize w'.setCell ⟨G, 3, none⟩ (.slice A4 n1 k4) = w2 at *
      refine region_two G _ _ _ _ _ _ _ _ _ _ _ _ _ _ _ _ _ _ _ _ _ _ _ _ _ _ _ _ _ _ _ _ _ _ _ _ A2 A3 n2 k2 n3 k3 cs2 cs3 _ _ w2 _ X2 (Lib.hid (S2.out.keep (Kept.of_below (HB.out.trans (B2.out.mono hzr))))) (Lib.hid (S3.out.keep (Kept.of_below (HB.out.trans (B2.out.mono hzr))))) O2 O3 (fun _ _ _ _ _ h => h) ?_
      intro A5 k5 A6 k6 w9 x9 b9 s5 s6
      have X9 := Lib.hid x9
      have B9 := Lib.hid (show Below wr.heap.size wr w9 from B2.out.trans ((b9.mono (S' := []) (B' := wr.heap.size) (by have := B2.out.size; omega) (fun k hk hm => by simp at hm; omega)).below))
      have S9 := Lib.hid (S5.out.keep (Kept.of_but (ok := fun g => G + 1 ≤ g) b9 (fun g hg hm => by simp at hm; omega)))
      clear x9 b9 s5 s6 X2 B2 S5
      have HO9 := Lib.hid (own_heap HO.out fun q hq => B9.out.block q ((HO.out.lt q hq).2))
      have d0 := X9.out.cell 0 rfl
      have d1 := X9.out.cell 1 rfl
      have d2 := X9.out.cell 2 rfl
      have d3 := X9.out.cell 3 rfl
      have d4 := X9.out.cell 4 rfl
      have d5 := X9.out.cell 5 rfl
      have hz9 := B9.out.size
      go_wp2_with (at_builtin; refine wpl_lies rfl _ _ 31 rfl Tryz.underlying31 info_type rfl (by omega) W.heap.size rfl (HO9.out.alloc _) rfl rfl (fun _ => ⟨_, rfl, cells_new_at _ _ _ _ rfl⟩) (by simp [Value.oneCell']) (by omega) (by simp only [maxLen]; omega) (by omega) (by simp; omega) ?_; intro g3 c3' wz ho hgr hb hgg hlt3; refine stop_here ?_)
      have HOz := Lib.hid (own_eq ho rfl (tyCells_snoc us ⟨nm, sp, ac, .slice A4 n1 k4, .slice A5 n2 k5, .slice A6 n3 k6, il⟩).symm)
      have HBz := Lib.hid (((HB.out.trans (B9.out.mono hzr)).alloc (by omega) (.cells #[.string ⟨nm.toArray⟩, .string ⟨sp.toArray⟩, .int .i64 ac, .slice A4 n1 k4, .slice A5 n2 k5, .slice A6 n3 k6] 39)).trans hb)
      have S10 := S9.out.keep (Kept.of_below ((Below.refl w9.heap.size w9).alloc (Nat.le_refl _) (.cells #[.string ⟨nm.toArray⟩, .string ⟨sp.toArray⟩, .int .i64 ac, .slice A4 n1 k4, .slice A5 n2 k5, .slice A6 n3 k6] 39)))
      have HIz := Lib.hid (HIF.out.next (t := ⟨nm, sp, ac, .slice A4 n1 k4, .slice A5 n2 k5, .slice A6 n3 k6, il⟩) (n := k + 1) (c := c3') (B9.out.trans ((Below.refl w9.heap.size w9).alloc (Nat.le_refl _) (.cells #[.string ⟨nm.toArray⟩, .string ⟨sp.toArray⟩, .int .i64 ac, .slice A4 n1 k4, .slice A5 n2 k5, .slice A6 n3 k6] 39) |>.mono hz9)) (fun g hg => (HO.out.lt g hg).2) hgr hgg (by
        show SlAt _ _ 1 il.length _ _
        rw [HN1.out]
        have := S10.mono (ok' := fun g => wr.heap.size ≤ g) (fun g _ hg => by omega)
        rw [← HCS1.out] at this
        exact this) hzr)
      clear ho hgr hb hgg S10
      refine go_on ?_
      go_wp2_with fail
      go_roundw
      case rel =>
        refine ⟨k + 1, us ++ [⟨nm, sp, ac, .slice A4 n1 k4, .slice A5 n2 k5, .slice A6 n3 k6, il⟩], by omega, by go_num, HOz, Lib.hid ?_, HBz, HIz⟩
        rw [List.map_append, HU.out, List.take_add_one, HT.out]
        simp [TyV.key]
      case measure => simp [RowKit.intOf]; omega
    · obtain rfl : k = ts.length := by omega
      go_wp2_with fail
      go_ret
      refine ⟨_, us, rfl, HO.out, ?_, HIF.out, HB.out⟩
      rw [HU.out, List.take_length]
theorem ltypes_any {B : Nat} {L : LPos} {nd : Nat} {defs : List UInt8 → Option (List UInt8)} {files : List UInt8 → Option ClassV} {ks going : List (List UInt8)} {ts : List TyV} {v : Value} {W : World} (h : LdG B L nd defs files ks going ts v W) (h0 : 0 < ts.length) (hn : ts.length ≤ 1000) :
    Calls Tryz.prog 14 #[.pointer (some ⟨L.lb, 0, none⟩)] W fun e w' => ∃ ov ts', e = .returned ov ∧ w'.ownsRow W.heap.size 39 6 ov ts.length (tyCells ts') ∧ ts'.map TyV.key = ts.map TyV.key ∧ Below W.heap.size W w' :=
  (ltypes_all h h0 hn).mono fun e w' hq => by
    obtain ⟨ov, ts', h1, h2, h3, _, h4⟩ := hq
    exact ⟨ov, ts', h1, h2, h3, h4⟩
end Go.Proofs.YtdbniocnjhfhdaaGreatDoor

set_option linter.unusedSimpArgs false
set_option linter.unusedVariables false
set_option maxRecDepth 100000
set_option maxHeartbeats 1000000
namespace Go.Proofs.YtdbniocnjhfhdaaGreatDoor
open Go Go.RowKit Lib
theorem own_down {w : World} {B B' : Nat} {e : TypeId} {size n : Nat} {v : Value} {xs : List Value} (h : w.ownsRow B e size v n xs) (hB : B' ≤ B) : w.ownsRow B' e size v n xs := by
  refine ⟨h.1, ?_⟩
  rcases h.2 with h | ⟨g, c, cur, h1, h2, h3⟩
  · exact .inl h
  · exact .inr ⟨g, c, cur, h1, Nat.le_trans hB h2, h3⟩
theorem lbytes_any (n s : ByteArray) (hn : n.size ≤ 1000) (hs : s.size ≤ 1000) (w : World) :
    Calls Tryz.prog 18 #[.string n, .string s] w fun e w' => ∃ g cap, e = .returned (.slice (some ⟨g, 0, none⟩) (36 + n.size + s.size) cap) ∧
      w'.ownsRow w.heap.size 5 1 (.slice (some ⟨g, 0, none⟩) (36 + n.size + s.size) cap) (36 + n.size + s.size) ((bareL n.data.toList s.data.toList).map bV) ∧ Below w.heap.size w w' := by
  have hp : PoolAt (w.alloc (.cells #[.int .i64 1, .string n, .int .i64 0, .int .i64 0, .int .i64 0, .int .i64 7, .string ⟨#[]⟩, .int .i64 0, .int .i64 1, .int .i64 0, .int .i64 1, .string s, .int .i64 0, .int .i64 0, .int .i64 0, .int .i64 7, .string ⟨#[]⟩, .int .i64 0, .int .i64 3, .int .i64 0] 78)) w.heap.size (four n s) := by
    have hb := bx_new w [.int .i64 1, .string n, .int .i64 0, .int .i64 0, .int .i64 0, .int .i64 7, .string ⟨#[]⟩, .int .i64 0, .int .i64 1, .int .i64 0, .int .i64 1, .string s, .int .i64 0, .int .i64 0, .int .i64 0, .int .i64 7, .string ⟨#[]⟩, .int .i64 0, .int .i64 3, .int .i64 0] 78
    intro j k hk
    have hj : j < 4 := (List.getElem?_eq_some_iff.1 hk).1
    have : j = 0 ∨ j = 1 ∨ j = 2 ∨ j = 3 := by omega
    rcases this with rfl | rfl | rfl | rfl <;> (simp only [four, List.getElem?_cons_zero, List.getElem?_cons_succ, Option.some.injEq] at hk; subst hk; exact ⟨hb.cell _ rfl, hb.cell _ rfl, hb.cell _ rfl, hb.cell _ rfl, hb.cell _ rfl⟩)
  have HP := Lib.hid hp
  have HB := Lib.hid ((Below.refl w.heap.size w).alloc (Nat.le_refl _) (.cells #[.int .i64 1, .string n, .int .i64 0, .int .i64 0, .int .i64 0, .int .i64 7, .string ⟨#[]⟩, .int .i64 0, .int .i64 1, .int .i64 0, .int .i64 1, .string s, .int .i64 0, .int .i64 0, .int .i64 0, .int .i64 7, .string ⟨#[]⟩, .int .i64 0, .int .i64 3, .int .i64 0] 78))
  clear hp
  go_enter Tryz.func18, Tryz.ntmps18
  go_wp2_with (go_at_call 31; refine stop_here ?_)
  refine go_on ?_
  refine (write4 w.heap.size 4 n s hn hs (Nat.le_refl _) _ HP.out (by simp)).mono ?_
  rintro e w2 ⟨g, cap, rfl, ho, hb⟩
  have HO := Lib.hid ho
  have HB2 := Lib.hid (HB.out.trans (hb.mono (by simp)))
  clear ho hb
  go_wp2_with fail
  go_ret
  refine ⟨g, cap, rfl, ?_, HB2.out⟩
  rw [← bareV_eq n s hn hs]
  exact own_down HO.out (by simp; omega)
end Go.Proofs.YtdbniocnjhfhdaaGreatDoor

set_option linter.unusedSimpArgs false
set_option linter.unusedVariables false
set_option maxRecDepth 100000
set_option maxHeartbeats 1000000
namespace Go.Proofs.YtdbniocnjhfhdaaGreatDoor
open Go Go.RowKit Lib
theorem textAt_le {pool : List Ko} {n : Int} {s : ByteArray} (h : textAt pool n = some s) (ht : ∀ k ∈ pool, k.text.size ≤ 65536) : s.size ≤ 65536 := by
  unfold textAt at h
  rcases hk : kindAt pool n 1 with _ | k
  · rw [hk] at h
    cases h
  · rw [hk] at h
    injection h with h
    subst h
    exact ht k (kindAt_mem hk).1
theorem constant_plain (c : ClassV) (p ifs flds mths : Value) (k : Ko) (hk : k.tag = 1 ∨ k.tag = 3) (w : World) :
    Calls Tryz.prog 125 #[bookV c p ifs flds mths, koV k] w fun e w' => e = .returned (.int .i64 0) ∧ Below w.heap.size w w' := by
  obtain ⟨tag, tx, nu, a, b⟩ := k
  simp only at hk
  rw [bookV_open]
  simp only [koV]
  have HW := Lib.hid (((Below.refl w.heap.size w).alloc (Nat.le_refl _) (.cells #[.int .i64 c.minor, .int .i64 c.major, p, .int .i64 c.acc, .int .i64 c.this, .int .i64 c.sup, ifs, flds, mths] 179)).alloc (by simp) (.cells #[.int .i64 tag, .string tx, .int .i64 nu, .int .i64 a, .int .i64 b] 78))
  rcases hk with rfl | rfl
  all_goals
    go_enter Tryz.func125, Tryz.ntmps125
    go_wp2
    go_ret
    exact ⟨rfl, HW.out⟩
def classE (pool : List Ko) (a : Int) : Int := match textAt pool a with
  | none => 20
  | some s => if classB s.data.toList then 0 else 21
theorem constant_seven (c : ClassV) (A : Option Addr) (cap : Nat) (ifs flds mths : Value) (ok : Nat → Prop) (tx : ByteArray) (nu a b : Int) (w : World) (h : BookOk w ok c A cap ifs flds mths) (hn : Fine a) (ht : ∀ k ∈ c.pool, k.text.size ≤ 65536) :
    Calls Tryz.prog 125 #[bookV c (.slice A c.pool.length cap) ifs flds mths, koV ⟨7, tx, nu, a, b⟩] w fun e w' => e = .returned (.int .i64 (classE c.pool a)) ∧ Below w.heap.size w w' := by
  have HW0 := Lib.hid (((Below.refl w.heap.size w).alloc (Nat.le_refl _) (.cells #[.int .i64 c.minor, .int .i64 c.major, .slice A c.pool.length cap, .int .i64 c.acc, .int .i64 c.this, .int .i64 c.sup, ifs, flds, mths] 179)).alloc (by simp) (.cells #[.int .i64 7, .string tx, .int .i64 nu, .int .i64 a, .int .i64 b] 78))
  have H0 := Lib.hid (h.below HW0.out)
  have HN := Lib.hid hn
  rcases hx : textAt c.pool a with _ | s
  · have HX := Lib.hid hx
    have HP := Lib.hid (show classE c.pool a = 20 by unfold classE; rw [hx])
    clear h hn hx
    rw [bookV_open]
    simp only [koV]
    go_enter Tryz.func125, Tryz.ntmps125
    go_wp2_with (go_at_call 97; refine (text_book c A cap ifs flds mths a ok _ H0.out HN.out).mono ?_; rw [HX.out]; rintro e w1 ⟨rfl, hb⟩; simp only [optV, Option.getD_none, Option.isSome_none]; have HB := Lib.hid hb; clear hb)
    go_ret
    exact ⟨by rw [HP.out]; rfl, HW0.out.trans (HB.out.mono (by simp; omega))⟩
  · have hsz := textAt_le hx ht
    have HX := Lib.hid hx
    obtain ⟨z, hz⟩ : ∃ z, classB s.data.toList = z := ⟨_, rfl⟩
    have HC := Lib.hid fun W => class_any s W (by omega)
    rw [hz] at HC
    have HP := Lib.hid (show classE c.pool a = if z then 0 else 21 by unfold classE; rw [hx]; simp only [hz])
    clear h hn hx hz
    rw [bookV_open]
    simp only [koV]
    cases z
    all_goals
      go_enter Tryz.func125, Tryz.ntmps125
      go_wp2_with (first | (go_at_call 97; refine (text_book c A cap ifs flds mths a ok _ H0.out HN.out).mono ?_; rw [HX.out]; rintro e w1 ⟨rfl, hb⟩; simp only [optV, Option.getD_some, Option.isSome_some]; have HB := Lib.hid hb; clear hb) | (go_at_call 29; refine (HC.out _).mono ?_; rintro e w2 ⟨rfl, hb2⟩; have HB2 := Lib.hid hb2; clear hb2))
      go_ret
      exact ⟨by rw [HP.out]; rfl, (HW0.out.trans (HB.out.mono (by simp; omega))).trans (HB2.out.mono (by have := HB.out.size; simp at this; omega))⟩
end Go.Proofs.YtdbniocnjhfhdaaGreatDoor

set_option linter.unusedSimpArgs false
set_option linter.unusedVariables false
set_option maxRecDepth 100000
set_option maxHeartbeats 1000000
namespace Go.Proofs.YtdbniocnjhfhdaaGreatDoor
open Go Go.RowKit Lib
def conB (pool : List Ko) (k : Ko) : Int := if k.tag = 7 then classE pool k.a else 0
def checkB (c : ClassV) : Int := checkE (conB c.pool) (fun _ _ => 0) (fun _ _ => 0) c
theorem check_bare (c : ClassV) (p i f m : Value) (ok : Nat → Prop) (w : World) (h : ClassAt w ok c p i f m) (hn1 : Fine c.this) (hn2 : Fine c.sup) (hf : ∀ k ∈ c.pool, Fine k.a) (hfi : ∀ n ∈ c.ifs, Fine n) (hft : ∀ k ∈ c.pool, k.text.size ≤ 65536)
    (htag : ∀ k ∈ c.pool, k.tag = 1 ∨ k.tag = 3 ∨ k.tag = 7) (hfl : c.flds = []) (hml : c.mths = []) :
    Calls Tryz.prog 95 #[bookV c p i f m] w fun e w' => e = .returned (.int .i64 (checkB c)) ∧ Below w.heap.size w w' := by
  have h' := h.mono (ok' := fun g => ok g ∧ g < w.heap.size) fun g hg ho => ⟨ho, hg⟩
  refine check_any c p i f m (fun g => ok g ∧ g < w.heap.size) w h' (fun g hg => hg.2) hn1 hn2 hf hfi hft (conB c.pool) (fun _ _ => 0) (fun _ _ => 0) (fun _ _ _ => True) (fun _ _ _ => True) ⟨fun _ _ _ => trivial, fun _ _ _ _ _ _ => trivial⟩ ⟨fun _ _ _ => trivial, fun _ _ _ _ _ _ => trivial⟩ (fun k hk W hW => ?_) (fun k x hx => ?_) (fun k x hx => ?_)
  · have ht := htag k hk
    unfold conB
    by_cases h7 : k.tag = 7
    · rw [if_pos h7]
      obtain ⟨tag, tx, nu, a, b⟩ := k
      simp only at h7
      subst h7
      obtain ⟨A1, k1, rfl, q1, z1⟩ := sl_len hW.hpool
      obtain ⟨A2, k2, rfl, q2, z2⟩ := sl_len hW.hifs
      obtain ⟨A3, k3, rfl, q3, z3⟩ := sl_len hW.hflds
      obtain ⟨ms, m1, m2, m3⟩ := hW.hmths
      obtain ⟨A4, k4, rfl, q4, z4⟩ := sl_len m2
      exact constant_seven c A1 k1 _ _ _ _ tx nu a b W ⟨hW.hpool, rfl, rfl, rfl⟩ (hf _ hk) hft
    · rw [if_neg h7]
      exact constant_plain c p i f m k (ht.elim Or.inl fun h => h.elim Or.inr fun h => absurd h h7) W
  · rw [hfl] at hx
    simp at hx
  · rw [hml] at hx
    simp at hx
theorem outline_plain (c : ClassV) (p i f m : Value) (ok : Nat → Prop) (w : World) (h : ClassAt w ok c p i f m) (hn1 : Fine c.this) (hn2 : Fine c.sup) (hf : ∀ k ∈ c.pool, Fine k.a) (hfi : ∀ n ∈ c.ifs, Fine n) (hft : ∀ k ∈ c.pool, k.text.size ≤ 65536)
    (htag : ∀ k ∈ c.pool, k.tag = 1 ∨ k.tag = 3 ∨ k.tag = 7) (hil : c.ifs.length ≤ 64) (hfl : c.flds = []) (hml : c.mths = []) :
    Calls Tryz.prog 68 #[bookV c p i f m] w (OutPost c (checkB c) w) :=
  outline_bare c p i f m ok w h hn1 hn2 hf hfi (checkB c) (fun W hW => check_bare c p i f m ok W hW hn1 hn2 hf hfi hft htag hfl hml) hil hfl hml
end Go.Proofs.YtdbniocnjhfhdaaGreatDoor

set_option linter.unusedSimpArgs false
set_option linter.unusedVariables false
set_option maxRecDepth 100000
namespace Go.Proofs.YtdbniocnjhfhdaaGreatDoor
open Go Go.RowKit Lib
theorem checkB_bare (n s : List UInt8) (hn : classB n = true) (hs : classB s = true) : checkB (bareC n s) = 0 := by
  have c2 : classE (bareP n s) 1 = 0 := by simp [classE, textAt, kindAt, bareP, hn]
  have c4 : classE (bareP n s) 3 = 0 := by simp [classE, textAt, kindAt, bareP, hs]
  have hF : firstE (conB (bareP n s)) (bareP n s) = 0 := by
    show firstE (conB (bareP n s)) [_, _, _, _] = 0
    simp [firstE, conB, c2, c4]
  have b1 : bits .and .i64 33 512 = 0 := by kernel_rfl
  have b2 : bits .and .i64 33 1040 = 0 := by kernel_rfl
  have hH : headE (bareC n s) = 0 := by
    simp [headE, ifsE, rulesE, missB, headBad, nameAt, textAt, kindAt, bareC, bareP, someB, allB, b1, b2]
  have hL : longC (bareC n s) = false := by simp [longC, bareC, bareP]
  unfold checkB checkE
  rw [hL, hH]
  simp [bareC, firstS, hF]
end Go.Proofs.YtdbniocnjhfhdaaGreatDoor

set_option linter.unusedSimpArgs false
set_option linter.unusedVariables false
set_option maxRecDepth 100000
namespace Go.Proofs.YtdbniocnjhfhdaaGreatDoor
open Go Go.RowKit Lib
theorem ldK_bare (defs : List UInt8 → Option (List UInt8)) (dn : List (List UInt8)) (hd : ∀ s l, defs s = some l → s ∈ dn) (hc : dn.length ≤ 64)
    (hb : ∀ s l, defs s = some l → ∃ n sp, l = bareL n sp ∧ n.length ≤ 1000 ∧ sp.length ≤ 1000) : LdK checkB defs dn where
  dom := hd
  cnt := hc
  out := fun s l hs c hr p i f m ok W h => by
    obtain ⟨n, sp, rfl, h1, h2⟩ := hb s l hs
    rw [read_bare n sp h1 h2] at hr
    injection hr with hr
    subst hr
    have hf : ∀ k ∈ (bareC n sp).pool, Fine k.a := by
      intro k hk
      simp only [bareC, bareP, List.mem_cons, List.not_mem_nil, or_false] at hk
      rcases hk with rfl | rfl | rfl | rfl <;> (unfold Fine; simp)
    have hft : ∀ k ∈ (bareC n sp).pool, k.text.size ≤ 65536 := by
      intro k hk
      simp only [bareC, bareP, List.mem_cons, List.not_mem_nil, or_false] at hk
      rcases hk with rfl | rfl | rfl | rfl <;> simp [ByteArray.size] <;> omega
    have htag : ∀ k ∈ (bareC n sp).pool, k.tag = 1 ∨ k.tag = 3 ∨ k.tag = 7 := by
      intro k hk
      simp only [bareC, bareP, List.mem_cons, List.not_mem_nil, or_false] at hk
      rcases hk with rfl | rfl | rfl | rfl <;> simp
    exact outline_plain (bareC n sp) p i f m ok W h (by unfold Fine; simp [bareC]) (by unfold Fine; simp [bareC]) hf (by simp [bareC]) hft htag (by simp [bareC]) rfl rfl
  small := fun s l c hs hr => by
    obtain ⟨n, sp, rfl, h1, h2⟩ := hb s l hs
    rw [read_bare n sp h1 h2] at hr
    injection hr with hr
    subst hr
    have e1 : (outT (bareC n sp)).sup = ⟨sp.toArray⟩ := by kernel_rfl
    have e2 : (outT (bareC n sp)).name = ⟨n.toArray⟩ := by kernel_rfl
    have e3 : (outT (bareC n sp)).ifs = [] := by kernel_rfl
    rw [e1, e2, e3]
    refine ⟨?_, ?_, by simp, by simp⟩
    · show sp.toArray.size ≤ 1048576
      rw [List.size_toArray]
      omega
    · show n.toArray.size ≤ 1048576
      rw [List.size_toArray]
      omega
end Go.Proofs.YtdbniocnjhfhdaaGreatDoor

set_option linter.unusedSimpArgs false
set_option linter.unusedVariables false
set_option maxRecDepth 100000
namespace Go.Proofs.YtdbniocnjhfhdaaGreatDoor
open Go Go.RowKit Lib
theorem outT_bare (n s : List UInt8) : (outT (bareC n s)).name = ⟨n.toArray⟩ ∧ (outT (bareC n s)).sup = ⟨s.toArray⟩ ∧ (outT (bareC n s)).acc = 33 ∧ (outT (bareC n s)).ifs = [] := ⟨by kernel_rfl, by kernel_rfl, rfl, by kernel_rfl⟩
theorem rdD_bare {defs : List UInt8 → Option (List UInt8)} {s sp : ByteArray} (hd : defs s.data.toList = some (bareL s.data.toList sp.data.toList)) (h1 : classB s.data.toList = true) (h2 : classB sp.data.toList = true) (l1 : s.size ≤ 1000) (l2 : sp.size ≤ 1000) :
    rdD checkB defs s = .ok (bareC s.data.toList sp.data.toList, outT (bareC s.data.toList sp.data.toList)) := by
  have e := (outT_bare s.data.toList sp.data.toList).1
  unfold rdD
  rw [hd]
  simp only
  unfold readQ
  rw [read_bare _ _ (by simpa using l1) (by simpa using l2)]
  simp only
  rw [checkB_bare _ _ h1 h2, if_neg (by decide), if_neg (by simp), if_pos]
  rw [e]
theorem rdD_none {defs : List UInt8 → Option (List UInt8)} {s : ByteArray} (hd : defs s.data.toList = none) : rdD checkB defs s = .error noDefB := by
  unfold rdD
  rw [hd]
theorem load_step {rd : ByteArray → Except ByteArray (ClassV × TypV)} {n : Nat} {going : List (List UInt8)} {σ : LT} {s : ByteArray} {c : ClassV} {t : TypV} (h1 : s.data.toList ∉ σ.names) (h2 : s.data.toList ∉ going) (h3 : rd s = .ok (c, t)) (h4 : t.ifs = []) :
    loadP rd (n + 1) going σ s = match aboveW (loadP rd n (going ++ [s.data.toList])) σ s t.sup false with
      | (some e, σ1) => (some e, σ1)
      | (none, σ1) => (none, lastW s c t σ1) := by
  rw [loadP, if_neg h1, if_neg h2, h3]
  simp only [h4, facesW]
  rcases aboveW (loadP rd n (going ++ [s.data.toList])) σ s t.sup false with ⟨_ | e, σ1⟩ <;> rfl
theorem load_known {rd : ByteArray → Except ByteArray (ClassV × TypV)} {n : Nat} {going : List (List UInt8)} {σ : LT} {s : ByteArray} (h1 : s.data.toList ∈ σ.names) : loadP rd (n + 1) going σ s = (none, σ) := by rw [loadP, if_pos h1]
theorem load_circ {rd : ByteArray → Except ByteArray (ClassV × TypV)} {n : Nat} {going : List (List UInt8)} {σ : LT} {s : ByteArray} (h1 : s.data.toList ∉ σ.names) (h2 : s.data.toList ∈ going) : loadP rd (n + 1) going σ s = (some circB, σ) := by rw [loadP, if_neg h1, if_pos h2]
theorem load_bad {rd : ByteArray → Except ByteArray (ClassV × TypV)} {n : Nat} {going : List (List UInt8)} {σ : LT} {s e : ByteArray} (h1 : s.data.toList ∉ σ.names) (h2 : s.data.toList ∉ going) (h3 : rd s = .error e) : loadP rd (n + 1) going σ s = (some e, σ) := by rw [loadP, if_neg h1, if_neg h2, h3]
def Path (rd : ByteArray → Except ByteArray (ClassV × TypV)) : List ByteArray → ByteArray → Prop
  | [], _ => True
  | x :: r, z => (∃ c t, rd x = .ok (c, t) ∧ t.name = x ∧ t.sup = r.headD z ∧ t.ifs = [] ∧ t.acc = 33) ∧ Path rd r z
def dl (s : ByteArray) : List UInt8 := s.data.toList
theorem path_err {rd : ByteArray → Except ByteArray (ClassV × TypV)} {σ : LT} {z e : ByteArray} : ∀ (p : List ByteArray) (going : List (List UInt8)) (f : Nat), Path rd p z → (∀ x ∈ p, dl x ∉ σ.names) → (∀ x ∈ p, dl x ∉ going) → (p.map dl).Nodup →
    loadP rd f (going ++ p.map dl) σ z = (some e, σ) → loadP rd (p.length + f) going σ (p.headD z) = (some e, σ)
  | [], going, f, _, _, _, _, h => by simpa using h
  | x :: r, going, f, ⟨⟨c, t, h1, h2, h3, h4, h5⟩, hp⟩, hn, hg, hd, h => by
    rw [List.map_cons] at hd
    have hd' := List.nodup_cons.1 hd
    have ih := path_err r (going ++ [dl x]) f hp (fun y hy => hn y (by simp [hy])) (fun y hy => by
      rw [List.mem_append]
      rintro (h' | h')
      · exact hg y (by simp [hy]) h'
      · rw [List.mem_singleton] at h'
        exact hd'.1 (h' ▸ List.mem_map_of_mem hy)) hd'.2 (by simpa using h)
    have e1 : (x :: r).length + f = (r.length + f) + 1 := by simp; omega
    rw [e1]
    show loadP rd (r.length + f + 1) going σ x = _
    rw [load_step (hn x (by simp)) (hg x (by simp)) h1 h4]
    unfold aboveW
    rw [h3]
    unfold dl at ih
    rw [ih]
def Good (ts : List TyK) (z : ByteArray) : Prop := (∀ f, seesB ts f z = true) ∧ faceB ts z = false
theorem and33_1 : bits .and .i64 33 1 = 1 := by kernel_rfl
theorem and33_512 : bits .and .i64 33 512 = 0 := by kernel_rfl
theorem good_at {ts : List TyK} {z : ByteArray} {k : Nat} {y : List UInt8} {q : List (List UInt8)} (hk : ts[k]? = some (dl z, y, 33, q)) (hf : ∀ j, j < k → ∀ x, (ts.map (·.1))[j]? = some x → x ≠ dl z) : Good ts z := by
  have e0 : z.toList = dl z := ByteArray.toList_eq _
  have e1 : atOf (ts.map (·.1)) z.toList = k := by
    rw [e0]
    exact atOf_hit (by rw [List.getElem?_map, hk]; rfl) hf
  have e2 : accAt ts z = 33 := by
    unfold accAt
    rw [e1]
    simp [hk]
  constructor
  · intro f
    unfold seesB
    rw [e1, if_neg (by omega), e2, and33_1, if_pos rfl]
  · unfold faceB
    rw [e2, and33_512]
    rfl
theorem path_ok {rd : ByteArray → Except ByteArray (ClassV × TypV)} {z : ByteArray} {σ : LT} : ∀ (p : List ByteArray) (going : List (List UInt8)) (f : Nat), Path rd p z → (∀ x ∈ p, dl x ∉ σ.names) → (∀ x ∈ p, dl x ∉ going) → (p.map dl).Nodup →
    loadP rd f (going ++ p.map dl) σ z = (none, σ) → Good σ.ts z → ∃ σ', loadP rd (p.length + f) going σ (p.headD z) = (none, σ') ∧ σ'.names = σ.names ++ (p.map dl).reverse ∧ σ'.ts.length = σ.ts.length + p.length ∧ Good σ'.ts (p.headD z)
  | [], going, f, _, _, _, _, h, hz => ⟨σ, by simpa using h, by simp, by simp, hz⟩
  | x :: r, going, f, ⟨⟨c, t, h1, h2, h3, h4, h5⟩, hp⟩, hn, hg, hd, h, hz => by
    rw [List.map_cons] at hd
    have hd' := List.nodup_cons.1 hd
    obtain ⟨σ1, ih, g1, g2, g3⟩ := path_ok r (going ++ [dl x]) f hp (fun y hy => hn y (by simp [hy])) (fun y hy => by
      rw [List.mem_append]
      rintro (h' | h')
      · exact hg y (by simp [hy]) h'
      · rw [List.mem_singleton] at h'
        exact hd'.1 (h' ▸ List.mem_map_of_mem hy)) hd'.2 (by simpa using h) hz
    have e1 : (x :: r).length + f = (r.length + f) + 1 := by simp; omega
    rw [e1]
    show ∃ σ', loadP rd (r.length + f + 1) going σ x = _ ∧ _
    rw [load_step (hn x (by simp)) (hg x (by simp)) h1 h4]
    unfold aboveW
    rw [h3]
    unfold dl at ih
    rw [ih]
    simp only
    rw [g3.1 x, if_neg (by decide), g3.2, if_neg (by simp)]
    refine ⟨_, rfl, ?_, ?_, ?_⟩
    · show (σ1.ts ++ [t.key]).map (·.1) = _
      have g1' : σ1.ts.map (·.1) = σ.names ++ (r.map dl).reverse := g1
      rw [List.map_append, g1']
      simp [TypV.key, h2, dl]
    · show (σ1.ts ++ [t.key]).length = _
      simp [g2]
      omega
    · refine good_at (k := σ1.ts.length) (y := t.sup.data.toList) (q := t.ifs.map (·.data.toList)) ?_ ?_
      · show (σ1.ts ++ [t.key])[σ1.ts.length]? = _
        rw [List.getElem?_append_right (Nat.le_refl _)]
        simp [TypV.key, h2, h5, dl]
      · intro j hj y hy e
        have hy' : (σ1.ts.map (·.1))[j]? = some y := by
          have : ((σ1.ts ++ [t.key]).map (·.1))[j]? = some y := hy
          rwa [List.map_append, List.getElem?_append_left (by simpa using hj)] at this
        have hm : y ∈ σ1.names := List.mem_of_getElem? hy'
        rw [g1, e, List.mem_append] at hm
        rcases hm with hm | hm
        · exact hn x (by simp) hm
        · exact hd'.1 (by simpa using hm)
theorem path_of {rd : ByteArray → Except ByteArray (ClassV × TypV)} {z : ByteArray} : ∀ (p : List ByteArray), (∀ j x, p[j]? = some x → ∃ c t, rd x = .ok (c, t) ∧ t.name = x ∧ t.sup = (p[j + 1]?).getD z ∧ t.ifs = [] ∧ t.acc = 33) → Path rd p z
  | [], _ => trivial
  | x :: r, h => by
    refine ⟨?_, path_of r fun j y hy => by
      obtain ⟨c, t, q⟩ := h (j + 1) y (by simpa using hy)
      exact ⟨c, t, by simpa using q⟩⟩
    obtain ⟨c, t, q1, q2, q3, q4⟩ := h 0 x rfl
    refine ⟨c, t, q1, q2, ?_, q4⟩
    rw [q3]
    cases r <;> rfl
def objB : ByteArray := ⟨#[106, 97, 118, 97, 47, 108, 97, 110, 103, 47, 79, 98, 106, 101, 99, 116]⟩
theorem core_heads : ∀ k ∈ coreKeys, k.1.headD 0 = 106 ∨ k.1.headD 0 = 118 := by decide
theorem core_obj : coreKeys[0]? = some (dl objB, [], 33, []) := by decide
theorem good_obj (r : List TyK) : Good (coreKeys ++ r) objB := by
  refine good_at (k := 0) (y := []) (q := []) ?_ (fun j hj => absurd hj (Nat.not_lt_zero _))
  rw [List.getElem?_append_left (by decide)]
  exact core_obj
theorem obj_known (r : List TyK) : dl objB ∈ ((coreKeys ++ r).map (·.1)) := by
  rw [List.map_append, List.mem_append]
  exact .inl (by decide)
theorem not_core {x : List UInt8} (h : x.headD 0 ≠ 106 ∧ x.headD 0 ≠ 118) : x ∉ coreKeys.map (·.1) := by
  intro hm
  obtain ⟨k, hk, rfl⟩ := List.mem_map.1 hm
  rcases core_heads k hk with e | e
  · exact h.1 e
  · exact h.2 e
end Go.Proofs.YtdbniocnjhfhdaaGreatDoor
