/-
  The walks of ops.Encode, one a form of the table.
-/
import Derived.Test.YtgicbgeblgfnfaaTable
import Derived.Test.YtgicbgeblgfnfaaOpsB
import Derived.Test.YtgicbgeblgfnfaaEq
set_option linter.unusedSimpArgs false
set_option linter.unusedVariables false
set_option maxRecDepth 100000
set_option maxHeartbeats 4000000
namespace Go.Proofs.Ytgicbgeblgfnfaa
open Go Go.RowKit Lib
attribute [local go_sem] eq_arr2
theorem enc_e_extrab (c a b n : Int) (hc0 : 0 ≤ c) (hc1 : c < 256) (nm : List UInt8) (hrow : rowOf c = (nm, [])) (hn : nm ≠ []) (hb0 : b ≠ 0) (w : World) :
    Calls Try.prog 16 #[.agg #[.int .i64 c, .int .i64 a, .int .i64 b, .int .i64 n]] w fun e w' => e = .returned (.tuple #[.slice none 0 0, .bool false]) ∧ Below w.heap.size w w' := by
  have HT : ∀ W, Calls Try.prog 18 #[.int .i64 c] W fun e w' => e = .returned (.agg #[.string ⟨nm.toArray⟩, .string ⟨#[]⟩]) ∧ Below W.heap.size W w' := fun W => by
    have := table_any c W
    rw [hrow] at this
    exact this
  have HT' := Lib.hid HT
  clear HT
  have e0 : nm.isEmpty = false := by cases nm <;> simp_all
  clear hrow hn
  have hq : (b == 0) = false := by simp [hb0]
  have hq2 : (b != 0) = true := by simp [hb0]
  clear hb0
  go_enter Try.func16, Try.ntmps16
  go_wp2_with fail
  refine (HT'.out _).mono ?_
  rintro e w1 ⟨rfl, hb1⟩
  have hz := hb1.size
  simp only [World.size_alloc] at hz
  have HB0 := Lib.hid (((Below.refl w.heap.size w).alloc (Nat.le_refl _) _).trans (hb1.mono (by simp)))
  have d0 := hb1.cell (p := ⟨w.heap.size, 0, none⟩) (by simp)
  have d1 := hb1.cell (p := ⟨w.heap.size, 1, none⟩) (by simp)
  have d2 := hb1.cell (p := ⟨w.heap.size, 2, none⟩) (by simp)
  simp [go_sem] at d0 d1 d2
  clear hb1
  obtain ⟨y1, y2, y3, y4, y5, y6, y7, y8, y9, y10, y11, y12⟩ := far w.heap.size w1.heap.size (by omega)
  go_wp2
  refine wp_loop_rounds 1 ?_
  rw [rounds_succ]
  go_wp2_with (refine wpl_next_end (s := ⟨#[]⟩) (pos := 0) rfl rfl rfl (iter_heap_at _ _ (by simp) _ _) (by decide) ?_; simp only [World.iter])
  go_ret2
  exact ⟨rfl, (((HB0.out.alloc (by omega) _).alloc (by first | omega | (simp <;> omega)) _).alloc (by first | omega | (simp <;> omega)) _).alloc (by first | omega | (simp <;> omega)) _⟩
theorem enc_u_bad0 (c a b n : Int) (hc0 : 0 ≤ c) (hc1 : c < 256) (nm : List UInt8) (hrow : rowOf c = (nm, [117])) (hn : nm ≠ []) (hw0 : wthn 117 a = false) (w : World) :
    Calls Try.prog 16 #[.agg #[.int .i64 c, .int .i64 a, .int .i64 b, .int .i64 n]] w fun e w' => e = .returned (.tuple #[.slice none 0 0, .bool false]) ∧ Below w.heap.size w w' := by
  have HT : ∀ W, Calls Try.prog 18 #[.int .i64 c] W fun e w' => e = .returned (.agg #[.string ⟨nm.toArray⟩, .string ⟨#[117]⟩]) ∧ Below W.heap.size W w' := fun W => by
    have := table_any c W
    rw [hrow] at this
    exact this
  have HT' := Lib.hid HT
  clear HT
  have e0 : nm.isEmpty = false := by cases nm <;> simp_all
  clear hrow hn
  go_enter Try.func16, Try.ntmps16
  go_wp2_with fail
  refine (HT'.out _).mono ?_
  rintro e w1 ⟨rfl, hb1⟩
  have hz := hb1.size
  simp only [World.size_alloc] at hz
  have HB0 := Lib.hid (((Below.refl w.heap.size w).alloc (Nat.le_refl _) _).trans (hb1.mono (by simp)))
  have d0 := hb1.cell (p := ⟨w.heap.size, 0, none⟩) (by simp)
  have d1 := hb1.cell (p := ⟨w.heap.size, 1, none⟩) (by simp)
  have d2 := hb1.cell (p := ⟨w.heap.size, 2, none⟩) (by simp)
  simp [go_sem] at d0 d1 d2
  clear hb1
  obtain ⟨y1, y2, y3, y4, y5, y6, y7, y8, y9, y10, y11, y12⟩ := far w.heap.size w1.heap.size (by omega)
  go_wp2
  refine wp_loop_rounds 2 ?_
  rw [rounds_succ]
  go_wp2_with (first
    | (refine wpl_next (s := ⟨#[117]⟩) (pos := 0) rfl rfl rfl (iter_heap_at _ _ (by simp) _ _) 117 (by rfl) (by omega) ?_; intro W1 hkW1 hcW1 hfW1 hsW1 hhW1 hbW1; (try simp only [World.iter, World.size_alloc] at hcW1 hfW1 hsW1); have HOW1 := Lib.hid (own_heap (show World.ownsRow _ w.heap.size 5 1 (.slice (some ⟨w1.heap.size + 1, 0, none⟩) 1 1) 1 [.int .u8 c] by simpa using ((own_new (w1.alloc (.cells #[.string ⟨nm.toArray⟩, .string ⟨#[117]⟩] 41)) [.int .u8 c] 5 w.heap.size 1 (by first | omega | (simp <;> omega)) rfl (by simp [maxLen])).alloc (.cells #[.int .i64 a, .int .i64 b] 55)).alloc (.stringIter ⟨#[117]⟩ 0)) (fun q hq => by simp [Value.ownBlock] at hq; subst hq; exact hhW1 _ (by omega))); clear hhW1; have HBW1 := Lib.hid (((((HB0.out.alloc (by omega) _).alloc (by first | omega | (simp <;> omega)) _).alloc (by first | omega | (simp <;> omega)) _).alloc (by first | omega | (simp <;> omega)) _).trans (Below.mono (Hid.out hbW1) (by omega))))
    | (go_at_call 24; refine (within_any _ _ _).mono ?_; rintro e w9 ⟨rfl, rfl⟩)
    | (at_builtin; refine stop_here ?_) | go_in)
  go_ret2
  exact ⟨rfl, HBW1.out.setCell (p := ⟨w1.heap.size + 1 + 1, 0, none⟩) (by first | omega | (simp <;> omega)) _⟩
theorem enc_j_ok (c a b n : Int) (hc0 : 0 ≤ c) (hc1 : c < 256) (nm : List UInt8) (hrow : rowOf c = (nm, [106])) (hn : nm ≠ []) (hw0 : wthn 106 a = true) (hb0 : b = 0) (w : World) :
    Calls Try.prog 16 #[.agg #[.int .i64 c, .int .i64 a, .int .i64 b, .int .i64 n]] w fun e w' => ∃ g cap, e = .returned (.tuple #[.slice (some ⟨g, 0, none⟩) 3 cap, .bool true]) ∧ w'.ownsRow w.heap.size 5 1 (.slice (some ⟨g, 0, none⟩) 3 cap) 3 [.int .u8 c, .int .u8 (a / 256 % 256), .int .u8 (a % 256)] ∧ Below w.heap.size w w' := by
  have HT : ∀ W, Calls Try.prog 18 #[.int .i64 c] W fun e w' => e = .returned (.agg #[.string ⟨nm.toArray⟩, .string ⟨#[106]⟩]) ∧ Below W.heap.size W w' := fun W => by
    have := table_any c W
    rw [hrow] at this
    exact this
  have HT' := Lib.hid HT
  clear HT
  have e0 : nm.isEmpty = false := by cases nm <;> simp_all
  clear hrow hn
  subst hb0
  go_enter Try.func16, Try.ntmps16
  go_wp2_with fail
  refine (HT'.out _).mono ?_
  rintro e w1 ⟨rfl, hb1⟩
  have hz := hb1.size
  simp only [World.size_alloc] at hz
  have HB0 := Lib.hid (((Below.refl w.heap.size w).alloc (Nat.le_refl _) _).trans (hb1.mono (by simp)))
  have d0 := hb1.cell (p := ⟨w.heap.size, 0, none⟩) (by simp)
  have d1 := hb1.cell (p := ⟨w.heap.size, 1, none⟩) (by simp)
  have d2 := hb1.cell (p := ⟨w.heap.size, 2, none⟩) (by simp)
  simp [go_sem] at d0 d1 d2
  clear hb1
  obtain ⟨y1, y2, y3, y4, y5, y6, y7, y8, y9, y10, y11, y12⟩ := far w.heap.size w1.heap.size (by omega)
  go_wp2
  refine wp_loop_rounds 2 ?_
  rw [rounds_succ]
  go_wp2_with (first
    | (refine wpl_next (s := ⟨#[106]⟩) (pos := 0) rfl rfl rfl (iter_heap_at _ _ (by simp) _ _) 106 (by rfl) (by omega) ?_; intro W1 hkW1 hcW1 hfW1 hsW1 hhW1 hbW1; (try simp only [World.iter, World.size_alloc] at hcW1 hfW1 hsW1); have HOW1 := Lib.hid (own_heap (show World.ownsRow _ w.heap.size 5 1 (.slice (some ⟨w1.heap.size + 1, 0, none⟩) 1 1) 1 [.int .u8 c] by simpa using ((own_new (w1.alloc (.cells #[.string ⟨nm.toArray⟩, .string ⟨#[106]⟩] 41)) [.int .u8 c] 5 w.heap.size 1 (by first | omega | (simp <;> omega)) rfl (by simp [maxLen])).alloc (.cells #[.int .i64 a, .int .i64 0] 55)).alloc (.stringIter ⟨#[106]⟩ 0)) (fun q hq => by simp [Value.ownBlock] at hq; subst hq; exact hhW1 _ (by omega))); clear hhW1; have HBW1 := Lib.hid (((((HB0.out.alloc (by omega) _).alloc (by first | omega | (simp <;> omega)) _).alloc (by first | omega | (simp <;> omega)) _).alloc (by first | omega | (simp <;> omega)) _).trans (Below.mono (Hid.out hbW1) (by omega))))
    | (go_at_call 24; refine (within_any _ _ _).mono ?_; rintro e w9 ⟨rfl, rfl⟩)
    | (at_builtin; refine stop_here ?_) | go_in)
  refine go_on ?_
  refine wpl_lies (v := .slice (some ⟨w1.heap.size + 1, 0, none⟩) 1 1) rfl _ _ 22 rfl Try.underlying22 info_u8 rfl (by omega) w.heap.size rfl ((own_set HOW1.out (p := ⟨w1.heap.size + 1 + 1, 0, none⟩) (by first | omega | (simp <;> omega)) _).alloc _) rfl rfl (fun _ => ⟨_, rfl, cells_new_at _ _ _ _ (by first | omega | (simp <;> omega))⟩) (by simp [Value.oneCell']) (by omega) (by simp [maxLen]) (by omega) (by first | omega | (simp <;> omega)) ?_
  intro g1 k1 Z1 ho1 hg1 hb1 hgg1 hlt1
  have F1 := grown_facts (g := w1.heap.size + 1) hg1 rfl
  have zs1 := F1.2.2.2
  simp only [World.size_alloc, World.size_setCell] at zs1 hgg1
  simp only [Value.ownBlock, Option.some.injEq] at hgg1
  have gR1 : ¬ g1 = w1.heap.size + 1 + 1 := by omega
  have gI1 : ¬ g1 = w1.heap.size + 1 + 1 + 1 := by omega
  have gB1 : ¬ g1 = w.heap.size := by omega
  have sR1 : w1.heap.size + 1 + 1 < Z1.heap.size := by omega
  have sI1 : w1.heap.size + 1 + 1 + 1 < Z1.heap.size := by omega
  have sB1 : w.heap.size < Z1.heap.size := by omega
  have r0Z1 := (F1.1 (w1.heap.size + 1 + 1) 0 (by first | omega | (simp <;> omega)) (by omega)).trans (show _ = some (Value.int .i64 0) by simp [go_sem, *])
  have r1Z1 := (F1.1 (w1.heap.size + 1 + 1) 1 (by first | omega | (simp <;> omega)) (by omega)).trans (show _ = some (Value.int .i64 0) by simp [go_sem, *])
  have fRZ1 : ∀ o, Z1.frozen? ⟨w1.heap.size + 1 + 1, o, none⟩ = false := fun o => (F1.2.1 (w1.heap.size + 1 + 1) o (by first | omega | (simp <;> omega)) (by omega)).trans (by simp [go_sem, *])
  have o2Z1 := (F1.1 w.heap.size 2 (by first | omega | (simp <;> omega)) (by omega)).trans (show _ = some (Value.int .i64 0) by simp [go_sem, *])
  have hkZ1 : Z1.heap[w1.heap.size + 1 + 1 + 1]? = some (Obj.stringIter ⟨#[106]⟩ 1) := (F1.2.2.1 (w1.heap.size + 1 + 1 + 1) (by first | omega | (simp <;> omega)) (by omega)).trans ((Below.heap_alloc _ _ _ (by first | omega | (simp <;> omega))).trans ((Below.heap_setCell _ _ _ _ (by first | omega | (simp <;> omega))).trans hkW1))
  have HO1 := Lib.hid ho1
  clear ho1 hg1 F1 hgg1
  have HBZ1 := Lib.hid (((HBW1.out.setCell (p := ⟨w1.heap.size + 1 + 1, 0, none⟩) (by first | omega | (simp <;> omega)) _).alloc (by first | omega | (simp <;> omega)) _).trans hb1)
  clear hb1
  go_wp2_with (first
    | (refine wpl_next (s := ⟨#[106]⟩) (pos := 0) rfl rfl rfl (iter_heap_at _ _ (by simp) _ _) 106 (by rfl) (by omega) ?_; intro W1 hkW1 hcW1 hfW1 hsW1 hhW1 hbW1; (try simp only [World.iter, World.size_alloc] at hcW1 hfW1 hsW1); have HOW1 := Lib.hid (own_heap (show World.ownsRow _ w.heap.size 5 1 (.slice (some ⟨w1.heap.size + 1, 0, none⟩) 1 1) 1 [.int .u8 c] by simpa using ((own_new (w1.alloc (.cells #[.string ⟨nm.toArray⟩, .string ⟨#[106]⟩] 41)) [.int .u8 c] 5 w.heap.size 1 (by first | omega | (simp <;> omega)) rfl (by simp [maxLen])).alloc (.cells #[.int .i64 a, .int .i64 0] 55)).alloc (.stringIter ⟨#[106]⟩ 0)) (fun q hq => by simp [Value.ownBlock] at hq; subst hq; exact hhW1 _ (by omega))); clear hhW1; have HBW1 := Lib.hid (((((HB0.out.alloc (by omega) _).alloc (by first | omega | (simp <;> omega)) _).alloc (by first | omega | (simp <;> omega)) _).alloc (by first | omega | (simp <;> omega)) _).trans (Below.mono (Hid.out hbW1) (by omega))))
    | (go_at_call 24; refine (within_any _ _ _).mono ?_; rintro e w9 ⟨rfl, rfl⟩)
    | (at_builtin; refine stop_here ?_) | go_in)
  refine go_on ?_
  refine wpl_lies (v := .slice (some ⟨g1, 0, none⟩) 2 k1) rfl _ _ 22 rfl Try.underlying22 info_u8 rfl (by omega) w.heap.size rfl (HO1.out.alloc _) rfl rfl (fun _ => ⟨_, rfl, cells_new_at _ _ _ _ (by first | omega | (simp <;> omega))⟩) (by simp [Value.oneCell']) (by omega) (by simp [maxLen]) (by omega) (by first | omega | (simp <;> omega)) ?_
  intro g2 k2 Z2 ho2 hg2 hb2 hgg2 hlt2
  have F2 := grown_facts (g := g1) hg2 rfl
  have zs2 := F2.2.2.2
  simp only [World.size_alloc, World.size_setCell] at zs2 hgg2
  simp only [Value.ownBlock, Option.some.injEq] at hgg2
  have gR2 : ¬ g2 = w1.heap.size + 1 + 1 := by omega
  have gI2 : ¬ g2 = w1.heap.size + 1 + 1 + 1 := by omega
  have gB2 : ¬ g2 = w.heap.size := by omega
  have sR2 : w1.heap.size + 1 + 1 < Z2.heap.size := by omega
  have sI2 : w1.heap.size + 1 + 1 + 1 < Z2.heap.size := by omega
  have sB2 : w.heap.size < Z2.heap.size := by omega
  have r0Z2 := (F2.1 (w1.heap.size + 1 + 1) 0 (by first | omega | (simp <;> omega)) (by omega)).trans (show _ = some (Value.int .i64 0) by simp [go_sem, *])
  have r1Z2 := (F2.1 (w1.heap.size + 1 + 1) 1 (by first | omega | (simp <;> omega)) (by omega)).trans (show _ = some (Value.int .i64 0) by simp [go_sem, *])
  have fRZ2 : ∀ o, Z2.frozen? ⟨w1.heap.size + 1 + 1, o, none⟩ = false := fun o => (F2.2.1 (w1.heap.size + 1 + 1) o (by first | omega | (simp <;> omega)) (by omega)).trans (by simp [go_sem, *])
  have o2Z2 := (F2.1 w.heap.size 2 (by first | omega | (simp <;> omega)) (by omega)).trans (show _ = some (Value.int .i64 0) by simp [go_sem, *])
  have hkZ2 : Z2.heap[w1.heap.size + 1 + 1 + 1]? = some (Obj.stringIter ⟨#[106]⟩ 1) := (F2.2.2.1 (w1.heap.size + 1 + 1 + 1) (by first | omega | (simp <;> omega)) (by omega)).trans ((Below.heap_alloc _ _ _ (by first | omega | (simp <;> omega))).trans hkZ1)
  have HO2 := Lib.hid ho2
  clear ho2 hg2 F2 hgg2
  have HBZ2 := Lib.hid (((HBZ1.out).alloc (by first | omega | (simp <;> omega)) _).trans hb2)
  clear hb2
  go_wp2_with (first
    | (refine wpl_next (s := ⟨#[106]⟩) (pos := 0) rfl rfl rfl (iter_heap_at _ _ (by simp) _ _) 106 (by rfl) (by omega) ?_; intro W1 hkW1 hcW1 hfW1 hsW1 hhW1 hbW1; (try simp only [World.iter, World.size_alloc] at hcW1 hfW1 hsW1); have HOW1 := Lib.hid (own_heap (show World.ownsRow _ w.heap.size 5 1 (.slice (some ⟨w1.heap.size + 1, 0, none⟩) 1 1) 1 [.int .u8 c] by simpa using ((own_new (w1.alloc (.cells #[.string ⟨nm.toArray⟩, .string ⟨#[106]⟩] 41)) [.int .u8 c] 5 w.heap.size 1 (by first | omega | (simp <;> omega)) rfl (by simp [maxLen])).alloc (.cells #[.int .i64 a, .int .i64 0] 55)).alloc (.stringIter ⟨#[106]⟩ 0)) (fun q hq => by simp [Value.ownBlock] at hq; subst hq; exact hhW1 _ (by omega))); clear hhW1; have HBW1 := Lib.hid (((((HB0.out.alloc (by omega) _).alloc (by first | omega | (simp <;> omega)) _).alloc (by first | omega | (simp <;> omega)) _).alloc (by first | omega | (simp <;> omega)) _).trans (Below.mono (Hid.out hbW1) (by omega))))
    | (go_at_call 24; refine (within_any _ _ _).mono ?_; rintro e w9 ⟨rfl, rfl⟩)
    | (at_builtin; refine stop_here ?_) | go_in)
  rw [rounds_succ]
  go_wp2_with (refine wpl_next_end (s := ⟨#[106]⟩) (pos := 1) rfl rfl rfl (by simp [Below.heap_setCell, hkZ2]) (by decide) ?_)
  go_ret2
  exact ⟨g2, k2, rfl, own_eq HO2.out (by rfl) (by simp), HBZ2.out⟩
theorem enc_f_extrab (c a b n : Int) (hc0 : 0 ≤ c) (hc1 : c < 256) (nm : List UInt8) (hrow : rowOf c = (nm, [102])) (hn : nm ≠ []) (hw0 : wthn 102 a = true) (hb0 : b ≠ 0) (w : World) :
    Calls Try.prog 16 #[.agg #[.int .i64 c, .int .i64 a, .int .i64 b, .int .i64 n]] w fun e w' => e = .returned (.tuple #[.slice none 0 0, .bool false]) ∧ Below w.heap.size w w' := by
  have HT : ∀ W, Calls Try.prog 18 #[.int .i64 c] W fun e w' => e = .returned (.agg #[.string ⟨nm.toArray⟩, .string ⟨#[102]⟩]) ∧ Below W.heap.size W w' := fun W => by
    have := table_any c W
    rw [hrow] at this
    exact this
  have HT' := Lib.hid HT
  clear HT
  have e0 : nm.isEmpty = false := by cases nm <;> simp_all
  clear hrow hn
  have hq : (b == 0) = false := by simp [hb0]
  have hq2 : (b != 0) = true := by simp [hb0]
  clear hb0
  go_enter Try.func16, Try.ntmps16
  go_wp2_with fail
  refine (HT'.out _).mono ?_
  rintro e w1 ⟨rfl, hb1⟩
  have hz := hb1.size
  simp only [World.size_alloc] at hz
  have HB0 := Lib.hid (((Below.refl w.heap.size w).alloc (Nat.le_refl _) _).trans (hb1.mono (by simp)))
  have d0 := hb1.cell (p := ⟨w.heap.size, 0, none⟩) (by simp)
  have d1 := hb1.cell (p := ⟨w.heap.size, 1, none⟩) (by simp)
  have d2 := hb1.cell (p := ⟨w.heap.size, 2, none⟩) (by simp)
  simp [go_sem] at d0 d1 d2
  clear hb1
  obtain ⟨y1, y2, y3, y4, y5, y6, y7, y8, y9, y10, y11, y12⟩ := far w.heap.size w1.heap.size (by omega)
  go_wp2
  refine wp_loop_rounds 2 ?_
  rw [rounds_succ]
  go_wp2_with (first
    | (refine wpl_next (s := ⟨#[102]⟩) (pos := 0) rfl rfl rfl (iter_heap_at _ _ (by simp) _ _) 102 (by rfl) (by omega) ?_; intro W1 hkW1 hcW1 hfW1 hsW1 hhW1 hbW1; (try simp only [World.iter, World.size_alloc] at hcW1 hfW1 hsW1); have HOW1 := Lib.hid (own_heap (show World.ownsRow _ w.heap.size 5 1 (.slice (some ⟨w1.heap.size + 1, 0, none⟩) 1 1) 1 [.int .u8 c] by simpa using ((own_new (w1.alloc (.cells #[.string ⟨nm.toArray⟩, .string ⟨#[102]⟩] 41)) [.int .u8 c] 5 w.heap.size 1 (by first | omega | (simp <;> omega)) rfl (by simp [maxLen])).alloc (.cells #[.int .i64 a, .int .i64 b] 55)).alloc (.stringIter ⟨#[102]⟩ 0)) (fun q hq => by simp [Value.ownBlock] at hq; subst hq; exact hhW1 _ (by omega))); clear hhW1; have HBW1 := Lib.hid (((((HB0.out.alloc (by omega) _).alloc (by first | omega | (simp <;> omega)) _).alloc (by first | omega | (simp <;> omega)) _).alloc (by first | omega | (simp <;> omega)) _).trans (Below.mono (Hid.out hbW1) (by omega))))
    | (go_at_call 24; refine (within_any _ _ _).mono ?_; rintro e w9 ⟨rfl, rfl⟩)
    | (at_builtin; refine stop_here ?_) | go_in)
  refine go_on ?_
  refine wpl_lies (v := .slice (some ⟨w1.heap.size + 1, 0, none⟩) 1 1) rfl _ _ 22 rfl Try.underlying22 info_u8 rfl (by omega) w.heap.size rfl ((own_set HOW1.out (p := ⟨w1.heap.size + 1 + 1, 0, none⟩) (by first | omega | (simp <;> omega)) _).alloc _) rfl rfl (fun _ => ⟨_, rfl, cells_new_at _ _ _ _ (by first | omega | (simp <;> omega))⟩) (by simp [Value.oneCell']) (by omega) (by simp [maxLen]) (by omega) (by first | omega | (simp <;> omega)) ?_
  intro g1 k1 Z1 ho1 hg1 hb1 hgg1 hlt1
  have F1 := grown_facts (g := w1.heap.size + 1) hg1 rfl
  have zs1 := F1.2.2.2
  simp only [World.size_alloc, World.size_setCell] at zs1 hgg1
  simp only [Value.ownBlock, Option.some.injEq] at hgg1
  have gR1 : ¬ g1 = w1.heap.size + 1 + 1 := by omega
  have gI1 : ¬ g1 = w1.heap.size + 1 + 1 + 1 := by omega
  have gB1 : ¬ g1 = w.heap.size := by omega
  have sR1 : w1.heap.size + 1 + 1 < Z1.heap.size := by omega
  have sI1 : w1.heap.size + 1 + 1 + 1 < Z1.heap.size := by omega
  have sB1 : w.heap.size < Z1.heap.size := by omega
  have r0Z1 := (F1.1 (w1.heap.size + 1 + 1) 0 (by first | omega | (simp <;> omega)) (by omega)).trans (show _ = some (Value.int .i64 0) by simp [go_sem, *])
  have r1Z1 := (F1.1 (w1.heap.size + 1 + 1) 1 (by first | omega | (simp <;> omega)) (by omega)).trans (show _ = some (Value.int .i64 b) by simp [go_sem, *])
  have fRZ1 : ∀ o, Z1.frozen? ⟨w1.heap.size + 1 + 1, o, none⟩ = false := fun o => (F1.2.1 (w1.heap.size + 1 + 1) o (by first | omega | (simp <;> omega)) (by omega)).trans (by simp [go_sem, *])
  have o2Z1 := (F1.1 w.heap.size 2 (by first | omega | (simp <;> omega)) (by omega)).trans (show _ = some (Value.int .i64 b) by simp [go_sem, *])
  have hkZ1 : Z1.heap[w1.heap.size + 1 + 1 + 1]? = some (Obj.stringIter ⟨#[102]⟩ 1) := (F1.2.2.1 (w1.heap.size + 1 + 1 + 1) (by first | omega | (simp <;> omega)) (by omega)).trans ((Below.heap_alloc _ _ _ (by first | omega | (simp <;> omega))).trans ((Below.heap_setCell _ _ _ _ (by first | omega | (simp <;> omega))).trans hkW1))
  have HO1 := Lib.hid ho1
  clear ho1 hg1 F1 hgg1
  have HBZ1 := Lib.hid (((HBW1.out.setCell (p := ⟨w1.heap.size + 1 + 1, 0, none⟩) (by first | omega | (simp <;> omega)) _).alloc (by first | omega | (simp <;> omega)) _).trans hb1)
  clear hb1
  go_wp2_with (first
    | (refine wpl_next (s := ⟨#[102]⟩) (pos := 0) rfl rfl rfl (iter_heap_at _ _ (by simp) _ _) 102 (by rfl) (by omega) ?_; intro W1 hkW1 hcW1 hfW1 hsW1 hhW1 hbW1; (try simp only [World.iter, World.size_alloc] at hcW1 hfW1 hsW1); have HOW1 := Lib.hid (own_heap (show World.ownsRow _ w.heap.size 5 1 (.slice (some ⟨w1.heap.size + 1, 0, none⟩) 1 1) 1 [.int .u8 c] by simpa using ((own_new (w1.alloc (.cells #[.string ⟨nm.toArray⟩, .string ⟨#[102]⟩] 41)) [.int .u8 c] 5 w.heap.size 1 (by first | omega | (simp <;> omega)) rfl (by simp [maxLen])).alloc (.cells #[.int .i64 a, .int .i64 b] 55)).alloc (.stringIter ⟨#[102]⟩ 0)) (fun q hq => by simp [Value.ownBlock] at hq; subst hq; exact hhW1 _ (by omega))); clear hhW1; have HBW1 := Lib.hid (((((HB0.out.alloc (by omega) _).alloc (by first | omega | (simp <;> omega)) _).alloc (by first | omega | (simp <;> omega)) _).alloc (by first | omega | (simp <;> omega)) _).trans (Below.mono (Hid.out hbW1) (by omega))))
    | (go_at_call 24; refine (within_any _ _ _).mono ?_; rintro e w9 ⟨rfl, rfl⟩)
    | (at_builtin; refine stop_here ?_) | go_in)
  refine go_on ?_
  refine wpl_lies (v := .slice (some ⟨g1, 0, none⟩) 2 k1) rfl _ _ 22 rfl Try.underlying22 info_u8 rfl (by omega) w.heap.size rfl (HO1.out.alloc _) rfl rfl (fun _ => ⟨_, rfl, cells_new_at _ _ _ _ (by first | omega | (simp <;> omega))⟩) (by simp [Value.oneCell']) (by omega) (by simp [maxLen]) (by omega) (by first | omega | (simp <;> omega)) ?_
  intro g2 k2 Z2 ho2 hg2 hb2 hgg2 hlt2
  have F2 := grown_facts (g := g1) hg2 rfl
  have zs2 := F2.2.2.2
  simp only [World.size_alloc, World.size_setCell] at zs2 hgg2
  simp only [Value.ownBlock, Option.some.injEq] at hgg2
  have gR2 : ¬ g2 = w1.heap.size + 1 + 1 := by omega
  have gI2 : ¬ g2 = w1.heap.size + 1 + 1 + 1 := by omega
  have gB2 : ¬ g2 = w.heap.size := by omega
  have sR2 : w1.heap.size + 1 + 1 < Z2.heap.size := by omega
  have sI2 : w1.heap.size + 1 + 1 + 1 < Z2.heap.size := by omega
  have sB2 : w.heap.size < Z2.heap.size := by omega
  have r0Z2 := (F2.1 (w1.heap.size + 1 + 1) 0 (by first | omega | (simp <;> omega)) (by omega)).trans (show _ = some (Value.int .i64 0) by simp [go_sem, *])
  have r1Z2 := (F2.1 (w1.heap.size + 1 + 1) 1 (by first | omega | (simp <;> omega)) (by omega)).trans (show _ = some (Value.int .i64 b) by simp [go_sem, *])
  have fRZ2 : ∀ o, Z2.frozen? ⟨w1.heap.size + 1 + 1, o, none⟩ = false := fun o => (F2.2.1 (w1.heap.size + 1 + 1) o (by first | omega | (simp <;> omega)) (by omega)).trans (by simp [go_sem, *])
  have o2Z2 := (F2.1 w.heap.size 2 (by first | omega | (simp <;> omega)) (by omega)).trans (show _ = some (Value.int .i64 b) by simp [go_sem, *])
  have hkZ2 : Z2.heap[w1.heap.size + 1 + 1 + 1]? = some (Obj.stringIter ⟨#[102]⟩ 1) := (F2.2.2.1 (w1.heap.size + 1 + 1 + 1) (by first | omega | (simp <;> omega)) (by omega)).trans ((Below.heap_alloc _ _ _ (by first | omega | (simp <;> omega))).trans hkZ1)
  have HO2 := Lib.hid ho2
  clear ho2 hg2 F2 hgg2
  have HBZ2 := Lib.hid (((HBZ1.out).alloc (by first | omega | (simp <;> omega)) _).trans hb2)
  clear hb2
  go_wp2_with (first
    | (refine wpl_next (s := ⟨#[102]⟩) (pos := 0) rfl rfl rfl (iter_heap_at _ _ (by simp) _ _) 102 (by rfl) (by omega) ?_; intro W1 hkW1 hcW1 hfW1 hsW1 hhW1 hbW1; (try simp only [World.iter, World.size_alloc] at hcW1 hfW1 hsW1); have HOW1 := Lib.hid (own_heap (show World.ownsRow _ w.heap.size 5 1 (.slice (some ⟨w1.heap.size + 1, 0, none⟩) 1 1) 1 [.int .u8 c] by simpa using ((own_new (w1.alloc (.cells #[.string ⟨nm.toArray⟩, .string ⟨#[102]⟩] 41)) [.int .u8 c] 5 w.heap.size 1 (by first | omega | (simp <;> omega)) rfl (by simp [maxLen])).alloc (.cells #[.int .i64 a, .int .i64 b] 55)).alloc (.stringIter ⟨#[102]⟩ 0)) (fun q hq => by simp [Value.ownBlock] at hq; subst hq; exact hhW1 _ (by omega))); clear hhW1; have HBW1 := Lib.hid (((((HB0.out.alloc (by omega) _).alloc (by first | omega | (simp <;> omega)) _).alloc (by first | omega | (simp <;> omega)) _).alloc (by first | omega | (simp <;> omega)) _).trans (Below.mono (Hid.out hbW1) (by omega))))
    | (go_at_call 24; refine (within_any _ _ _).mono ?_; rintro e w9 ⟨rfl, rfl⟩)
    | (at_builtin; refine stop_here ?_) | go_in)
  rw [rounds_succ]
  go_wp2_with (refine wpl_next_end (s := ⟨#[102]⟩) (pos := 1) rfl rfl rfl (by simp [Below.heap_setCell, hkZ2]) (by decide) ?_)
  go_ret2
  exact ⟨rfl, HBZ2.out⟩
theorem enc_c_bad0 (c a b n : Int) (hc0 : 0 ≤ c) (hc1 : c < 256) (nm : List UInt8) (hrow : rowOf c = (nm, [99])) (hn : nm ≠ []) (hw0 : wthn 99 a = false) (w : World) :
    Calls Try.prog 16 #[.agg #[.int .i64 c, .int .i64 a, .int .i64 b, .int .i64 n]] w fun e w' => e = .returned (.tuple #[.slice none 0 0, .bool false]) ∧ Below w.heap.size w w' := by
  have HT : ∀ W, Calls Try.prog 18 #[.int .i64 c] W fun e w' => e = .returned (.agg #[.string ⟨nm.toArray⟩, .string ⟨#[99]⟩]) ∧ Below W.heap.size W w' := fun W => by
    have := table_any c W
    rw [hrow] at this
    exact this
  have HT' := Lib.hid HT
  clear HT
  have e0 : nm.isEmpty = false := by cases nm <;> simp_all
  clear hrow hn
  go_enter Try.func16, Try.ntmps16
  go_wp2_with fail
  refine (HT'.out _).mono ?_
  rintro e w1 ⟨rfl, hb1⟩
  have hz := hb1.size
  simp only [World.size_alloc] at hz
  have HB0 := Lib.hid (((Below.refl w.heap.size w).alloc (Nat.le_refl _) _).trans (hb1.mono (by simp)))
  have d0 := hb1.cell (p := ⟨w.heap.size, 0, none⟩) (by simp)
  have d1 := hb1.cell (p := ⟨w.heap.size, 1, none⟩) (by simp)
  have d2 := hb1.cell (p := ⟨w.heap.size, 2, none⟩) (by simp)
  simp [go_sem] at d0 d1 d2
  clear hb1
  obtain ⟨y1, y2, y3, y4, y5, y6, y7, y8, y9, y10, y11, y12⟩ := far w.heap.size w1.heap.size (by omega)
  go_wp2
  refine wp_loop_rounds 2 ?_
  rw [rounds_succ]
  go_wp2_with (first
    | (refine wpl_next (s := ⟨#[99]⟩) (pos := 0) rfl rfl rfl (iter_heap_at _ _ (by simp) _ _) 99 (by rfl) (by omega) ?_; intro W1 hkW1 hcW1 hfW1 hsW1 hhW1 hbW1; (try simp only [World.iter, World.size_alloc] at hcW1 hfW1 hsW1); have HOW1 := Lib.hid (own_heap (show World.ownsRow _ w.heap.size 5 1 (.slice (some ⟨w1.heap.size + 1, 0, none⟩) 1 1) 1 [.int .u8 c] by simpa using ((own_new (w1.alloc (.cells #[.string ⟨nm.toArray⟩, .string ⟨#[99]⟩] 41)) [.int .u8 c] 5 w.heap.size 1 (by first | omega | (simp <;> omega)) rfl (by simp [maxLen])).alloc (.cells #[.int .i64 a, .int .i64 b] 55)).alloc (.stringIter ⟨#[99]⟩ 0)) (fun q hq => by simp [Value.ownBlock] at hq; subst hq; exact hhW1 _ (by omega))); clear hhW1; have HBW1 := Lib.hid (((((HB0.out.alloc (by omega) _).alloc (by first | omega | (simp <;> omega)) _).alloc (by first | omega | (simp <;> omega)) _).alloc (by first | omega | (simp <;> omega)) _).trans (Below.mono (Hid.out hbW1) (by omega))))
    | (go_at_call 24; refine (within_any _ _ _).mono ?_; rintro e w9 ⟨rfl, rfl⟩)
    | (at_builtin; refine stop_here ?_) | go_in)
  go_ret2
  exact ⟨rfl, HBW1.out.setCell (p := ⟨w1.heap.size + 1 + 1, 0, none⟩) (by first | omega | (simp <;> omega)) _⟩
theorem enc_ub_ok (c a b n : Int) (hc0 : 0 ≤ c) (hc1 : c < 256) (nm : List UInt8) (hrow : rowOf c = (nm, [117, 98])) (hn : nm ≠ []) (hw0 : wthn 117 a = true) (hw1 : wthn 98 b = true) (w : World) :
    Calls Try.prog 16 #[.agg #[.int .i64 c, .int .i64 a, .int .i64 b, .int .i64 n]] w fun e w' => ∃ g cap, e = .returned (.tuple #[.slice (some ⟨g, 0, none⟩) 3 cap, .bool true]) ∧ w'.ownsRow w.heap.size 5 1 (.slice (some ⟨g, 0, none⟩) 3 cap) 3 [.int .u8 c, .int .u8 (a % 256), .int .u8 (b % 256)] ∧ Below w.heap.size w w' := by
  have HT : ∀ W, Calls Try.prog 18 #[.int .i64 c] W fun e w' => e = .returned (.agg #[.string ⟨nm.toArray⟩, .string ⟨#[117, 98]⟩]) ∧ Below W.heap.size W w' := fun W => by
    have := table_any c W
    rw [hrow] at this
    exact this
  have HT' := Lib.hid HT
  clear HT
  have e0 : nm.isEmpty = false := by cases nm <;> simp_all
  clear hrow hn
  go_enter Try.func16, Try.ntmps16
  go_wp2_with fail
  refine (HT'.out _).mono ?_
  rintro e w1 ⟨rfl, hb1⟩
  have hz := hb1.size
  simp only [World.size_alloc] at hz
  have HB0 := Lib.hid (((Below.refl w.heap.size w).alloc (Nat.le_refl _) _).trans (hb1.mono (by simp)))
  have d0 := hb1.cell (p := ⟨w.heap.size, 0, none⟩) (by simp)
  have d1 := hb1.cell (p := ⟨w.heap.size, 1, none⟩) (by simp)
  have d2 := hb1.cell (p := ⟨w.heap.size, 2, none⟩) (by simp)
  simp [go_sem] at d0 d1 d2
  clear hb1
  obtain ⟨y1, y2, y3, y4, y5, y6, y7, y8, y9, y10, y11, y12⟩ := far w.heap.size w1.heap.size (by omega)
  go_wp2
  refine wp_loop_rounds 3 ?_
  rw [rounds_succ]
  go_wp2_with (first
    | (refine wpl_next (s := ⟨#[117, 98]⟩) (pos := 0) rfl rfl rfl (iter_heap_at _ _ (by simp) _ _) 117 (by rfl) (by omega) ?_; intro W1 hkW1 hcW1 hfW1 hsW1 hhW1 hbW1; (try simp only [World.iter, World.size_alloc] at hcW1 hfW1 hsW1); have HOW1 := Lib.hid (own_heap (show World.ownsRow _ w.heap.size 5 1 (.slice (some ⟨w1.heap.size + 1, 0, none⟩) 1 1) 1 [.int .u8 c] by simpa using ((own_new (w1.alloc (.cells #[.string ⟨nm.toArray⟩, .string ⟨#[117, 98]⟩] 41)) [.int .u8 c] 5 w.heap.size 1 (by first | omega | (simp <;> omega)) rfl (by simp [maxLen])).alloc (.cells #[.int .i64 a, .int .i64 b] 55)).alloc (.stringIter ⟨#[117, 98]⟩ 0)) (fun q hq => by simp [Value.ownBlock] at hq; subst hq; exact hhW1 _ (by omega))); clear hhW1; have HBW1 := Lib.hid (((((HB0.out.alloc (by omega) _).alloc (by first | omega | (simp <;> omega)) _).alloc (by first | omega | (simp <;> omega)) _).alloc (by first | omega | (simp <;> omega)) _).trans (Below.mono (Hid.out hbW1) (by omega))))
    | (go_at_call 24; refine (within_any _ _ _).mono ?_; rintro e w9 ⟨rfl, rfl⟩)
    | (at_builtin; refine stop_here ?_) | go_in)
  refine go_on ?_
  refine wpl_lies (v := .slice (some ⟨w1.heap.size + 1, 0, none⟩) 1 1) rfl _ _ 22 rfl Try.underlying22 info_u8 rfl (by omega) w.heap.size rfl ((own_set HOW1.out (p := ⟨w1.heap.size + 1 + 1, 0, none⟩) (by first | omega | (simp <;> omega)) _).alloc _) rfl rfl (fun _ => ⟨_, rfl, cells_new_at _ _ _ _ (by first | omega | (simp <;> omega))⟩) (by simp [Value.oneCell']) (by omega) (by simp [maxLen]) (by omega) (by first | omega | (simp <;> omega)) ?_
  intro g1 k1 Z1 ho1 hg1 hb1 hgg1 hlt1
  have F1 := grown_facts (g := w1.heap.size + 1) hg1 rfl
  have zs1 := F1.2.2.2
  simp only [World.size_alloc, World.size_setCell] at zs1 hgg1
  simp only [Value.ownBlock, Option.some.injEq] at hgg1
  have gR1 : ¬ g1 = w1.heap.size + 1 + 1 := by omega
  have gI1 : ¬ g1 = w1.heap.size + 1 + 1 + 1 := by omega
  have gB1 : ¬ g1 = w.heap.size := by omega
  have sR1 : w1.heap.size + 1 + 1 < Z1.heap.size := by omega
  have sI1 : w1.heap.size + 1 + 1 + 1 < Z1.heap.size := by omega
  have sB1 : w.heap.size < Z1.heap.size := by omega
  have r0Z1 := (F1.1 (w1.heap.size + 1 + 1) 0 (by first | omega | (simp <;> omega)) (by omega)).trans (show _ = some (Value.int .i64 0) by simp [go_sem, *])
  have r1Z1 := (F1.1 (w1.heap.size + 1 + 1) 1 (by first | omega | (simp <;> omega)) (by omega)).trans (show _ = some (Value.int .i64 b) by simp [go_sem, *])
  have fRZ1 : ∀ o, Z1.frozen? ⟨w1.heap.size + 1 + 1, o, none⟩ = false := fun o => (F1.2.1 (w1.heap.size + 1 + 1) o (by first | omega | (simp <;> omega)) (by omega)).trans (by simp [go_sem, *])
  have o2Z1 := (F1.1 w.heap.size 2 (by first | omega | (simp <;> omega)) (by omega)).trans (show _ = some (Value.int .i64 b) by simp [go_sem, *])
  have hkZ1 : Z1.heap[w1.heap.size + 1 + 1 + 1]? = some (Obj.stringIter ⟨#[117, 98]⟩ 1) := (F1.2.2.1 (w1.heap.size + 1 + 1 + 1) (by first | omega | (simp <;> omega)) (by omega)).trans ((Below.heap_alloc _ _ _ (by first | omega | (simp <;> omega))).trans ((Below.heap_setCell _ _ _ _ (by first | omega | (simp <;> omega))).trans hkW1))
  have HO1 := Lib.hid ho1
  clear ho1 hg1 F1 hgg1
  have HBZ1 := Lib.hid (((HBW1.out.setCell (p := ⟨w1.heap.size + 1 + 1, 0, none⟩) (by first | omega | (simp <;> omega)) _).alloc (by first | omega | (simp <;> omega)) _).trans hb1)
  clear hb1
  go_wp2_with (first
    | (refine wpl_next (s := ⟨#[117, 98]⟩) (pos := 0) rfl rfl rfl (iter_heap_at _ _ (by simp) _ _) 117 (by rfl) (by omega) ?_; intro W1 hkW1 hcW1 hfW1 hsW1 hhW1 hbW1; (try simp only [World.iter, World.size_alloc] at hcW1 hfW1 hsW1); have HOW1 := Lib.hid (own_heap (show World.ownsRow _ w.heap.size 5 1 (.slice (some ⟨w1.heap.size + 1, 0, none⟩) 1 1) 1 [.int .u8 c] by simpa using ((own_new (w1.alloc (.cells #[.string ⟨nm.toArray⟩, .string ⟨#[117, 98]⟩] 41)) [.int .u8 c] 5 w.heap.size 1 (by first | omega | (simp <;> omega)) rfl (by simp [maxLen])).alloc (.cells #[.int .i64 a, .int .i64 b] 55)).alloc (.stringIter ⟨#[117, 98]⟩ 0)) (fun q hq => by simp [Value.ownBlock] at hq; subst hq; exact hhW1 _ (by omega))); clear hhW1; have HBW1 := Lib.hid (((((HB0.out.alloc (by omega) _).alloc (by first | omega | (simp <;> omega)) _).alloc (by first | omega | (simp <;> omega)) _).alloc (by first | omega | (simp <;> omega)) _).trans (Below.mono (Hid.out hbW1) (by omega))))
    | (go_at_call 24; refine (within_any _ _ _).mono ?_; rintro e w9 ⟨rfl, rfl⟩)
    | (at_builtin; refine stop_here ?_) | go_in)
  rw [rounds_succ]
  go_wp2_with (first
    | (refine wpl_next (s := ⟨#[117, 98]⟩) (pos := 1) rfl rfl rfl (by simp [Below.heap_setCell, hkZ1]) 98 (by rfl) (by omega) ?_; intro W2 hkW2 hcW2 hfW2 hsW2 hhW2 hbW2; (try simp only [World.iter, World.size_alloc] at hcW2 hfW2 hsW2); have HOW2 := Lib.hid (own_heap HO1.out (fun q hq => by simp [Value.ownBlock] at hq; subst hq; exact hhW2 _ (by omega))); clear hhW2; have HBW2 := Lib.hid (HBZ1.out.trans (Below.mono (Hid.out hbW2) (by omega))))
    | (go_at_call 24; refine (within_any _ _ _).mono ?_; rintro e w9 ⟨rfl, rfl⟩)
    | (at_builtin; refine stop_here ?_) | go_in)
  refine go_on ?_
  refine wpl_lies (v := .slice (some ⟨g1, 0, none⟩) 2 k1) rfl _ _ 22 rfl Try.underlying22 info_u8 rfl (by omega) w.heap.size rfl ((own_set HOW2.out (p := ⟨w1.heap.size + 1 + 1, 1, none⟩) (by first | omega | (simp <;> omega)) _).alloc _) rfl rfl (fun _ => ⟨_, rfl, cells_new_at _ _ _ _ (by first | omega | (simp <;> omega))⟩) (by simp [Value.oneCell']) (by omega) (by simp [maxLen]) (by omega) (by first | omega | (simp <;> omega)) ?_
  intro g2 k2 Z2 ho2 hg2 hb2 hgg2 hlt2
  have F2 := grown_facts (g := g1) hg2 rfl
  have zs2 := F2.2.2.2
  simp only [World.size_alloc, World.size_setCell] at zs2 hgg2
  simp only [Value.ownBlock, Option.some.injEq] at hgg2
  have gR2 : ¬ g2 = w1.heap.size + 1 + 1 := by omega
  have gI2 : ¬ g2 = w1.heap.size + 1 + 1 + 1 := by omega
  have gB2 : ¬ g2 = w.heap.size := by omega
  have sR2 : w1.heap.size + 1 + 1 < Z2.heap.size := by omega
  have sI2 : w1.heap.size + 1 + 1 + 1 < Z2.heap.size := by omega
  have sB2 : w.heap.size < Z2.heap.size := by omega
  have r0Z2 := (F2.1 (w1.heap.size + 1 + 1) 0 (by first | omega | (simp <;> omega)) (by omega)).trans (show _ = some (Value.int .i64 0) by simp [go_sem, *])
  have r1Z2 := (F2.1 (w1.heap.size + 1 + 1) 1 (by first | omega | (simp <;> omega)) (by omega)).trans (show _ = some (Value.int .i64 0) by simp [go_sem, *])
  have fRZ2 : ∀ o, Z2.frozen? ⟨w1.heap.size + 1 + 1, o, none⟩ = false := fun o => (F2.2.1 (w1.heap.size + 1 + 1) o (by first | omega | (simp <;> omega)) (by omega)).trans (by simp [go_sem, *])
  have o2Z2 := (F2.1 w.heap.size 2 (by first | omega | (simp <;> omega)) (by omega)).trans (show _ = some (Value.int .i64 b) by simp [go_sem, *])
  have hkZ2 : Z2.heap[w1.heap.size + 1 + 1 + 1]? = some (Obj.stringIter ⟨#[117, 98]⟩ 2) := (F2.2.2.1 (w1.heap.size + 1 + 1 + 1) (by first | omega | (simp <;> omega)) (by omega)).trans ((Below.heap_alloc _ _ _ (by first | omega | (simp <;> omega))).trans ((Below.heap_setCell _ _ _ _ (by first | omega | (simp <;> omega))).trans hkW2))
  have HO2 := Lib.hid ho2
  clear ho2 hg2 F2 hgg2
  have HBZ2 := Lib.hid (((HBW2.out.setCell (p := ⟨w1.heap.size + 1 + 1, 1, none⟩) (by first | omega | (simp <;> omega)) _).alloc (by first | omega | (simp <;> omega)) _).trans hb2)
  clear hb2
  go_wp2_with (first
    | (refine wpl_next (s := ⟨#[117, 98]⟩) (pos := 1) rfl rfl rfl (by simp [Below.heap_setCell, hkZ1]) 98 (by rfl) (by omega) ?_; intro W2 hkW2 hcW2 hfW2 hsW2 hhW2 hbW2; (try simp only [World.iter, World.size_alloc] at hcW2 hfW2 hsW2); have HOW2 := Lib.hid (own_heap HO1.out (fun q hq => by simp [Value.ownBlock] at hq; subst hq; exact hhW2 _ (by omega))); clear hhW2; have HBW2 := Lib.hid (HBZ1.out.trans (Below.mono (Hid.out hbW2) (by omega))))
    | (go_at_call 24; refine (within_any _ _ _).mono ?_; rintro e w9 ⟨rfl, rfl⟩)
    | (at_builtin; refine stop_here ?_) | go_in)
  rw [rounds_succ]
  go_wp2_with (refine wpl_next_end (s := ⟨#[117, 98]⟩) (pos := 2) rfl rfl rfl (by simp [Below.heap_setCell, hkZ2]) (by decide) ?_)
  go_ret2
  exact ⟨g2, k2, rfl, own_eq HO2.out (by rfl) (by simp), HBZ2.out⟩
end Go.Proofs.Ytgicbgeblgfnfaa
