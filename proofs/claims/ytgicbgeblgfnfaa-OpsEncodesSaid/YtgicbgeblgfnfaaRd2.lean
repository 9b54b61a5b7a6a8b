/-
  The walks of the reference's Decode, one a form of the table.
-/
import Derived.Test.YtgicbgeblgfnfaaLong
import Derived.Test.YtgicbgeblgfnfaaForm
import Derived.Test.YtgicbgeblgfnfaaStill
set_option linter.unusedSimpArgs false
set_option linter.unusedVariables false
set_option maxRecDepth 100000
set_option maxHeartbeats 4000000
namespace Go.Proofs.Ytgicbgeblgfnfaa
open Go Go.RowKit Lib
theorem rdec_i_bad (b off len cap p : Nat) (c a1 a2 a3 a4 : Nat) (nm : List UInt8) (w : World) (hp : p < len) (hcap : len ≤ cap) (hm : len ≤ 9223372036854775807) (hc : c < 256) (hx1 : a1 < 256) (hx2 : a2 < 256) (hx3 : a3 < 256) (hx4 : a4 < 256)
    (hrow : rowOf c = (nm, [105])) (hnm : nm ≠ []) (h0 : w.cell? ⟨b, off + p, none⟩ = some (.int .u8 c)) (hb : b < w.heap.size) (h1 : w.cell? ⟨b, off + (p + 1), none⟩ = some (.int .u8 a1)) (h2 : w.cell? ⟨b, off + (p + 2), none⟩ = some (.int .u8 a2)) (h3 : w.cell? ⟨b, off + (p + 3), none⟩ = some (.int .u8 a3)) (h4 : w.cell? ⟨b, off + (p + 4), none⟩ = some (.int .u8 a4)) (hlen : p + 5 ≤ len) (hz4 : a4 ≠ 0) :
    Calls Try.prog 11 #[.slice (some ⟨b, off, none⟩) len cap, .int .i64 p] w fun e w' => e = .returned (.tuple #[.agg #[.int .i64 0, .int .i64 0, .int .i64 0, .int .i64 0], .bool false]) ∧ Below w.heap.size w w' := by
  have HT : ∀ W, Calls Try.prog 13 #[.int .i64 c] W fun e w' => e = .returned (.tuple #[.string ⟨nm.toArray⟩, .string ⟨#[105]⟩]) ∧ Below W.heap.size W w' := fun W => by
    have := refform_any c W
    rw [hrow] at this
    exact this
  have HT' := Lib.hid HT
  clear HT
  have e0 : nm.isEmpty = false := by cases nm <;> simp_all
  clear hrow hnm
  have hzb : ((a4 : Int) == 0) = false := by simp; omega
  have hzn : ((a4 : Int) != 0) = true := by simp; omega
  clear hz4
  go_enter Try.func11, Try.ntmps11
  go_wp2_with fail
  refine (HT'.out _).mono ?_
  rintro e w1 ⟨rfl, hb1⟩
  have hz := hb1.size
  simp only [World.size_alloc] at hz
  have HB := Lib.hid hb1
  obtain ⟨hc', hf⟩ := bcell hb1
  have f0 := fun o => hf w.heap.size o (by simp)
  have d0 := hc' w.heap.size 0 (by simp)
  have d1 := hc' w.heap.size 1 (by simp)
  have d2 := hc' w.heap.size 2 (by simp)
  have d3 := hc' w.heap.size 3 (by simp)
  have g0 := hc' b (off + p) (by simp; omega)
  rw [World.cell?_alloc_lt _ _ _ hb, h0] at g0
  have g1 := hc' b (off + (p + 1)) (by simp; omega)
  rw [World.cell?_alloc_lt _ _ _ hb, h1] at g1
  have g2 := hc' b (off + (p + 2)) (by simp; omega)
  rw [World.cell?_alloc_lt _ _ _ hb, h2] at g2
  have g3 := hc' b (off + (p + 3)) (by simp; omega)
  rw [World.cell?_alloc_lt _ _ _ hb, h3] at g3
  have g4 := hc' b (off + (p + 4)) (by simp; omega)
  rw [World.cell?_alloc_lt _ _ _ hb, h4] at g4
  clear hc' hf hb1
  simp [go_sem] at f0 d0 d1 d2 d3
  obtain ⟨x1, x2, x3, x4, x5, x6, x7, x8, x9, x10, x11, x12⟩ := far b w1.heap.size (by omega)
  obtain ⟨y1, y2, y3, y4, y5, y6, y7, y8, y9, y10, y11, y12⟩ := far w.heap.size w1.heap.size (by omega)
  go_wp2_with (go_at_call 20; refine (reflong_i _).mono ?_; rintro e w2 ⟨rfl, rfl⟩)
  refine wp_loop_rounds 2 ?_
  rw [rounds_succ]
  go_wp2_with fail
  refine wp_region_float 20 [0] (by kernel_rfl) (by kernel_rfl) (fun c a w d v h => by cases d <;> exact h) ?_
  simp only [List.take_succ_cons, List.take_zero, List.drop_succ_cons, List.drop_zero]
  repeat go_big_quiet_step (fail)
  refine wpQuiet_nil ?_
  go_wp2_with ((at_builtin; refine wpl_lies rfl _ _ 48 rfl Try.underlying48 info_int rfl (by omega) (w1.heap.size + 1) rfl (World.ownsRow_nil _ _ _ _) rfl rfl (fun _ => ⟨_, rfl, cells_new_at _ _ _ _ (by simp)⟩) (by simp [Value.oneCell']) (by omega) (by simp [maxLen]) (by omega) (by simp; try omega) ?_; intro bk1 k1 W1 ho1 hg1 hb1 hgg1 hlt1; refine stop_here ?_))
  have HO1 := Lib.hid ho1
  have HK1 := Lib.hid (((below_drewN (Below.refl (w1.heap.size + 1) (w1.alloc (.cells #[.int .i64 c, .int .i64 0, .int .i64 0, .int .i64 5] 25))) 1).alloc (by simp) _).trans hb1)
  have hs1 := HK1.out.size
  simp only [World.size_alloc] at hs1
  have hg11 := (ho1.lt bk1 rfl).1
  have v10 := HK1.out.cell (p := ⟨w1.heap.size, 0, none⟩) (by simp)
  have v11 := HK1.out.cell (p := ⟨w1.heap.size, 1, none⟩) (by simp)
  have v12 := HK1.out.cell (p := ⟨w1.heap.size, 2, none⟩) (by simp)
  have v13 := HK1.out.cell (p := ⟨w1.heap.size, 3, none⟩) (by simp)
  have u10 := HK1.out.cell (p := ⟨w.heap.size, 0, none⟩) (by simp; omega)
  have u11 := HK1.out.cell (p := ⟨w.heap.size, 1, none⟩) (by simp; omega)
  have u12 := HK1.out.cell (p := ⟨w.heap.size, 2, none⟩) (by simp; omega)
  have u13 := HK1.out.cell (p := ⟨w.heap.size, 3, none⟩) (by simp; omega)
  have fa1 := fun o => HK1.out.frozen (p := ⟨w1.heap.size, o, none⟩) (by simp)
  have fb1 := fun o => HK1.out.frozen (p := ⟨w.heap.size, o, none⟩) (by simp; omega)
  simp [go_sem, *] at v10 v11 v12 v13 u10 u11 u12 u13 fa1 fb1
  have g11' := HK1.out.cell (p := ⟨b, off + (p + 1), none⟩) (by simp; omega)
  rw [World.cell?_alloc_lt _ _ _ (by omega), g1] at g11'
  have g12' := HK1.out.cell (p := ⟨b, off + (p + 2), none⟩) (by simp; omega)
  rw [World.cell?_alloc_lt _ _ _ (by omega), g2] at g12'
  have g13' := HK1.out.cell (p := ⟨b, off + (p + 3), none⟩) (by simp; omega)
  rw [World.cell?_alloc_lt _ _ _ (by omega), g3] at g13'
  have g14' := HK1.out.cell (p := ⟨b, off + (p + 4), none⟩) (by simp; omega)
  rw [World.cell?_alloc_lt _ _ _ (by omega), g4] at g14'
  have q10 := ho1.cellAt 0 (by omega)
  simp at q10
  have q11 := ho1.cellAt 1 (by omega)
  simp at q11
  clear ho1 hg1 hb1 hgg1
  refine go_on ?_
  go_wp2_with fail
  refine bodyPost_ret (v := .tuple #[.agg #[.int .i64 0, .int .i64 0, .int .i64 0, .int .i64 0], .bool false]) ?_ rfl ⟨rfl, ?_⟩
  · simp [results, Try.results11, go_sem, *]
  · have B0 : Below w.heap.size w w1 := ((Below.refl _ _).alloc (Nat.le_refl _) _).trans (HB.out.mono (by simp))
    have BL : Below w.heap.size w W1 := (B0.alloc (by omega) _).trans (HK1.out.mono (by omega))
    repeat' (first | with_reducible exact BL | with_reducible exact B0 | with_reducible refine below_drewN ?_ _ | with_reducible refine Below.drew ?_ | with_reducible refine Below.setCell ?_ ?_ _ | with_reducible refine Below.alloc ?_ ?_ _ | (simp; done) | (simp; omega) | omega)
theorem rdec_s_ok (b off len cap p : Nat) (c a1 a2 : Nat) (nm : List UInt8) (w : World) (hp : p < len) (hcap : len ≤ cap) (hm : len ≤ 9223372036854775807) (hc : c < 256) (hx1 : a1 < 256) (hx2 : a2 < 256)
    (hrow : rowOf c = (nm, [115])) (hnm : nm ≠ []) (h0 : w.cell? ⟨b, off + p, none⟩ = some (.int .u8 c)) (hb : b < w.heap.size) (h1 : w.cell? ⟨b, off + (p + 1), none⟩ = some (.int .u8 a1)) (h2 : w.cell? ⟨b, off + (p + 2), none⟩ = some (.int .u8 a2)) (hlen : p + 3 ≤ len) :
    Calls Try.prog 11 #[.slice (some ⟨b, off, none⟩) len cap, .int .i64 p] w fun e w' => e = .returned (.tuple #[.agg #[.int .i64 c, .int .i64 (s16 (256 * (a1 : Int) + a2)), .int .i64 (0), .int .i64 3], .bool true]) ∧ Below w.heap.size w w' := by
  have HT : ∀ W, Calls Try.prog 13 #[.int .i64 c] W fun e w' => e = .returned (.tuple #[.string ⟨nm.toArray⟩, .string ⟨#[115]⟩]) ∧ Below W.heap.size W w' := fun W => by
    have := refform_any c W
    rw [hrow] at this
    exact this
  have HT' := Lib.hid HT
  clear HT
  have e0 : nm.isEmpty = false := by cases nm <;> simp_all
  clear hrow hnm
  go_enter Try.func11, Try.ntmps11
  go_wp2_with fail
  refine (HT'.out _).mono ?_
  rintro e w1 ⟨rfl, hb1⟩
  have hz := hb1.size
  simp only [World.size_alloc] at hz
  have HB := Lib.hid hb1
  obtain ⟨hc', hf⟩ := bcell hb1
  have f0 := fun o => hf w.heap.size o (by simp)
  have d0 := hc' w.heap.size 0 (by simp)
  have d1 := hc' w.heap.size 1 (by simp)
  have d2 := hc' w.heap.size 2 (by simp)
  have d3 := hc' w.heap.size 3 (by simp)
  have g0 := hc' b (off + p) (by simp; omega)
  rw [World.cell?_alloc_lt _ _ _ hb, h0] at g0
  have g1 := hc' b (off + (p + 1)) (by simp; omega)
  rw [World.cell?_alloc_lt _ _ _ hb, h1] at g1
  have g2 := hc' b (off + (p + 2)) (by simp; omega)
  rw [World.cell?_alloc_lt _ _ _ hb, h2] at g2
  clear hc' hf hb1
  simp [go_sem] at f0 d0 d1 d2 d3
  obtain ⟨x1, x2, x3, x4, x5, x6, x7, x8, x9, x10, x11, x12⟩ := far b w1.heap.size (by omega)
  obtain ⟨y1, y2, y3, y4, y5, y6, y7, y8, y9, y10, y11, y12⟩ := far w.heap.size w1.heap.size (by omega)
  go_wp2_with (go_at_call 20; refine (reflong_s _).mono ?_; rintro e w2 ⟨rfl, rfl⟩)
  refine wp_loop_rounds 2 ?_
  rw [rounds_succ]
  go_wp2_with fail
  refine wp_region_float 15 [0] (by kernel_rfl) (by kernel_rfl) (fun c a w d v h => by cases d <;> exact h) ?_
  simp only [List.take_succ_cons, List.take_zero, List.drop_succ_cons, List.drop_zero]
  repeat go_big_quiet_step (fail)
  go_big_quiet_want
  go_big_quiet_op
  apply Exists.intro
  refine ⟨?_, ?_⟩
  · refine (signed16_any _ (by omega) (by omega) _).mono ?_
    rintro e w2 ⟨rfl, rfl⟩
    exact ⟨rfl, rfl⟩
  go_big_quiet_on
  refine wpQuiet_nil ?_
  go_wp2_with ((at_builtin; refine wpl_lies rfl _ _ 48 rfl Try.underlying48 info_int rfl (by omega) (w1.heap.size + 1) rfl (World.ownsRow_nil _ _ _ _) rfl rfl (fun _ => ⟨_, rfl, cells_new_at _ _ _ _ (by simp)⟩) (by simp [Value.oneCell']) (by omega) (by simp [maxLen]) (by omega) (by simp; try omega) ?_; intro bk1 k1 W1 ho1 hg1 hb1 hgg1 hlt1; refine stop_here ?_))
  have HO1 := Lib.hid ho1
  have HK1 := Lib.hid (((below_drewN (Below.refl (w1.heap.size + 1) (w1.alloc (.cells #[.int .i64 c, .int .i64 0, .int .i64 0, .int .i64 3] 25))) 1).alloc (by simp) _).trans hb1)
  have hs1 := HK1.out.size
  simp only [World.size_alloc] at hs1
  have hg11 := (ho1.lt bk1 rfl).1
  have v10 := HK1.out.cell (p := ⟨w1.heap.size, 0, none⟩) (by simp)
  have v11 := HK1.out.cell (p := ⟨w1.heap.size, 1, none⟩) (by simp)
  have v12 := HK1.out.cell (p := ⟨w1.heap.size, 2, none⟩) (by simp)
  have v13 := HK1.out.cell (p := ⟨w1.heap.size, 3, none⟩) (by simp)
  have u10 := HK1.out.cell (p := ⟨w.heap.size, 0, none⟩) (by simp; omega)
  have u11 := HK1.out.cell (p := ⟨w.heap.size, 1, none⟩) (by simp; omega)
  have u12 := HK1.out.cell (p := ⟨w.heap.size, 2, none⟩) (by simp; omega)
  have u13 := HK1.out.cell (p := ⟨w.heap.size, 3, none⟩) (by simp; omega)
  have fa1 := fun o => HK1.out.frozen (p := ⟨w1.heap.size, o, none⟩) (by simp)
  have fb1 := fun o => HK1.out.frozen (p := ⟨w.heap.size, o, none⟩) (by simp; omega)
  simp [go_sem, *] at v10 v11 v12 v13 u10 u11 u12 u13 fa1 fb1
  have g11' := HK1.out.cell (p := ⟨b, off + (p + 1), none⟩) (by simp; omega)
  rw [World.cell?_alloc_lt _ _ _ (by omega), g1] at g11'
  have g12' := HK1.out.cell (p := ⟨b, off + (p + 2), none⟩) (by simp; omega)
  rw [World.cell?_alloc_lt _ _ _ (by omega), g2] at g12'
  have q10 := ho1.cellAt 0 (by omega)
  simp at q10
  clear ho1 hg1 hb1 hgg1
  refine go_on ?_
  go_wp2_with (first | (go_at_call 22; (first | (refine (refsize_s _).mono ?_)); rintro e w2 ⟨rfl, rfl⟩) | go_in)
  rw [rounds_succ]
  go_wp2_with fail
  refine bodyPost_ret (v := .tuple #[.agg #[.int .i64 c, .int .i64 (s16 (256 * (a1 : Int) + a2)), .int .i64 (0), .int .i64 3], .bool true]) ?_ rfl ⟨rfl, ?_⟩
  · simp [results, Try.results11, go_sem, *]
  · have B0 : Below w.heap.size w w1 := ((Below.refl _ _).alloc (Nat.le_refl _) _).trans (HB.out.mono (by simp))
    have BL : Below w.heap.size w W1 := (B0.alloc (by omega) _).trans (HK1.out.mono (by omega))
    repeat' (first | with_reducible exact BL | with_reducible exact B0 | with_reducible refine below_drewN ?_ _ | with_reducible refine Below.drew ?_ | with_reducible refine Below.setCell ?_ ?_ _ | with_reducible refine Below.alloc ?_ ?_ _ | (simp; done) | (simp; omega) | omega)
theorem rdec_c_ok (b off len cap p : Nat) (c a1 a2 : Nat) (nm : List UInt8) (w : World) (hp : p < len) (hcap : len ≤ cap) (hm : len ≤ 9223372036854775807) (hc : c < 256) (hx1 : a1 < 256) (hx2 : a2 < 256)
    (hrow : rowOf c = (nm, [99])) (hnm : nm ≠ []) (h0 : w.cell? ⟨b, off + p, none⟩ = some (.int .u8 c)) (hb : b < w.heap.size) (h1 : w.cell? ⟨b, off + (p + 1), none⟩ = some (.int .u8 a1)) (h2 : w.cell? ⟨b, off + (p + 2), none⟩ = some (.int .u8 a2)) (hlen : p + 3 ≤ len) :
    Calls Try.prog 11 #[.slice (some ⟨b, off, none⟩) len cap, .int .i64 p] w fun e w' => e = .returned (.tuple #[.agg #[.int .i64 c, .int .i64 (256 * (a1 : Int) + a2), .int .i64 (0), .int .i64 3], .bool true]) ∧ Below w.heap.size w w' := by
  have HT : ∀ W, Calls Try.prog 13 #[.int .i64 c] W fun e w' => e = .returned (.tuple #[.string ⟨nm.toArray⟩, .string ⟨#[99]⟩]) ∧ Below W.heap.size W w' := fun W => by
    have := refform_any c W
    rw [hrow] at this
    exact this
  have HT' := Lib.hid HT
  clear HT
  have e0 : nm.isEmpty = false := by cases nm <;> simp_all
  clear hrow hnm
  go_enter Try.func11, Try.ntmps11
  go_wp2_with fail
  refine (HT'.out _).mono ?_
  rintro e w1 ⟨rfl, hb1⟩
  have hz := hb1.size
  simp only [World.size_alloc] at hz
  have HB := Lib.hid hb1
  obtain ⟨hc', hf⟩ := bcell hb1
  have f0 := fun o => hf w.heap.size o (by simp)
  have d0 := hc' w.heap.size 0 (by simp)
  have d1 := hc' w.heap.size 1 (by simp)
  have d2 := hc' w.heap.size 2 (by simp)
  have d3 := hc' w.heap.size 3 (by simp)
  have g0 := hc' b (off + p) (by simp; omega)
  rw [World.cell?_alloc_lt _ _ _ hb, h0] at g0
  have g1 := hc' b (off + (p + 1)) (by simp; omega)
  rw [World.cell?_alloc_lt _ _ _ hb, h1] at g1
  have g2 := hc' b (off + (p + 2)) (by simp; omega)
  rw [World.cell?_alloc_lt _ _ _ hb, h2] at g2
  clear hc' hf hb1
  simp [go_sem] at f0 d0 d1 d2 d3
  obtain ⟨x1, x2, x3, x4, x5, x6, x7, x8, x9, x10, x11, x12⟩ := far b w1.heap.size (by omega)
  obtain ⟨y1, y2, y3, y4, y5, y6, y7, y8, y9, y10, y11, y12⟩ := far w.heap.size w1.heap.size (by omega)
  go_wp2_with (go_at_call 20; refine (reflong_c _).mono ?_; rintro e w2 ⟨rfl, rfl⟩)
  refine wp_loop_rounds 2 ?_
  rw [rounds_succ]
  go_wp2_with fail
  refine wp_region_float 14 [0] (by kernel_rfl) (by kernel_rfl) (fun c a w d v h => by cases d <;> exact h) ?_
  simp only [List.take_succ_cons, List.take_zero, List.drop_succ_cons, List.drop_zero]
  repeat go_big_quiet_step (fail)
  refine wpQuiet_nil ?_
  go_wp2_with ((at_builtin; refine wpl_lies rfl _ _ 48 rfl Try.underlying48 info_int rfl (by omega) (w1.heap.size + 1) rfl (World.ownsRow_nil _ _ _ _) rfl rfl (fun _ => ⟨_, rfl, cells_new_at _ _ _ _ (by simp)⟩) (by simp [Value.oneCell']) (by omega) (by simp [maxLen]) (by omega) (by simp; try omega) ?_; intro bk1 k1 W1 ho1 hg1 hb1 hgg1 hlt1; refine stop_here ?_))
  have HO1 := Lib.hid ho1
  have HK1 := Lib.hid (((below_drewN (Below.refl (w1.heap.size + 1) (w1.alloc (.cells #[.int .i64 c, .int .i64 0, .int .i64 0, .int .i64 3] 25))) 1).alloc (by simp) _).trans hb1)
  have hs1 := HK1.out.size
  simp only [World.size_alloc] at hs1
  have hg11 := (ho1.lt bk1 rfl).1
  have v10 := HK1.out.cell (p := ⟨w1.heap.size, 0, none⟩) (by simp)
  have v11 := HK1.out.cell (p := ⟨w1.heap.size, 1, none⟩) (by simp)
  have v12 := HK1.out.cell (p := ⟨w1.heap.size, 2, none⟩) (by simp)
  have v13 := HK1.out.cell (p := ⟨w1.heap.size, 3, none⟩) (by simp)
  have u10 := HK1.out.cell (p := ⟨w.heap.size, 0, none⟩) (by simp; omega)
  have u11 := HK1.out.cell (p := ⟨w.heap.size, 1, none⟩) (by simp; omega)
  have u12 := HK1.out.cell (p := ⟨w.heap.size, 2, none⟩) (by simp; omega)
  have u13 := HK1.out.cell (p := ⟨w.heap.size, 3, none⟩) (by simp; omega)
  have fa1 := fun o => HK1.out.frozen (p := ⟨w1.heap.size, o, none⟩) (by simp)
  have fb1 := fun o => HK1.out.frozen (p := ⟨w.heap.size, o, none⟩) (by simp; omega)
  simp [go_sem, *] at v10 v11 v12 v13 u10 u11 u12 u13 fa1 fb1
  have g11' := HK1.out.cell (p := ⟨b, off + (p + 1), none⟩) (by simp; omega)
  rw [World.cell?_alloc_lt _ _ _ (by omega), g1] at g11'
  have g12' := HK1.out.cell (p := ⟨b, off + (p + 2), none⟩) (by simp; omega)
  rw [World.cell?_alloc_lt _ _ _ (by omega), g2] at g12'
  have q10 := ho1.cellAt 0 (by omega)
  simp at q10
  clear ho1 hg1 hb1 hgg1
  refine go_on ?_
  go_wp2_with (first | (go_at_call 22; (first | (refine (refsize_c _).mono ?_)); rintro e w2 ⟨rfl, rfl⟩) | go_in)
  rw [rounds_succ]
  go_wp2_with fail
  refine bodyPost_ret (v := .tuple #[.agg #[.int .i64 c, .int .i64 (256 * (a1 : Int) + a2), .int .i64 (0), .int .i64 3], .bool true]) ?_ rfl ⟨rfl, ?_⟩
  · simp [results, Try.results11, go_sem, *]
  · have B0 : Below w.heap.size w w1 := ((Below.refl _ _).alloc (Nat.le_refl _) _).trans (HB.out.mono (by simp))
    have BL : Below w.heap.size w W1 := (B0.alloc (by omega) _).trans (HK1.out.mono (by omega))
    repeat' (first | with_reducible exact BL | with_reducible exact B0 | with_reducible refine below_drewN ?_ _ | with_reducible refine Below.drew ?_ | with_reducible refine Below.setCell ?_ ?_ _ | with_reducible refine Below.alloc ?_ ?_ _ | (simp; done) | (simp; omega) | omega)
theorem rdec_j_short (b off len cap p : Nat) (c : Nat) (nm : List UInt8) (w : World) (hp : p < len) (hcap : len ≤ cap) (hm : len ≤ 9223372036854775807) (hc : c < 256)
    (hrow : rowOf c = (nm, [106])) (hnm : nm ≠ []) (h0 : w.cell? ⟨b, off + p, none⟩ = some (.int .u8 c)) (hb : b < w.heap.size) (hlen : len < p + 3) :
    Calls Try.prog 11 #[.slice (some ⟨b, off, none⟩) len cap, .int .i64 p] w fun e w' => e = .returned (.tuple #[.agg #[.int .i64 0, .int .i64 0, .int .i64 0, .int .i64 0], .bool false]) ∧ Below w.heap.size w w' := by
  have HT : ∀ W, Calls Try.prog 13 #[.int .i64 c] W fun e w' => e = .returned (.tuple #[.string ⟨nm.toArray⟩, .string ⟨#[106]⟩]) ∧ Below W.heap.size W w' := fun W => by
    have := refform_any c W
    rw [hrow] at this
    exact this
  have HT' := Lib.hid HT
  clear HT
  have e0 : nm.isEmpty = false := by cases nm <;> simp_all
  clear hrow hnm
  go_enter Try.func11, Try.ntmps11
  go_wp2_with fail
  refine (HT'.out _).mono ?_
  rintro e w1 ⟨rfl, hb1⟩
  have hz := hb1.size
  simp only [World.size_alloc] at hz
  have HB := Lib.hid hb1
  obtain ⟨hc', hf⟩ := bcell hb1
  have f0 := fun o => hf w.heap.size o (by simp)
  have d0 := hc' w.heap.size 0 (by simp)
  have d1 := hc' w.heap.size 1 (by simp)
  have d2 := hc' w.heap.size 2 (by simp)
  have d3 := hc' w.heap.size 3 (by simp)
  have g0 := hc' b (off + p) (by simp; omega)
  rw [World.cell?_alloc_lt _ _ _ hb, h0] at g0
  clear hc' hf hb1
  simp [go_sem] at f0 d0 d1 d2 d3
  obtain ⟨x1, x2, x3, x4, x5, x6, x7, x8, x9, x10, x11, x12⟩ := far b w1.heap.size (by omega)
  obtain ⟨y1, y2, y3, y4, y5, y6, y7, y8, y9, y10, y11, y12⟩ := far w.heap.size w1.heap.size (by omega)
  go_wp2_with (go_at_call 20; refine (reflong_j _).mono ?_; rintro e w2 ⟨rfl, rfl⟩)
  refine bodyPost_ret (v := .tuple #[.agg #[.int .i64 0, .int .i64 0, .int .i64 0, .int .i64 0], .bool false]) ?_ rfl ⟨rfl, ?_⟩
  · simp [results, Try.results11, go_sem, *]
  · have B0 : Below w.heap.size w w1 := ((Below.refl _ _).alloc (Nat.le_refl _) _).trans (HB.out.mono (by simp))
    repeat' (first | with_reducible exact B0 | with_reducible refine below_drewN ?_ _ | with_reducible refine Below.drew ?_ | with_reducible refine Below.setCell ?_ ?_ _ | with_reducible refine Below.alloc ?_ ?_ _ | (simp; done) | (simp; omega) | omega)
theorem rdec_i_short (b off len cap p : Nat) (c : Nat) (nm : List UInt8) (w : World) (hp : p < len) (hcap : len ≤ cap) (hm : len ≤ 9223372036854775807) (hc : c < 256)
    (hrow : rowOf c = (nm, [105])) (hnm : nm ≠ []) (h0 : w.cell? ⟨b, off + p, none⟩ = some (.int .u8 c)) (hb : b < w.heap.size) (hlen : len < p + 5) :
    Calls Try.prog 11 #[.slice (some ⟨b, off, none⟩) len cap, .int .i64 p] w fun e w' => e = .returned (.tuple #[.agg #[.int .i64 0, .int .i64 0, .int .i64 0, .int .i64 0], .bool false]) ∧ Below w.heap.size w w' := by
  have HT : ∀ W, Calls Try.prog 13 #[.int .i64 c] W fun e w' => e = .returned (.tuple #[.string ⟨nm.toArray⟩, .string ⟨#[105]⟩]) ∧ Below W.heap.size W w' := fun W => by
    have := refform_any c W
    rw [hrow] at this
    exact this
  have HT' := Lib.hid HT
  clear HT
  have e0 : nm.isEmpty = false := by cases nm <;> simp_all
  clear hrow hnm
  go_enter Try.func11, Try.ntmps11
  go_wp2_with fail
  refine (HT'.out _).mono ?_
  rintro e w1 ⟨rfl, hb1⟩
  have hz := hb1.size
  simp only [World.size_alloc] at hz
  have HB := Lib.hid hb1
  obtain ⟨hc', hf⟩ := bcell hb1
  have f0 := fun o => hf w.heap.size o (by simp)
  have d0 := hc' w.heap.size 0 (by simp)
  have d1 := hc' w.heap.size 1 (by simp)
  have d2 := hc' w.heap.size 2 (by simp)
  have d3 := hc' w.heap.size 3 (by simp)
  have g0 := hc' b (off + p) (by simp; omega)
  rw [World.cell?_alloc_lt _ _ _ hb, h0] at g0
  clear hc' hf hb1
  simp [go_sem] at f0 d0 d1 d2 d3
  obtain ⟨x1, x2, x3, x4, x5, x6, x7, x8, x9, x10, x11, x12⟩ := far b w1.heap.size (by omega)
  obtain ⟨y1, y2, y3, y4, y5, y6, y7, y8, y9, y10, y11, y12⟩ := far w.heap.size w1.heap.size (by omega)
  go_wp2_with (go_at_call 20; refine (reflong_i _).mono ?_; rintro e w2 ⟨rfl, rfl⟩)
  refine bodyPost_ret (v := .tuple #[.agg #[.int .i64 0, .int .i64 0, .int .i64 0, .int .i64 0], .bool false]) ?_ rfl ⟨rfl, ?_⟩
  · simp [results, Try.results11, go_sem, *]
  · have B0 : Below w.heap.size w w1 := ((Below.refl _ _).alloc (Nat.le_refl _) _).trans (HB.out.mono (by simp))
    repeat' (first | with_reducible exact B0 | with_reducible refine below_drewN ?_ _ | with_reducible refine Below.drew ?_ | with_reducible refine Below.setCell ?_ ?_ _ | with_reducible refine Below.alloc ?_ ?_ _ | (simp; done) | (simp; omega) | omega)
end Go.Proofs.Ytgicbgeblgfnfaa
