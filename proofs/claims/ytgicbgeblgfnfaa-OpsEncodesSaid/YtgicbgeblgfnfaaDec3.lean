/-
  The walks of ops.Decode, one a form of the table.
-/
import Derived.Test.YtgicbgeblgfnfaaTable
import Derived.Test.YtgicbgeblgfnfaaOpsB
import Derived.Test.YtgicbgeblgfnfaaKit2
import Derived.Deep.QuietTactic
import Derived.BigQuiet
set_option maxRecDepth 100000
set_option maxHeartbeats 4000000
set_option linter.unusedSimpArgs false
set_option linter.unusedVariables false
namespace Go.Proofs.Ytgicbgeblgfnfaa
open Go Go.RowKit Lib
theorem dec_s_ok (b off len cap p : Nat) (c a1 a2 : Nat) (nm : List UInt8) (w : World) (hp : p < len) (hcap : len ≤ cap) (hm : len ≤ 9223372036854775807) (hc : c < 256) (hx1 : a1 < 256) (hx2 : a2 < 256)
    (hrow : rowOf c = (nm, [115])) (hnm : nm ≠ []) (h0 : w.cell? ⟨b, off + p, none⟩ = some (.int .u8 c)) (hb : b < w.heap.size) (hlen : p + 3 ≤ len) (h1 : w.cell? ⟨b, off + (p + 1), none⟩ = some (.int .u8 a1)) (h2 : w.cell? ⟨b, off + (p + 2), none⟩ = some (.int .u8 a2)) :
    Calls Try.prog 10 #[.slice (some ⟨b, off, none⟩) len cap, .int .i64 p] w fun e w' => e = .returned (.tuple #[.agg #[.int .i64 c, .int .i64 (s16 (256 * (a1 : Int) + a2)), .int .i64 (0), .int .i64 3], .bool true]) ∧ Below w.heap.size w w' := by
  have HT : ∀ W, Calls Try.prog 18 #[.int .i64 c] W fun e w' => e = .returned (.agg #[.string ⟨nm.toArray⟩, .string ⟨#[115]⟩]) ∧ Below W.heap.size W w' := fun W => by
    have := table_any c W
    rw [hrow] at this
    exact this
  have HT' := Lib.hid HT
  clear HT
  have e0 : nm.isEmpty = false := by cases nm <;> simp_all
  clear hrow
  go_enter Try.func10, Try.ntmps10
  go_wp2_with fail
  refine (HT'.out _).mono ?_
  rintro e w1 ⟨rfl, hb1⟩
  have hz := hb1.size
  simp only [World.size_alloc] at hz
  have HB := Lib.hid hb1
  obtain ⟨hc, hf⟩ := bcell hb1
  have f0 := fun o => hf w.heap.size o (by simp)
  have d0 := hc w.heap.size 0 (by simp)
  have d1 := hc w.heap.size 1 (by simp)
  have d2 := hc w.heap.size 2 (by simp)
  have d3 := hc w.heap.size 3 (by simp)
  have g0 := hc b (off + p) (by simp; omega)
  rw [World.cell?_alloc_lt _ _ _ hb, h0] at g0
  have g1 := hc b (off + (p + 1)) (by simp; omega)
  rw [World.cell?_alloc_lt _ _ _ hb, h1] at g1
  have g2 := hc b (off + (p + 2)) (by simp; omega)
  rw [World.cell?_alloc_lt _ _ _ hb, h2] at g2
  have g2' : w1.cell? ⟨b, off + (p + 1) + 1, none⟩ = some (.int .u8 a2) := by rw [show off + (p + 1) + 1 = off + (p + 2) from by omega]; exact g2
  clear hc hf hb1
  simp [go_sem] at f0 d0 d1 d2 d3
  obtain ⟨x1, x2, x3, x4, x5, x6, x7, x8, x9, x10, x11, x12⟩ := far b w1.heap.size (by omega)
  obtain ⟨y1, y2, y3, y4, y5, y6, y7, y8, y9, y10, y11, y12⟩ := far w.heap.size w1.heap.size (by omega)
  go_wp2
  refine wp_loop_rounds 2 ?_
  rw [rounds_succ]
  go_wp2_with (first | (refine wpl_next (s := ⟨#[115]⟩) (pos := 0) rfl rfl rfl (iter_heap_at _ _ (by simp) _ _) 115 (by rfl) (by omega) ?_; intro W1 hk1 hc1 hf1 hs1 hh1 hb1; (try simp only [World.iter, World.size_alloc] at hc1 hf1 hs1); clear hh1) | go_in)
  go_quiet (fail)
  go_wp2
  rw [rounds_succ]
  go_wp2_with (refine wpl_next_end (s := ⟨#[115]⟩) (pos := 1) rfl rfl rfl (by simp [Below.heap_setCell, hk1]) (by decide) ?_)
  have q1 := fix_s16 a1 a2 hx1 hx2
  refine bodyPost_ret (v := .tuple #[.agg #[.int .i64 c, .int .i64 (s16 (256 * (a1 : Int) + a2)), .int .i64 (0), .int .i64 3], .bool true]) ?_ rfl ⟨rfl, ?_⟩
  · simp [results, Try.results10, go_sem, *]
  · have B0 : Below w.heap.size w w1 := ((Below.refl _ _).alloc (Nat.le_refl _) _).trans (HB.out.mono (by simp))
    have B1 : Below w.heap.size w W1 := by
      refine Below.trans ?_ (hb1.out.mono ?_)
      · repeat' (first | with_reducible exact B0 | with_reducible refine below_drewN ?_ _ | with_reducible refine Below.setCell ?_ ?_ _ | with_reducible refine Below.alloc ?_ ?_ _ | with_reducible refine below_iter ?_ ?_ _ _ | (simp; done) | (simp; omega) | omega)
      · omega
    repeat' (first | with_reducible exact B0 | with_reducible exact B1 | with_reducible refine below_drewN ?_ _ | with_reducible refine Below.setCell ?_ ?_ _ | with_reducible refine Below.alloc ?_ ?_ _ | with_reducible refine below_iter ?_ ?_ _ _ | (simp; done) | (simp; omega) | omega)

theorem dec_c_ok (b off len cap p : Nat) (c a1 a2 : Nat) (nm : List UInt8) (w : World) (hp : p < len) (hcap : len ≤ cap) (hm : len ≤ 9223372036854775807) (hc : c < 256) (hx1 : a1 < 256) (hx2 : a2 < 256)
    (hrow : rowOf c = (nm, [99])) (hnm : nm ≠ []) (h0 : w.cell? ⟨b, off + p, none⟩ = some (.int .u8 c)) (hb : b < w.heap.size) (hlen : p + 3 ≤ len) (h1 : w.cell? ⟨b, off + (p + 1), none⟩ = some (.int .u8 a1)) (h2 : w.cell? ⟨b, off + (p + 2), none⟩ = some (.int .u8 a2)) :
    Calls Try.prog 10 #[.slice (some ⟨b, off, none⟩) len cap, .int .i64 p] w fun e w' => e = .returned (.tuple #[.agg #[.int .i64 c, .int .i64 (256 * (a1 : Int) + a2), .int .i64 (0), .int .i64 3], .bool true]) ∧ Below w.heap.size w w' := by
  have HT : ∀ W, Calls Try.prog 18 #[.int .i64 c] W fun e w' => e = .returned (.agg #[.string ⟨nm.toArray⟩, .string ⟨#[99]⟩]) ∧ Below W.heap.size W w' := fun W => by
    have := table_any c W
    rw [hrow] at this
    exact this
  have HT' := Lib.hid HT
  clear HT
  have e0 : nm.isEmpty = false := by cases nm <;> simp_all
  clear hrow
  go_enter Try.func10, Try.ntmps10
  go_wp2_with fail
  refine (HT'.out _).mono ?_
  rintro e w1 ⟨rfl, hb1⟩
  have hz := hb1.size
  simp only [World.size_alloc] at hz
  have HB := Lib.hid hb1
  obtain ⟨hc, hf⟩ := bcell hb1
  have f0 := fun o => hf w.heap.size o (by simp)
  have d0 := hc w.heap.size 0 (by simp)
  have d1 := hc w.heap.size 1 (by simp)
  have d2 := hc w.heap.size 2 (by simp)
  have d3 := hc w.heap.size 3 (by simp)
  have g0 := hc b (off + p) (by simp; omega)
  rw [World.cell?_alloc_lt _ _ _ hb, h0] at g0
  have g1 := hc b (off + (p + 1)) (by simp; omega)
  rw [World.cell?_alloc_lt _ _ _ hb, h1] at g1
  have g2 := hc b (off + (p + 2)) (by simp; omega)
  rw [World.cell?_alloc_lt _ _ _ hb, h2] at g2
  have g2' : w1.cell? ⟨b, off + (p + 1) + 1, none⟩ = some (.int .u8 a2) := by rw [show off + (p + 1) + 1 = off + (p + 2) from by omega]; exact g2
  clear hc hf hb1
  simp [go_sem] at f0 d0 d1 d2 d3
  obtain ⟨x1, x2, x3, x4, x5, x6, x7, x8, x9, x10, x11, x12⟩ := far b w1.heap.size (by omega)
  obtain ⟨y1, y2, y3, y4, y5, y6, y7, y8, y9, y10, y11, y12⟩ := far w.heap.size w1.heap.size (by omega)
  go_wp2
  refine wp_loop_rounds 2 ?_
  rw [rounds_succ]
  go_wp2_with (first | (refine wpl_next (s := ⟨#[99]⟩) (pos := 0) rfl rfl rfl (iter_heap_at _ _ (by simp) _ _) 99 (by rfl) (by omega) ?_; intro W1 hk1 hc1 hf1 hs1 hh1 hb1; (try simp only [World.iter, World.size_alloc] at hc1 hf1 hs1); clear hh1) | go_in)
  go_quiet (fail)
  go_wp2
  rw [rounds_succ]
  go_wp2_with (refine wpl_next_end (s := ⟨#[99]⟩) (pos := 1) rfl rfl rfl (by simp [Below.heap_setCell, hk1]) (by decide) ?_)
  have q1 := fix_or64 a1 a2 hx1 hx2
  refine bodyPost_ret (v := .tuple #[.agg #[.int .i64 c, .int .i64 (256 * (a1 : Int) + a2), .int .i64 (0), .int .i64 3], .bool true]) ?_ rfl ⟨rfl, ?_⟩
  · simp [results, Try.results10, go_sem, *]
  · have B0 : Below w.heap.size w w1 := ((Below.refl _ _).alloc (Nat.le_refl _) _).trans (HB.out.mono (by simp))
    have B1 : Below w.heap.size w W1 := by
      refine Below.trans ?_ (hb1.out.mono ?_)
      · repeat' (first | with_reducible exact B0 | with_reducible refine below_drewN ?_ _ | with_reducible refine Below.setCell ?_ ?_ _ | with_reducible refine Below.alloc ?_ ?_ _ | with_reducible refine below_iter ?_ ?_ _ _ | (simp; done) | (simp; omega) | omega)
      · omega
    repeat' (first | with_reducible exact B0 | with_reducible exact B1 | with_reducible refine below_drewN ?_ _ | with_reducible refine Below.setCell ?_ ?_ _ | with_reducible refine Below.alloc ?_ ?_ _ | with_reducible refine below_iter ?_ ?_ _ _ | (simp; done) | (simp; omega) | omega)

theorem dec_b_short (b off len cap p : Nat) (c : Nat) (nm : List UInt8) (w : World) (hp : p < len) (hcap : len ≤ cap) (hm : len ≤ 9223372036854775807) (hc : c < 256)
    (hrow : rowOf c = (nm, [98])) (hnm : nm ≠ []) (h0 : w.cell? ⟨b, off + p, none⟩ = some (.int .u8 c)) (hb : b < w.heap.size) (hlen0 : p + 1 ≤ len) (hlen : len < p + 2) :
    Calls Try.prog 10 #[.slice (some ⟨b, off, none⟩) len cap, .int .i64 p] w fun e w' => e = .returned (.tuple #[.agg #[.int .i64 0, .int .i64 0, .int .i64 0, .int .i64 0], .bool false]) ∧ Below w.heap.size w w' := by
  have HT : ∀ W, Calls Try.prog 18 #[.int .i64 c] W fun e w' => e = .returned (.agg #[.string ⟨nm.toArray⟩, .string ⟨#[98]⟩]) ∧ Below W.heap.size W w' := fun W => by
    have := table_any c W
    rw [hrow] at this
    exact this
  have HT' := Lib.hid HT
  clear HT
  have e0 : nm.isEmpty = false := by cases nm <;> simp_all
  clear hrow
  go_enter Try.func10, Try.ntmps10
  go_wp2_with fail
  refine (HT'.out _).mono ?_
  rintro e w1 ⟨rfl, hb1⟩
  have hz := hb1.size
  simp only [World.size_alloc] at hz
  have HB := Lib.hid hb1
  obtain ⟨hc, hf⟩ := bcell hb1
  have f0 := fun o => hf w.heap.size o (by simp)
  have d0 := hc w.heap.size 0 (by simp)
  have d1 := hc w.heap.size 1 (by simp)
  have d2 := hc w.heap.size 2 (by simp)
  have d3 := hc w.heap.size 3 (by simp)
  have g0 := hc b (off + p) (by simp; omega)
  rw [World.cell?_alloc_lt _ _ _ hb, h0] at g0
  clear hc hf hb1
  simp [go_sem] at f0 d0 d1 d2 d3
  obtain ⟨x1, x2, x3, x4, x5, x6, x7, x8, x9, x10, x11, x12⟩ := far b w1.heap.size (by omega)
  obtain ⟨y1, y2, y3, y4, y5, y6, y7, y8, y9, y10, y11, y12⟩ := far w.heap.size w1.heap.size (by omega)
  go_wp2
  refine wp_loop_rounds 2 ?_
  rw [rounds_succ]
  go_wp2_with (first | (refine wpl_next (s := ⟨#[98]⟩) (pos := 0) rfl rfl rfl (iter_heap_at _ _ (by simp) _ _) 98 (by rfl) (by omega) ?_; intro W1 hk1 hc1 hf1 hs1 hh1 hb1; (try simp only [World.iter, World.size_alloc] at hc1 hf1 hs1); clear hh1) | go_in)
  refine bodyPost_ret (v := .tuple #[.agg #[.int .i64 0, .int .i64 0, .int .i64 0, .int .i64 0], .bool false]) ?_ rfl ⟨rfl, ?_⟩
  · simp [results, Try.results10, go_sem, *]
  · have B0 : Below w.heap.size w w1 := ((Below.refl _ _).alloc (Nat.le_refl _) _).trans (HB.out.mono (by simp))
    have B1 : Below w.heap.size w W1 := by
      refine Below.trans ?_ (hb1.out.mono ?_)
      · repeat' (first | with_reducible exact B0 | with_reducible refine below_drewN ?_ _ | with_reducible refine Below.setCell ?_ ?_ _ | with_reducible refine Below.alloc ?_ ?_ _ | with_reducible refine below_iter ?_ ?_ _ _ | (simp; done) | (simp; omega) | omega)
      · omega
    repeat' (first | with_reducible exact B0 | with_reducible exact B1 | with_reducible refine below_drewN ?_ _ | with_reducible refine Below.setCell ?_ ?_ _ | with_reducible refine Below.alloc ?_ ?_ _ | with_reducible refine below_iter ?_ ?_ _ _ | (simp; done) | (simp; omega) | omega)

theorem dec_f_short (b off len cap p : Nat) (c : Nat) (nm : List UInt8) (w : World) (hp : p < len) (hcap : len ≤ cap) (hm : len ≤ 9223372036854775807) (hc : c < 256)
    (hrow : rowOf c = (nm, [102])) (hnm : nm ≠ []) (h0 : w.cell? ⟨b, off + p, none⟩ = some (.int .u8 c)) (hb : b < w.heap.size) (hlen0 : p + 1 ≤ len) (hlen : len < p + 3) :
    Calls Try.prog 10 #[.slice (some ⟨b, off, none⟩) len cap, .int .i64 p] w fun e w' => e = .returned (.tuple #[.agg #[.int .i64 0, .int .i64 0, .int .i64 0, .int .i64 0], .bool false]) ∧ Below w.heap.size w w' := by
  have HT : ∀ W, Calls Try.prog 18 #[.int .i64 c] W fun e w' => e = .returned (.agg #[.string ⟨nm.toArray⟩, .string ⟨#[102]⟩]) ∧ Below W.heap.size W w' := fun W => by
    have := table_any c W
    rw [hrow] at this
    exact this
  have HT' := Lib.hid HT
  clear HT
  have e0 : nm.isEmpty = false := by cases nm <;> simp_all
  clear hrow
  go_enter Try.func10, Try.ntmps10
  go_wp2_with fail
  refine (HT'.out _).mono ?_
  rintro e w1 ⟨rfl, hb1⟩
  have hz := hb1.size
  simp only [World.size_alloc] at hz
  have HB := Lib.hid hb1
  obtain ⟨hc, hf⟩ := bcell hb1
  have f0 := fun o => hf w.heap.size o (by simp)
  have d0 := hc w.heap.size 0 (by simp)
  have d1 := hc w.heap.size 1 (by simp)
  have d2 := hc w.heap.size 2 (by simp)
  have d3 := hc w.heap.size 3 (by simp)
  have g0 := hc b (off + p) (by simp; omega)
  rw [World.cell?_alloc_lt _ _ _ hb, h0] at g0
  clear hc hf hb1
  simp [go_sem] at f0 d0 d1 d2 d3
  obtain ⟨x1, x2, x3, x4, x5, x6, x7, x8, x9, x10, x11, x12⟩ := far b w1.heap.size (by omega)
  obtain ⟨y1, y2, y3, y4, y5, y6, y7, y8, y9, y10, y11, y12⟩ := far w.heap.size w1.heap.size (by omega)
  go_wp2
  refine wp_loop_rounds 2 ?_
  rw [rounds_succ]
  go_wp2_with (first | (refine wpl_next (s := ⟨#[102]⟩) (pos := 0) rfl rfl rfl (iter_heap_at _ _ (by simp) _ _) 102 (by rfl) (by omega) ?_; intro W1 hk1 hc1 hf1 hs1 hh1 hb1; (try simp only [World.iter, World.size_alloc] at hc1 hf1 hs1); clear hh1) | go_in)
  refine bodyPost_ret (v := .tuple #[.agg #[.int .i64 0, .int .i64 0, .int .i64 0, .int .i64 0], .bool false]) ?_ rfl ⟨rfl, ?_⟩
  · simp [results, Try.results10, go_sem, *]
  · have B0 : Below w.heap.size w w1 := ((Below.refl _ _).alloc (Nat.le_refl _) _).trans (HB.out.mono (by simp))
    have B1 : Below w.heap.size w W1 := by
      refine Below.trans ?_ (hb1.out.mono ?_)
      · repeat' (first | with_reducible exact B0 | with_reducible refine below_drewN ?_ _ | with_reducible refine Below.setCell ?_ ?_ _ | with_reducible refine Below.alloc ?_ ?_ _ | with_reducible refine below_iter ?_ ?_ _ _ | (simp; done) | (simp; omega) | omega)
      · omega
    repeat' (first | with_reducible exact B0 | with_reducible exact B1 | with_reducible refine below_drewN ?_ _ | with_reducible refine Below.setCell ?_ ?_ _ | with_reducible refine Below.alloc ?_ ?_ _ | with_reducible refine below_iter ?_ ?_ _ _ | (simp; done) | (simp; omega) | omega)

theorem dec_ub_short (b off len cap p : Nat) (c : Nat) (nm : List UInt8) (w : World) (hp : p < len) (hcap : len ≤ cap) (hm : len ≤ 9223372036854775807) (hc : c < 256)
    (hrow : rowOf c = (nm, [117, 98])) (hnm : nm ≠ []) (h0 : w.cell? ⟨b, off + p, none⟩ = some (.int .u8 c)) (hb : b < w.heap.size) (hlen0 : p + 1 ≤ len) (hlen : len < p + 2) :
    Calls Try.prog 10 #[.slice (some ⟨b, off, none⟩) len cap, .int .i64 p] w fun e w' => e = .returned (.tuple #[.agg #[.int .i64 0, .int .i64 0, .int .i64 0, .int .i64 0], .bool false]) ∧ Below w.heap.size w w' := by
  have HT : ∀ W, Calls Try.prog 18 #[.int .i64 c] W fun e w' => e = .returned (.agg #[.string ⟨nm.toArray⟩, .string ⟨#[117, 98]⟩]) ∧ Below W.heap.size W w' := fun W => by
    have := table_any c W
    rw [hrow] at this
    exact this
  have HT' := Lib.hid HT
  clear HT
  have e0 : nm.isEmpty = false := by cases nm <;> simp_all
  clear hrow
  go_enter Try.func10, Try.ntmps10
  go_wp2_with fail
  refine (HT'.out _).mono ?_
  rintro e w1 ⟨rfl, hb1⟩
  have hz := hb1.size
  simp only [World.size_alloc] at hz
  have HB := Lib.hid hb1
  obtain ⟨hc, hf⟩ := bcell hb1
  have f0 := fun o => hf w.heap.size o (by simp)
  have d0 := hc w.heap.size 0 (by simp)
  have d1 := hc w.heap.size 1 (by simp)
  have d2 := hc w.heap.size 2 (by simp)
  have d3 := hc w.heap.size 3 (by simp)
  have g0 := hc b (off + p) (by simp; omega)
  rw [World.cell?_alloc_lt _ _ _ hb, h0] at g0
  clear hc hf hb1
  simp [go_sem] at f0 d0 d1 d2 d3
  obtain ⟨x1, x2, x3, x4, x5, x6, x7, x8, x9, x10, x11, x12⟩ := far b w1.heap.size (by omega)
  obtain ⟨y1, y2, y3, y4, y5, y6, y7, y8, y9, y10, y11, y12⟩ := far w.heap.size w1.heap.size (by omega)
  go_wp2
  refine wp_loop_rounds 3 ?_
  rw [rounds_succ]
  go_wp2_with (first | (refine wpl_next (s := ⟨#[117, 98]⟩) (pos := 0) rfl rfl rfl (iter_heap_at _ _ (by simp) _ _) 117 (by rfl) (by omega) ?_; intro W1 hk1 hc1 hf1 hs1 hh1 hb1; (try simp only [World.iter, World.size_alloc] at hc1 hf1 hs1); clear hh1) | go_in)
  refine bodyPost_ret (v := .tuple #[.agg #[.int .i64 0, .int .i64 0, .int .i64 0, .int .i64 0], .bool false]) ?_ rfl ⟨rfl, ?_⟩
  · simp [results, Try.results10, go_sem, *]
  · have B0 : Below w.heap.size w w1 := ((Below.refl _ _).alloc (Nat.le_refl _) _).trans (HB.out.mono (by simp))
    have B1 : Below w.heap.size w W1 := by
      refine Below.trans ?_ (hb1.out.mono ?_)
      · repeat' (first | with_reducible exact B0 | with_reducible refine below_drewN ?_ _ | with_reducible refine Below.setCell ?_ ?_ _ | with_reducible refine Below.alloc ?_ ?_ _ | with_reducible refine below_iter ?_ ?_ _ _ | (simp; done) | (simp; omega) | omega)
      · omega
    repeat' (first | with_reducible exact B0 | with_reducible exact B1 | with_reducible refine below_drewN ?_ _ | with_reducible refine Below.setCell ?_ ?_ _ | with_reducible refine Below.alloc ?_ ?_ _ | with_reducible refine below_iter ?_ ?_ _ _ | (simp; done) | (simp; omega) | omega)
end Go.Proofs.Ytgicbgeblgfnfaa
