/-
  What the loader's laws rest on, part 3: walks of the program's functions and plain laws. Conditions: none but those that each theorem names.
-/
import Derived.Test.YtdbniocnjhfhdaaGreatDoorB02
import Derived.Test.YtdbniocnjhfhdaaGreatDoorB01
import Derived.Test.YtdbniocnjhfhdaaGreatDoorB00
import Derived.Laws.BitsAllLaws
import Derived.Deep.QuietTactic
import Derived.BigQuiet

set_option linter.unusedSimpArgs false
set_option linter.unusedVariables false
set_option maxRecDepth 100000
set_option maxHeartbeats 2000000
namespace Go.Proofs.YtdbniocnjhfhdaaGreatDoor
open Go Go.RowKit Lib
def bareV (n s : ByteArray) : List Value :=
  [.int .u8 202, .int .u8 254, .int .u8 186, .int .u8 190] ++ [0, 52, 5].flatMap twoV ++ ([.int .u8 1] ++ twoV n.size ++ strCells n) ++ ([.int .u8 7] ++ twoV 1) ++ ([.int .u8 1] ++ twoV s.size ++ strCells s) ++ ([.int .u8 7] ++ twoV 3) ++ [33, 2, 4, 0].flatMap twoV ++ [0].flatMap twoV ++ [0].flatMap twoV ++ [0].flatMap twoV
theorem write4 (g cap : Nat) (n s : ByteArray) (hn : n.size ≤ 1000) (hs : s.size ≤ 1000) (hcap : 4 ≤ cap) (w : World) (hp : PoolAt w g (four n s)) (hg : g < w.heap.size) :
    Calls Tryz.prog 31 #[.agg #[.int .i64 0, .int .i64 52, .slice (some ⟨g, 0, none⟩) 4 cap, .int .i64 33, .int .i64 2, .int .i64 4, .slice none 0 0, .slice none 0 0, .slice none 0 0]] w fun e w' => ∃ g' cap', e = .returned (.tuple #[.slice (some ⟨g', 0, none⟩) (36 + n.size + s.size) cap', .int .i64 0]) ∧
      w'.ownsRow (w.heap.size + 1) 5 1 (.slice (some ⟨g', 0, none⟩) (36 + n.size + s.size) cap') (36 + n.size + s.size) (bareV n s) ∧ Below w.heap.size w w' := by
  have HP := Lib.hid hp
  clear hp
  obtain ⟨x1, x2, x3, x4, x5, x6, x7, x8, x9, x10, x11, x12⟩ := far g w.heap.size hg
  have hB0 := box_new w [.int .i64 0, .int .i64 52, .slice (some ⟨g, 0, none⟩) 4 cap, .int .i64 33, .int .i64 2, .int .i64 4, .slice none 0 0, .slice none 0 0, .slice none 0 0] 58
  have HB0 := Lib.hid hB0
  clear hB0
  have HW0 := Lib.hid ((Below.refl w.heap.size w).alloc (Nat.le_refl _) (.cells #[.int .i64 0, .int .i64 52, .slice (some ⟨g, 0, none⟩) 4 cap, .int .i64 33, .int .i64 2, .int .i64 4, .slice none 0 0, .slice none 0 0, .slice none 0 0] 58))
  have HP0 := Lib.hid (HP.out.below HW0.out hg)
  go_enter Tryz.func31, Tryz.ntmps31
  go_wp2_with (go_at_call 50; refine (refused4 g cap n s hn hs hcap _ HP0.out (by simp; omega)).mono ?_; rintro e w1 ⟨rfl, hb1⟩; refine stop_here ?_)
  have hz1 := hb1.size
  simp only [World.size_alloc] at hz1 hb1
  have HB1 := Lib.hid (HB0.out.below hb1 (by omega))
  have HP1 := Lib.hid (HP0.out.below hb1 (by omega))
  have HW1 := Lib.hid (HW0.out.trans (hb1.mono (by omega)))
  clear hb1 HB0 HP0 HW0
  refine go_on ?_
  go_wp2_with (go_at_call 51; refine (put4_any _ _).mono ?_; rintro e w2 ⟨r, rfl, hq, hb2⟩; refine stop_here ?_)
  obtain ⟨g2, c2, rfl, _, _⟩ := hq.form (by omega)
  have hz2 := hb2.size
  have HB2 := Lib.hid (HB1.out.below hb2 (by omega))
  have HP2 := Lib.hid (HP1.out.below hb2 (by omega))
  have HW2 := Lib.hid (HW1.out.trans (hb2.mono (by omega)))
  have HO2 := Lib.hid (own_eq (ys := ([.int .u8 202, .int .u8 254, .int .u8 186, .int .u8 190] : List Value)) (own_low hq (by omega : w.heap.size + 1 ≤ w1.heap.size)) rfl (by simp))
  clear hq hb2 HB1 HP1 HW1
  refine go_on ?_
  have hz2 := Nat.le_trans hz1 hz2
  obtain ⟨m3, hm3⟩ : ∃ m, m = 4 + 2 * 3 := ⟨_, rfl⟩
  have hl3 : m3 ≤ 3100 := by omega
  have hp3 : 0 < m3 := by omega
  have hM3 := Lib.hid hm3
  clear hm3
  have b0 := HB2.out 0 _ rfl
  have b1 := HB2.out 1 _ rfl
  have b2 := HB2.out 2 _ rfl
  obtain ⟨y1, y2, y3, y4, y5, y6, y7, y8, y9, y10, y11, y12⟩ := far w.heap.size w2.heap.size (by omega)
  go_wp2_with (go_at_call 52; refine (two_new (w.heap.size + 1) g2 4 c2 _ [0, 52, 5] 3 m3 hM3.out w2 HO2.out (by omega) (by omega) (by omega) rfl (by omega)).mono ?_; rintro e w3 ⟨g3, c3, rfl, ho3, hb3⟩; refine stop_here ?_)
  clear y1 y2 y3 y4 y5 y6 y7 y8 y9 y10 y11 y12
  have hz3 := Nat.le_trans hz2 hb3.size
  have HB3 := Lib.hid (HB2.out.below hb3 (by omega))
  have HP3 := Lib.hid (HP2.out.below hb3 (by omega))
  have HW3 := Lib.hid (HW2.out.trans (hb3.mono (by omega)))
  have HO3 := Lib.hid ho3
  clear ho3 hb3 HB2 HP2 HW2 HO2 b0 b1 b2
  refine go_on ?_
  go_wp2_with fail
  refine wp_loop_rounds 5 ?_
  obtain ⟨m4, hm4⟩ : ∃ m, m = m3 + 3 + n.size := ⟨_, rfl⟩
  have hl4 : m4 ≤ 3100 := by have := hM3.out; omega
  have hp4 : 0 < m4 := by omega
  have hM4 := Lib.hid hm4
  clear hm4
  rw [rounds_succ]
  have b2 := HB3.out 2 _ rfl
  obtain ⟨d0, d1, d2, d3, d4⟩ := HP3.out 0 _ rfl
  go_wp2_with (go_at_call 53; refine (text_low (w.heap.size + 1) g3 m3 c3 _ n m4 hM4.out w3 HO3.out (by omega) (by omega) (by omega) hn).mono ?_; rintro e w4 ⟨g4, c4, rfl, ho4, hb4⟩; refine stop_here ?_)
  clear d0 d1 d2 d3 d4
  have hz4 := Nat.le_trans hz3 hb4.size
  have HB4 := Lib.hid (HB3.out.below hb4 (by omega))
  have HP4 := Lib.hid (HP3.out.below hb4 (by omega))
  have HW4 := Lib.hid (HW3.out.trans (hb4.mono (by omega)))
  have HO4 := Lib.hid ho4
  clear ho4 hb4 HB3 HP3 HW3 HO3 b2
  refine go_on ?_
  have hbig : ¬ (65536 : Int) < (m4 : Int) := by omega
  have hbig2 : ¬ 65536 < m4 := by omega
  go_wp2_with fail
  clear hbig hbig2
  obtain ⟨m5, hm5⟩ : ∃ m, m = m4 + 3 := ⟨_, rfl⟩
  have hl5 : m5 ≤ 3100 := by have := hM3.out; have := hM4.out; omega
  have hp5 : 0 < m5 := by omega
  have hM5 := Lib.hid hm5
  clear hm5
  rw [rounds_succ]
  have b2 := HB4.out 2 _ rfl
  obtain ⟨d0, d1, d2, d3, d4⟩ := HP4.out 1 _ rfl
  simp only [Nat.reduceMul, Nat.reduceAdd] at d0 d1 d2 d3 d4
  go_wp2_with (go_at_call 53; refine (class_low (w.heap.size + 1) g4 m4 c4 _ 1 m5 hM5.out w4 HO4.out (by omega) (by omega) (by omega)).mono ?_; rintro e w5 ⟨g5, c5, rfl, ho5, hb5⟩; refine stop_here ?_)
  clear d0 d1 d2 d3 d4
  have hz5 := Nat.le_trans hz4 hb5.size
  have HB5 := Lib.hid (HB4.out.below hb5 (by omega))
  have HP5 := Lib.hid (HP4.out.below hb5 (by omega))
  have HW5 := Lib.hid (HW4.out.trans (hb5.mono (by omega)))
  have HO5 := Lib.hid ho5
  clear ho5 hb5 HB4 HP4 HW4 HO4 b2
  refine go_on ?_
  have hbig : ¬ (65536 : Int) < (m5 : Int) := by omega
  have hbig2 : ¬ 65536 < m5 := by omega
  go_wp2_with fail
  clear hbig hbig2
  obtain ⟨m6, hm6⟩ : ∃ m, m = m5 + 3 + s.size := ⟨_, rfl⟩
  have hl6 : m6 ≤ 3100 := by have := hM3.out; have := hM4.out; have := hM5.out; omega
  have hp6 : 0 < m6 := by omega
  have hM6 := Lib.hid hm6
  clear hm6
  rw [rounds_succ]
  have b2 := HB5.out 2 _ rfl
  obtain ⟨d0, d1, d2, d3, d4⟩ := HP5.out 2 _ rfl
  simp only [Nat.reduceMul, Nat.reduceAdd] at d0 d1 d2 d3 d4
  go_wp2_with (go_at_call 53; refine (text_low (w.heap.size + 1) g5 m5 c5 _ s m6 hM6.out w5 HO5.out (by omega) (by omega) (by omega) hs).mono ?_; rintro e w6 ⟨g6, c6, rfl, ho6, hb6⟩; refine stop_here ?_)
  clear d0 d1 d2 d3 d4
  have hz6 := Nat.le_trans hz5 hb6.size
  have HB6 := Lib.hid (HB5.out.below hb6 (by omega))
  have HP6 := Lib.hid (HP5.out.below hb6 (by omega))
  have HW6 := Lib.hid (HW5.out.trans (hb6.mono (by omega)))
  have HO6 := Lib.hid ho6
  clear ho6 hb6 HB5 HP5 HW5 HO5 b2
  refine go_on ?_
  have hbig : ¬ (65536 : Int) < (m6 : Int) := by omega
  have hbig2 : ¬ 65536 < m6 := by omega
  go_wp2_with fail
  clear hbig hbig2
  obtain ⟨m7, hm7⟩ : ∃ m, m = m6 + 3 := ⟨_, rfl⟩
  have hl7 : m7 ≤ 3100 := by have := hM3.out; have := hM4.out; have := hM5.out; have := hM6.out; omega
  have hp7 : 0 < m7 := by omega
  have hM7 := Lib.hid hm7
  clear hm7
  rw [rounds_succ]
  have b2 := HB6.out 2 _ rfl
  obtain ⟨d0, d1, d2, d3, d4⟩ := HP6.out 3 _ rfl
  simp only [Nat.reduceMul, Nat.reduceAdd] at d0 d1 d2 d3 d4
  go_wp2_with (go_at_call 53; refine (class_low (w.heap.size + 1) g6 m6 c6 _ 3 m7 hM7.out w6 HO6.out (by omega) (by omega) (by omega)).mono ?_; rintro e w7 ⟨g7, c7, rfl, ho7, hb7⟩; refine stop_here ?_)
  clear d0 d1 d2 d3 d4
  have hz7 := Nat.le_trans hz6 hb7.size
  have HB7 := Lib.hid (HB6.out.below hb7 (by omega))
  have HP7 := Lib.hid (HP6.out.below hb7 (by omega))
  have HW7 := Lib.hid (HW6.out.trans (hb7.mono (by omega)))
  have HO7 := Lib.hid ho7
  clear ho7 hb7 HB6 HP6 HW6 HO6 b2
  refine go_on ?_
  have hbig : ¬ (65536 : Int) < (m7 : Int) := by omega
  have hbig2 : ¬ 65536 < m7 := by omega
  go_wp2_with fail
  clear hbig hbig2
  rw [rounds_succ]
  obtain ⟨m8, hm8⟩ : ∃ m, m = m7 + 2 * 4 := ⟨_, rfl⟩
  have hl8 : m8 ≤ 3100 := by have := hM3.out; have := hM4.out; have := hM5.out; have := hM6.out; have := hM7.out; omega
  have hp8 : 0 < m8 := by omega
  have hM8 := Lib.hid hm8
  clear hm8
  have b2 := HB7.out 2 _ rfl
  have b3 := HB7.out 3 _ rfl
  have b4 := HB7.out 4 _ rfl
  have b5 := HB7.out 5 _ rfl
  have b6 := HB7.out 6 _ rfl
  obtain ⟨y1, y2, y3, y4, y5, y6, y7, y8, y9, y10, y11, y12⟩ := far w.heap.size w7.heap.size (by omega)
  go_wp2_with (go_at_call 52; refine (two_new (w.heap.size + 1) g7 m7 c7 _ [33, 2, 4, 0] 4 m8 hM8.out w7 HO7.out (by omega) (by omega) (by omega) rfl (by omega)).mono ?_; rintro e w8 ⟨g8, c8, rfl, ho8, hb8⟩; refine stop_here ?_)
  clear y1 y2 y3 y4 y5 y6 y7 y8 y9 y10 y11 y12
  have hz8 := Nat.le_trans hz7 hb8.size
  have HB8 := Lib.hid (HB7.out.below hb8 (by omega))
  have HP8 := Lib.hid (HP7.out.below hb8 (by omega))
  have HW8 := Lib.hid (HW7.out.trans (hb8.mono (by omega)))
  have HO8 := Lib.hid ho8
  clear ho8 hb8 HB7 HP7 HW7 HO7 b2 b3 b4 b5 b6
  refine go_on ?_
  have b6 := HB8.out 6 _ rfl
  go_wp2_with (go_at_call 52; refine (two_nothing g8 m8 c8 _).mono ?_; rintro e w9 ⟨rfl, rfl⟩; refine stop_here ?_)
  clear b6
  refine go_on ?_
  obtain ⟨m9, hm9⟩ : ∃ m, m = m8 + 2 * 1 := ⟨_, rfl⟩
  have hl9 : m9 ≤ 3100 := by have := hM3.out; have := hM4.out; have := hM5.out; have := hM6.out; have := hM7.out; have := hM8.out; omega
  have hp9 : 0 < m9 := by omega
  have hM9 := Lib.hid hm9
  clear hm9
  have b7 := HB8.out 7 _ rfl
  obtain ⟨y1, y2, y3, y4, y5, y6, y7, y8, y9, y10, y11, y12⟩ := far w.heap.size w8.heap.size (by omega)
  go_wp2_with (go_at_call 52; refine (two_new (w.heap.size + 1) g8 m8 c8 _ [0] 1 m9 hM9.out w8 HO8.out (by omega) (by omega) (by omega) rfl (by omega)).mono ?_; rintro e w9 ⟨g9, c9, rfl, ho9, hb9⟩; refine stop_here ?_)
  clear y1 y2 y3 y4 y5 y6 y7 y8 y9 y10 y11 y12
  have hz9 := Nat.le_trans hz8 hb9.size
  have HB9 := Lib.hid (HB8.out.below hb9 (by omega))
  have HP9 := Lib.hid (HP8.out.below hb9 (by omega))
  have HW9 := Lib.hid (HW8.out.trans (hb9.mono (by omega)))
  have HO9 := Lib.hid ho9
  clear ho9 hb9 HB8 HP8 HW8 HO8 b7
  refine go_on ?_
  have b0 := HB9.out 0 _ rfl
  have b1 := HB9.out 1 _ rfl
  have b2 := HB9.out 2 _ rfl
  have b3 := HB9.out 3 _ rfl
  have b4 := HB9.out 4 _ rfl
  have b5 := HB9.out 5 _ rfl
  have b6 := HB9.out 6 _ rfl
  have b7 := HB9.out 7 _ rfl
  have b8 := HB9.out 8 _ rfl
  go_wp2_with (go_at_call 54; refine (named4 g cap n s _ hn hs hcap _ HP9.out (by omega)).mono ?_; rintro e w10 ⟨i10, rfl, hb10⟩; refine stop_here ?_)
  have hz10 := Nat.le_trans hz9 hb10.size
  have HB10 := Lib.hid (HB9.out.below hb10 (by omega))
  have HP10 := Lib.hid (HP9.out.below hb10 (by omega))
  have HW10 := Lib.hid (HW9.out.trans (hb10.mono (by omega)))
  have HO10 := Lib.hid (own_heap HO9.out fun q hq => hb10.block q (HO9.out.lt q hq).2)
  clear hb10 HB9 HP9 HW9 HO9 b0 b1 b2 b3 b4 b5 b6 b7 b8
  refine go_on ?_
  have b7 := HB10.out 7 _ rfl
  have b8 := HB10.out 8 _ rfl
  go_wp2_with fail
  refine wp_loop_rounds 1 ?_
  rw [rounds_succ]
  obtain ⟨m11, hm11⟩ : ∃ m, m = m9 + 2 * 1 := ⟨_, rfl⟩
  have hl11 : m11 ≤ 3100 := by have := hM3.out; have := hM4.out; have := hM5.out; have := hM6.out; have := hM7.out; have := hM8.out; have := hM9.out; omega
  have hp11 : 0 < m11 := by omega
  have hM11 := Lib.hid hm11
  clear hm11
  have b8 := HB10.out 8 _ rfl
  obtain ⟨y1, y2, y3, y4, y5, y6, y7, y8, y9, y10, y11, y12⟩ := far w.heap.size w10.heap.size (by omega)
  go_wp2_with (go_at_call 52; refine (two_new (w.heap.size + 1) g9 m9 c9 _ [0] 1 m11 hM11.out w10 HO10.out (by omega) (by omega) (by omega) rfl (by omega)).mono ?_; rintro e w11 ⟨g11, c11, rfl, ho11, hb11⟩; refine stop_here ?_)
  clear y1 y2 y3 y4 y5 y6 y7 y8 y9 y10 y11 y12
  have hz11 := Nat.le_trans hz10 hb11.size
  have HB11 := Lib.hid (HB10.out.below hb11 (by omega))
  have HP11 := Lib.hid (HP10.out.below hb11 (by omega))
  have HW11 := Lib.hid (HW10.out.trans (hb11.mono (by omega)))
  have HO11 := Lib.hid ho11
  clear ho11 hb11 HB10 HP10 HW10 HO10 b8
  refine go_on ?_
  clear b7
  have b0 := HB11.out 0 _ rfl
  have b1 := HB11.out 1 _ rfl
  have b2 := HB11.out 2 _ rfl
  have b3 := HB11.out 3 _ rfl
  have b4 := HB11.out 4 _ rfl
  have b5 := HB11.out 5 _ rfl
  have b6 := HB11.out 6 _ rfl
  have b7 := HB11.out 7 _ rfl
  have b8 := HB11.out 8 _ rfl
  go_wp2_with (go_at_call 54; refine (named4 g cap n s _ hn hs hcap _ HP11.out (by omega)).mono ?_; rintro e w12 ⟨i12, rfl, hb12⟩; refine stop_here ?_)
  have hz12 := Nat.le_trans hz11 hb12.size
  have HB12 := Lib.hid (HB11.out.below hb12 (by omega))
  have HP12 := Lib.hid (HP11.out.below hb12 (by omega))
  have HW12 := Lib.hid (HW11.out.trans (hb12.mono (by omega)))
  have HO12 := Lib.hid (own_heap HO11.out fun q hq => hb12.block q (HO11.out.lt q hq).2)
  clear hb12 HB11 HP11 HW11 HO11 b0 b1 b2 b3 b4 b5 b6 b7 b8
  refine go_on ?_
  have b8 := HB12.out 8 _ rfl
  go_wp2_with fail
  refine wp_loop_rounds 1 ?_
  rw [rounds_succ]
  obtain ⟨m13, hm13⟩ : ∃ m, m = m11 + 2 * 1 := ⟨_, rfl⟩
  have hl13 : m13 ≤ 3100 := by have := hM3.out; have := hM4.out; have := hM5.out; have := hM6.out; have := hM7.out; have := hM8.out; have := hM9.out; have := hM11.out; omega
  have hp13 : 0 < m13 := by omega
  have hM13 := Lib.hid hm13
  clear hm13

  obtain ⟨y1, y2, y3, y4, y5, y6, y7, y8, y9, y10, y11, y12⟩ := far w.heap.size w12.heap.size (by omega)
  go_wp2_with (go_at_call 52; refine (two_new (w.heap.size + 1) g11 m11 c11 _ [0] 1 m13 hM13.out w12 HO12.out (by omega) (by omega) (by omega) rfl (by omega)).mono ?_; rintro e w13 ⟨g13, c13, rfl, ho13, hb13⟩; refine stop_here ?_)
  clear y1 y2 y3 y4 y5 y6 y7 y8 y9 y10 y11 y12
  have hz13 := Nat.le_trans hz12 hb13.size
  have HB13 := Lib.hid (HB12.out.below hb13 (by omega))
  have HP13 := Lib.hid (HP12.out.below hb13 (by omega))
  have HW13 := Lib.hid (HW12.out.trans (hb13.mono (by omega)))
  have HO13 := Lib.hid ho13
  clear ho13 hb13 HB12 HP12 HW12 HO12
  refine go_on ?_
  clear b8
  have hbig : ¬ (65536 : Int) < (m13 : Int) := by omega
  have hbig2 : ¬ 65536 < m13 := by omega
  go_wp2_with fail
  have hN : m13 = 36 + n.size + s.size := by have := hM3.out; have := hM4.out; have := hM5.out; have := hM6.out; have := hM7.out; have := hM8.out; have := hM9.out; have := hM11.out; have := hM13.out;  omega
  rw [← hN]
  have HO := Lib.hid (own_eq (ys := bareV n s) HO13.out rfl (by unfold bareV; rfl))
  clear hN
  go_ret2
  exact ⟨g13, c13, rfl, HO.out, HW13.out⟩
end Go.Proofs.YtdbniocnjhfhdaaGreatDoor

set_option linter.unusedSimpArgs false
set_option linter.unusedVariables false
namespace Go.Proofs.YtdbniocnjhfhdaaGreatDoor
open Go Go.RowKit Lib
theorem bV_hi (n : Nat) (h : n < 65536) : bV (hiB n) = .int .u8 ((n : Int) / 256 % 256) := by
  unfold hiB
  rw [← bV_ofNat _ (by omega)]
  congr 1
  omega
theorem bV_lo (n : Nat) : bV (loB n) = .int .u8 ((n : Int) % 256) := by
  unfold loB
  rw [← bV_ofNat _ (by omega)]
  congr 1
theorem bareV_eq (n s : ByteArray) (hn : n.size ≤ 1000) (hs : s.size ≤ 1000) : bareV n s = (bareL n.data.toList s.data.toList).map bV := by
  have e1 : n.data.toList.length = n.size := by simp
  have e2 : s.data.toList.length = s.size := by simp
  unfold bareV bareL
  simp only [List.map_append, List.map_cons, List.map_nil, e1, e2, bV_hi n.size (by omega), bV_hi s.size (by omega), bV_lo, twoV, strCells, List.flatMap_cons, List.flatMap_nil, List.append_assoc, List.cons_append, List.nil_append, List.append_nil]
  simp [bV]
  try rfl
end Go.Proofs.YtdbniocnjhfhdaaGreatDoor

set_option linter.unusedSimpArgs false
set_option linter.unusedVariables false
namespace Go.Proofs.YtdbniocnjhfhdaaGreatDoor
open Go Go.RowKit
theorem i64_or_nat (a b : Nat) (ha : a < 9223372036854775808) (hb : b < 9223372036854775808) : bits .or .i64 (a : Int) (b : Int) = ((a ||| b : Nat) : Int) := by
  have hx : a ||| b < 2 ^ 63 := Nat.or_lt_two_pow (by omega) (by omega)
  show IntKind.i64.wrap ((BitVec.ofInt 64 (a : Int) ||| BitVec.ofInt 64 (b : Int)).toNat : Int) = _
  rw [BitVec.toNat_or, ofInt_u64 a (by omega), ofInt_u64 b (by omega), IntKind.wrap_i64]
  omega
theorem i64_and_nat (a b : Nat) (ha : a < 9223372036854775808) (hb : b < 9223372036854775808) : bits .and .i64 (a : Int) (b : Int) = ((a &&& b : Nat) : Int) := by
  have hx : a &&& b < 2 ^ 63 := Nat.and_lt_two_pow _ (by omega)
  show IntKind.i64.wrap ((BitVec.ofInt 64 (a : Int) &&& BitVec.ofInt 64 (b : Int)).toNat : Int) = _
  rw [BitVec.toNat_and, ofInt_u64 a (by omega), ofInt_u64 b (by omega), IntKind.wrap_i64]
  omega
theorem or_byte (v x : Nat) (hx : x < 256) (hv : v < 16777216) : bits .or .i64 (((v * 256 : Nat) : Int)) (x : Int) = ((v * 256 + x : Nat) : Int) := by
  rw [i64_or_nat _ _ (by omega) (by omega)]
  congr 1
  rw [show v * 256 = v <<< 8 by rw [Nat.shiftLeft_eq], ← Nat.shiftLeft_add_eq_or_of_lt (by omega)]
end Go.Proofs.YtdbniocnjhfhdaaGreatDoor

set_option linter.unusedSimpArgs false
set_option linter.unusedVariables false
set_option maxRecDepth 100000
set_option maxHeartbeats 1000000
namespace Go.Proofs.YtdbniocnjhfhdaaGreatDoor
open Go Go.RowKit Lib
structure RdrAt (w : World) (r : Nat) (A : Option Addr) (cap : Nat) (l : List UInt8) (st : Rs) : Prop where
  c0 : w.cell? ⟨r, 0, none⟩ = some (.slice A l.length cap)
  c1 : w.cell? ⟨r, 1, none⟩ = some (.int .i64 st.pos)
  c2 : w.cell? ⟨r, 2, none⟩ = some (.int .i64 st.most)
  c3 : w.cell? ⟨r, 3, none⟩ = some (.int .i64 st.named)
  fz : ∀ o, w.frozen? ⟨r, o, none⟩ = false
  rd : RdB w A l.length cap l
  ne : ∀ a, A = some a → a.block ≠ r
  lt : r < w.heap.size
  len : l.length ≤ 65536
  pos : st.pos ≤ l.length
  pm : st.pos ≤ st.most
  most : st.most ≤ 4611686018427387904
structure RB (r : Nat) (w w' : World) : Prop where
  but : But w.heap.size [r] w w'
  c4 : w'.cell? ⟨r, 4, none⟩ = w.cell? ⟨r, 4, none⟩
theorem RB.refl (r : Nat) (w : World) : RB r w w := ⟨But.refl _ _ _, rfl⟩
theorem RB.of_below {r : Nat} {w w' : World} (hr : r < w.heap.size) (h : Below w.heap.size w w') : RB r w w' := ⟨But.of_below h, h.cell (p := ⟨r, 4, none⟩) hr⟩
def stopV (a e : Nat) : Value := .iface 171 (.agg #[.int .i64 a, .int .i64 e])
def RPost {α : Type} (w : World) (r : Nat) (A : Option Addr) (cap : Nat) (l : List UInt8) (p : Rx α) (rep : α → Value → World → Prop) (e : Ending) (w' : World) : Prop :=
  RB r w w' ∧ match p with
    | .ok (x, st') => ∃ v, e = .returned v ∧ rep x v w' ∧ RdrAt w' r A cap l st'
    | .error (a, er) => e = .panicked [{ v := stopV a er, recovered := false }]
theorem RdB.but {w w' : World} {A : Option Addr} {len cap : Nat} {l : List UInt8} {S : List Nat} (h : RdB w A len cap l) (hb : But w.heap.size S w w') (hs : ∀ a, A = some a → a.block ∉ S) : RdB w' A len cap l :=
  ⟨h.hlen, h.hle, h.hmax, fun h0 => by
    obtain ⟨b, off, rfl, hlt, hc⟩ := h.hat h0
    have hs' : b ∉ S := hs _ rfl
    exact ⟨b, off, rfl, Nat.lt_of_lt_of_le hlt hb.size, fun i hi => (hb.cell (p := ⟨b, off + i, none⟩) hlt hs').trans (hc i hi)⟩⟩
theorem RdrAt.keep {w w' : World} {r : Nat} {A : Option Addr} {cap : Nat} {l : List UInt8} {st : Rs} (h : RdrAt w r A cap l st) (hb : Below w.heap.size w w') : RdrAt w' r A cap l st where
  c0 := (hb.cell (p := ⟨r, 0, none⟩) h.lt).trans h.c0
  c1 := (hb.cell (p := ⟨r, 1, none⟩) h.lt).trans h.c1
  c2 := (hb.cell (p := ⟨r, 2, none⟩) h.lt).trans h.c2
  c3 := (hb.cell (p := ⟨r, 3, none⟩) h.lt).trans h.c3
  fz := fun o => (hb.frozen (p := ⟨r, o, none⟩) h.lt).trans (h.fz o)
  rd := h.rd.below hb
  ne := h.ne
  lt := Nat.lt_of_lt_of_le h.lt hb.size
  len := h.len
  pos := h.pos
  pm := h.pm
  most := h.most
theorem rpost_error {α : Type} {w w' : World} {r : Nat} {A : Option Addr} {cap : Nat} {l : List UInt8} {p : Rx α} {rep : α → Value → World → Prop} {a er : Nat} (hp : p = .error (a, er)) (hb : RB r w w') : RPost w r A cap l p rep (.panicked [{ v := stopV a er, recovered := false }]) w' := by
  subst hp
  exact ⟨hb, rfl⟩
theorem rpost_ok {α : Type} {w w' : World} {r : Nat} {A : Option Addr} {cap : Nat} {l : List UInt8} {p : Rx α} {rep : α → Value → World → Prop} {x : α} {st' : Rs} {v : Value} (hp : p = .ok (x, st')) (hb : RB r w w') (hr : rep x v w') (hs : RdrAt w' r A cap l st') : RPost w r A cap l p rep (.returned v) w' := by
  subst hp
  exact ⟨hb, v, rfl, hr, hs⟩
theorem But.set {B : Nat} {S : List Nat} {a w : World} (h : But B S a w) (p : Addr) (hp : p.block ∈ S ∨ B ≤ p.block) (v : Value) : But B S a (w.setCell p v) := by
  have hb : Below p.block w (w.setCell p v) := (Below.refl _ _).setCell (Nat.le_refl _) v
  refine h.trans ⟨hb.os, hb.tape, hb.output, hb.size, fun k hk hs => Below.heap_setCell w p v k (fun e => ?_)⟩
  subst e
  rcases hp with hp | hp
  · exact hs hp
  · omega
theorem RB.moved {r : Nat} {a w : World} (h : RB r a w) (v : Value) : RB r a (w.setCell ⟨r, 1, none⟩ v) := ⟨h.but.set ⟨r, 1, none⟩ (.inl (by simp)) v, (World.cell?_setCell_other _ _ _ _ (by simp)).trans h.c4⟩
theorem rdr_moved {w : World} {r : Nat} {A : Option Addr} {cap : Nat} {l : List UInt8} {st : Rs} (h : RdrAt w r A cap l st) (n : Nat) (h1 : st.pos + n ≤ l.length) (h2 : st.pos + n ≤ st.most) :
    RdrAt (w.setCell ⟨r, 1, none⟩ (.int .i64 ((st.pos : Int) + n))) r A cap l { st with pos := st.pos + n } where
  c0 := (World.cell?_setCell_other _ _ _ _ (by simp)).trans h.c0
  c1 := by
    have := h.c1
    have e : (Value.int .i64 ((st.pos : Int) + n)) = .int .i64 ((st.pos + n : Nat) : Int) := by rw [Int.natCast_add]
    rw [e]
    exact World.cell?_setCell_same _ _ _ h.c1
  c2 := (World.cell?_setCell_other _ _ _ _ (by simp)).trans h.c2
  c3 := (World.cell?_setCell_other _ _ _ _ (by simp)).trans h.c3
  fz := fun o => by simp [go_sem, h.fz o]
  rd := h.rd.but ((But.refl w.heap.size [r] w).set ⟨r, 1, none⟩ (.inl (by simp)) _) (fun a ha => by simpa using h.ne a ha)
  ne := h.ne
  lt := by simpa using h.lt
  len := h.len
  pos := h1
  pm := h2
  most := h.most
theorem RdB.shut {w : World} {A : Option Addr} {len cap : Nat} {l : List UInt8} (h : RdB w A len cap l) : ∀ c, len ≤ c → RdB w A len c l := fun c hc => ⟨h.hlen, hc, h.hmax, h.hat⟩
theorem wrong_any (r : Value) (a e : Nat) (w : World) : Calls Tryz.prog 118 #[r, .int .i64 a, .int .i64 e] w fun en w' => en = .panicked [{ v := stopV a e, recovered := false }] ∧ w = w' := by
  go_enter Tryz.func118, Tryz.ntmps118
  go_wp2
  exact ⟨rfl, rfl, rfl⟩
theorem bytes_all (r : Nat) (A : Option Addr) (cap n : Nat) (l : List UInt8) (st : Rs) (w : World) (h : RdrAt w r A cap l st) (hn : n ≤ 4294967296) :
    Calls Tryz.prog 136 #[.pointer (some ⟨r, 0, none⟩), .int .i64 n] w (RPost w r A cap l (bytesP l n st) fun x v w' => (∃ A' cap', v = .slice A' x.length cap' ∧ RdB w' A' x.length cap' x) ∧ w'.heap.size = w.heap.size) := by
  have H := Lib.hid h
  have c0 := h.c0
  have c1 := h.c1
  have c2 := h.c2
  have c3 := h.c3
  have p0 := h.pos
  have p1 := h.pm
  have p2 := h.most
  have p3 := h.len
  have fz := h.fz 1
  have hle := h.rd.hle
  clear h
  by_cases h1 : l.length < st.pos + n
  · have HP := Lib.hid (show bytesP l n st = .error (st.pos, 10) by simp [bytesP, h1])
    go_enter Tryz.func136, Tryz.ntmps136
    go_wp2
    go_quiet (fail)
    go_wp2_with (go_at_call 118; refine (wrong_any _ _ _ _).mono ?_; rintro e w1 ⟨rfl, rfl⟩)
    exact ⟨rfl, rpost_error HP.out (RB.of_below H.out.lt (below_drewN (Below.refl _ _) _))⟩
  · by_cases h2 : st.most < st.pos + n
    · have HP := Lib.hid (show bytesP l n st = .error (st.named, 25) by simp [bytesP, h1, h2])
      go_enter Tryz.func136, Tryz.ntmps136
      go_wp2
      go_quiet (fail)
      go_wp2
      go_quiet (fail)
      go_wp2_with (go_at_call 118; refine (wrong_any _ _ _ _).mono ?_; rintro e w1 ⟨rfl, rfl⟩)
      exact ⟨rfl, rpost_error HP.out (RB.of_below H.out.lt (below_drewN (Below.refl _ _) _))⟩
    · have HP := Lib.hid (show bytesP l n st = .ok ((l.drop st.pos).take n, { st with pos := st.pos + n }) by simp [bytesP, h1, h2])
      have HW := fun k => rdr_moved (H.out.keep (below_drewN (Below.refl _ _) k)) n (by omega) (by omega)
      have HW' := Lib.hid HW
      have HB := Lib.hid fun k => (RB.moved (RB.of_below H.out.lt (below_drewN (Below.refl w.heap.size w) k)) (.int .i64 ((st.pos : Int) + n)))
      clear HW
      rcases Nat.eq_zero_or_pos n with h0 | h0
      · subst h0
        have HR := Lib.hid (fun (W : World) (A' : Option Addr) (c : Nat) => (⟨rfl, Nat.zero_le _, by omega, fun h => absurd h (by omega)⟩ : RdB W A' 0 c []))
        go_enter Tryz.func136, Tryz.ntmps136
        go_wp2
        go_quiet (fail)
        go_wp2
        go_quiet (fail)
        go_wp2
        go_quiet (fail)
        all_goals go_wp2_with fail
        all_goals go_ret
        all_goals exact rpost_ok HP.out (HB.out _) ⟨⟨_, _, rfl, HR.out _ _ _⟩, by simp⟩ (HW'.out _)
      · obtain ⟨b, off, rfl, hlt, hc⟩ := H.out.rd.hat (by omega)
        have hlen : ((l.drop st.pos).take n).length = n := by simp; omega
        have HL := Lib.hid hlen
        have hbr : b ≠ r := H.out.ne _ rfl
        have HR := Lib.hid (fun (k : Nat) => (((H.out.rd.part st.pos n (by omega) h0).but (HB.out k).but (fun a ha => by
          injection ha with ha
          subst ha
          simpa using hbr)).shut))
        clear hlen hc
        go_enter Tryz.func136, Tryz.ntmps136
        go_wp2
        go_quiet (fail)
        go_wp2
        go_quiet (fail)
        go_wp2
        go_quiet (fail)
        all_goals go_wp2_with fail
        all_goals go_ret
        all_goals refine rpost_ok HP.out (HB.out _) ?_ (HW'.out _)
        all_goals rw [HL.out]
        all_goals refine ⟨⟨some ⟨b, off + st.pos, none⟩, n, ?_, HR.out _ n (Nat.le_refl _)⟩, by simp⟩
        all_goals show Value.slice (some ⟨b, off + st.pos, none⟩) (st.pos + n - st.pos) (st.pos + n - st.pos) = _
        all_goals rw [Nat.add_sub_cancel_left]
theorem RPost.weaken {α : Type} {w : World} {r : Nat} {A : Option Addr} {cap : Nat} {l : List UInt8} {p : Rx α} {rep rep' : α → Value → World → Prop} {e : Ending} {w' : World} (h : RPost w r A cap l p rep e w') (hr : ∀ x v, rep x v w' → rep' x v w') : RPost w r A cap l p rep' e w' := by
  rcases p with ⟨a, er⟩ | ⟨x, st'⟩
  · exact h
  · obtain ⟨hb, v, h1, h2, h3⟩ := h
    exact ⟨hb, v, h1, hr _ _ h2, h3⟩
theorem bytes_any (r : Nat) (A : Option Addr) (cap n : Nat) (l : List UInt8) (st : Rs) (w : World) (h : RdrAt w r A cap l st) (hn : n ≤ 4294967296) :
    Calls Tryz.prog 136 #[.pointer (some ⟨r, 0, none⟩), .int .i64 n] w (RPost w r A cap l (bytesP l n st) fun x v w' => ∃ A' cap', v = .slice A' x.length cap' ∧ RdB w' A' x.length cap' x) :=
  (bytes_all r A cap n l st w h hn).mono fun _ _ h => h.weaken fun _ _ h => h.1
theorem beN_snoc (l : List UInt8) (k : Nat) (h : k < l.length) : beN (l.take (k + 1)) = beN (l.take k) * 256 + byt l k := by
  unfold beN
  rw [List.take_add_one, List.getElem?_eq_getElem h, Option.toList_some, List.foldl_append]
  simp [byt, List.getD, List.getElem?_eq_getElem h]
theorem beN_lt (l : List UInt8) : ∀ k, k ≤ l.length → beN (l.take k) < 256 ^ k := by
  intro k
  induction k with
  | zero => intro _; simp [beN]
  | succ k ih =>
    intro hk
    have h1 := ih (by omega)
    have h2 := byt_lt l k
    rw [beN_snoc l k hk, Nat.pow_succ]
    omega
theorem beN_lt4 (l : List UInt8) (k : Nat) (h : k ≤ l.length) (h4 : k < 4) : beN (l.take k) < 16777216 := by
  have h1 := beN_lt l k h
  have h2 : 256 ^ k ≤ 256 ^ 3 := Nat.pow_le_pow_right (by omega) (by omega)
  omega
theorem number_all (r : Nat) (A : Option Addr) (cap n : Nat) (l : List UInt8) (st : Rs) (w : World) (h : RdrAt w r A cap l st) (hn : n ≤ 4) :
    Calls Tryz.prog 117 #[.pointer (some ⟨r, 0, none⟩), .int .i64 n] w (RPost w r A cap l (numP l n st) fun x v w' => (v = .int .i64 x ∧ x < 4294967296) ∧ w'.heap.size = w.heap.size) := by
  have H := Lib.hid h
  clear h
  rcases hb : bytesP l n st with ⟨a, er⟩ | ⟨x, st'⟩
  · have HP := Lib.hid (show numP l n st = .error (a, er) by rw [numP, hb]; rfl)
    have HB := Lib.hid hb
    clear hb
    go_enter Tryz.func117, Tryz.ntmps117
    go_wp2_with (go_at_call 136; refine (bytes_any r A cap n l st _ H.out (by omega)).mono ?_; intro e w1 hq; rw [HB.out] at hq; obtain ⟨hb1, rfl⟩ := hq)
    exact ⟨rfl, rpost_error HP.out hb1⟩
  · have HP := Lib.hid (show numP l n st = .ok (beN x, st') by rw [numP, hb]; rfl)
    have hx : x.length ≤ 4 := by
      have := hb
      unfold bytesP at this
      split at this
      · cases this
      · split at this
        · cases this
        · injection this with this
          injection this with this _
          subst this
          simp
          omega
    have HB := Lib.hid hb
    clear hb
    go_enter Tryz.func117, Tryz.ntmps117
    go_wp2_with (go_at_call 136; refine (bytes_all r A cap n l st _ H.out (by omega)).mono ?_; intro e w1 hq; rw [HB.out] at hq; obtain ⟨hb1, v, rfl, ⟨⟨A', cap', rfl, hr⟩, hsz⟩, hs⟩ := hq; refine stop_here ?_)
    have HZ := Lib.hid hsz
    clear hsz
    have HR := Lib.hid hr
    have HS := Lib.hid hs
    have HW := Lib.hid hb1
    clear hr hs hb1
    refine go_on ?_
    go_wp2_with fail
    go_loop [5, 7, 12] (fun v _ i => ∃ k : Nat, k ≤ x.length ∧ i = .int .i64 k ∧ v = .int .i64 (beN (x.take k))) (fun _ _ i => x.length - (RowKit.intOf i).toNat)
    case atStart => exact ⟨0, by omega, rfl, rfl⟩
    case round =>
      obtain ⟨k, hk, rfl, rfl⟩ := hrel
      by_cases hlt : k < x.length
      · obtain ⟨b, off, rfl, hbl, hc⟩ := HR.out.hat (by omega)
        have ck := hc k hlt
        have hb := byt_lt x k
        have h4 := beN_lt4 x k hk (by omega)
        have HN := Lib.hid (beN_snoc x k hlt)
        have HO := Lib.hid (or_byte (beN (x.take k)) (byt x k) hb h4)
        clear hc
        generalize beN (x.take k) = V at *
        generalize byt x k = X at *
        go_wp2_with fail
        go_round
        case rel => exact ⟨k + 1, by omega, by go_num, by rw [HN.out, ← HO.out, Int.natCast_mul]; first | rfl | simp⟩
        case measure => simp [RowKit.intOf]; omega
      · have hkk : k = x.length := by omega
        have ht : x.take k = x := List.take_of_length_le (by omega)
        have h5 := beN_lt x k hk
        have h6 : 256 ^ k ≤ 256 ^ 4 := Nat.pow_le_pow_right (by omega) (by omega)
        rw [ht] at h5 ⊢
        have h7 : beN x < 4294967296 := by omega
        clear ht h5 h6
        go_wp2_with fail
        go_ret
        exact rpost_ok HP.out HW.out ⟨⟨rfl, h7⟩, HZ.out⟩ HS.out
theorem number_any (r : Nat) (A : Option Addr) (cap n : Nat) (l : List UInt8) (st : Rs) (w : World) (h : RdrAt w r A cap l st) (hn : n ≤ 4) :
    Calls Tryz.prog 117 #[.pointer (some ⟨r, 0, none⟩), .int .i64 n] w (RPost w r A cap l (numP l n st) fun x v w' => v = .int .i64 x ∧ x < 4294967296) :=
  (number_all r A cap n l st w h hn).mono fun _ _ h => h.weaken fun _ _ h => h.1
end Go.Proofs.YtdbniocnjhfhdaaGreatDoor

set_option linter.unusedSimpArgs false
set_option linter.unusedVariables false
set_option maxRecDepth 100000
set_option maxHeartbeats 1000000
namespace Go.Proofs.YtdbniocnjhfhdaaGreatDoor
open Go Go.RowKit Lib
theorem rx_cases {α : Type} (p : Rx α) : (∃ a er, p = .error (a, er)) ∨ ∃ x st, p = .ok (x, st) := by
  rcases p with ⟨a, er⟩ | ⟨x, st⟩
  · exact .inl ⟨a, er, rfl⟩
  · exact .inr ⟨x, st, rfl⟩
theorem RPost.err {α : Type} {w : World} {r : Nat} {A : Option Addr} {cap : Nat} {l : List UInt8} {p : Rx α} {rep : α → Value → World → Prop} {e : Ending} {w' : World} {a er : Nat} (h : RPost w r A cap l p rep e w') (hp : p = .error (a, er)) :
    RB r w w' ∧ e = .panicked [{ v := stopV a er, recovered := false }] := by
  subst hp
  exact h
theorem RPost.val {α : Type} {w : World} {r : Nat} {A : Option Addr} {cap : Nat} {l : List UInt8} {p : Rx α} {rep : α → Value → World → Prop} {e : Ending} {w' : World} {x : α} {st' : Rs} (h : RPost w r A cap l p rep e w') (hp : p = .ok (x, st')) :
    RB r w w' ∧ ∃ v, e = .returned v ∧ rep x v w' ∧ RdrAt w' r A cap l st' := by
  subst hp
  exact h
def Bx (w : World) (g : Nat) (vs : List Value) (t : TypeId) : Prop := w.heap[g]? = some (.cells vs.toArray t (0, 0))
theorem bx_new (w : World) (vs : List Value) (t : TypeId) : Bx (w.alloc (.cells vs.toArray t)) w.heap.size vs t := heap_alloc_new w _
theorem Bx.cell {w : World} {g : Nat} {vs : List Value} {t : TypeId} (h : Bx w g vs t) (j : Nat) {u : Value} (hj : vs[j]? = some u) : w.cell? ⟨g, j, none⟩ = some u := by
  unfold World.cell?
  rw [h]
  simpa using hj
theorem Bx.frozen {w : World} {g : Nat} {vs : List Value} {t : TypeId} (h : Bx w g vs t) (j : Nat) : w.frozen? ⟨g, j, none⟩ = false := by
  unfold World.frozen?
  rw [h]
  simp
theorem Bx.lt {w : World} {g : Nat} {vs : List Value} {t : TypeId} (h : Bx w g vs t) : g < w.heap.size := (Array.getElem?_eq_some_iff.1 h).1
theorem Bx.but {w w' : World} {g : Nat} {vs : List Value} {t : TypeId} (h : Bx w g vs t) {S : List Nat} (hb : But w.heap.size S w w') (hs : g ∉ S) : Bx w' g vs t := (hb.block g h.lt hs).trans h
theorem Bx.below {w w' : World} {g : Nat} {vs : List Value} {t : TypeId} (h : Bx w g vs t) {B : Nat} (hb : Below B w w') (hg : g < B) : Bx w' g vs t := (hb.block g hg).trans h
theorem RdB.low {w w' : World} {A : Option Addr} {len cap B : Nat} {l : List UInt8} (h : RdB w A len cap l) (hb : Below B w w') (hs : ∀ a, A = some a → 0 < len → a.block < B) : RdB w' A len cap l :=
  ⟨h.hlen, h.hle, h.hmax, fun h0 => by
    obtain ⟨b, off, rfl, hlt, hc⟩ := h.hat h0
    have hs' : b < B := hs _ rfl h0
    exact ⟨b, off, rfl, Nat.lt_of_lt_of_le hlt hb.size, fun i hi => (hb.cell (p := ⟨b, off + i, none⟩) hs').trans (hc i hi)⟩⟩
theorem RdrAt.keepB {w0 w w' : World} {r : Nat} {A : Option Addr} {cap : Nat} {l : List UInt8} {st0 st : Rs} (h0 : RdrAt w0 r A cap l st0) (h : RdrAt w r A cap l st) (hb : Below w0.heap.size w w') : RdrAt w' r A cap l st where
  c0 := (hb.cell (p := ⟨r, 0, none⟩) h0.lt).trans h.c0
  c1 := (hb.cell (p := ⟨r, 1, none⟩) h0.lt).trans h.c1
  c2 := (hb.cell (p := ⟨r, 2, none⟩) h0.lt).trans h.c2
  c3 := (hb.cell (p := ⟨r, 3, none⟩) h0.lt).trans h.c3
  fz := fun o => (hb.frozen (p := ⟨r, o, none⟩) h0.lt).trans (h.fz o)
  rd := h.rd.low hb (fun a ha hl => by
    obtain ⟨b, off, e, hlt, _⟩ := h0.rd.hat hl
    rw [ha] at e
    injection e with e
    subst e
    exact hlt)
  ne := h.ne
  lt := Nat.lt_of_lt_of_le h.lt hb.size
  len := h.len
  pos := h.pos
  pm := h.pm
  most := h.most
theorem But.below_trans {B : Nat} {S : List Nat} {a w w' : World} (h : But B S a w) (hb : Below B w w') : But B S a w' := h.trans (But.of_below hb)
theorem RPost.cases {α : Type} {w : World} {r : Nat} {A : Option Addr} {cap : Nat} {l : List UInt8} {p : Rx α} {rep : α → Value → World → Prop} {e : Ending} {w' : World} (h : RPost w r A cap l p rep e w') :
    (∃ a er, p = .error (a, er) ∧ RB r w w' ∧ e = .panicked [{ v := stopV a er, recovered := false }]) ∨ ∃ x st' v, p = .ok (x, st') ∧ RB r w w' ∧ e = .returned v ∧ rep x v w' ∧ RdrAt w' r A cap l st' := by
  rcases p with ⟨a, er⟩ | ⟨x, st'⟩
  · exact .inl ⟨a, er, rfl, h.1, h.2⟩
  · obtain ⟨hb, v, h1, h2, h3⟩ := h
    exact .inr ⟨x, st', v, rfl, hb, h1, h2, h3⟩
theorem bind_stop {α β : Type} {p : Rx α} {f : α → Rs → Rx β} {e : Nat × Nat} (h : p = .error e) : Rx.bind p f = .error e := by rw [h]; rfl
theorem bind_step {α β : Type} {p : Rx α} {f : α → Rs → Rx β} {x : α} {s : Rs} (h : p = .ok (x, s)) : Rx.bind p f = f x s := by rw [h]; rfl
theorem ha_step {w wp W wk : World} {r : Nat} (h : RB r w wp) (hr : r < w.heap.size) (hl : Below w.heap.size wp W) (hb : RB r W wk) : RB r w wk :=
  ⟨(h.but.below_trans hl).trans (hb.but.mono (Nat.le_trans h.but.size hl.size) (fun _ _ h => h)), hb.c4.trans ((hl.cell (p := ⟨r, 4, none⟩) hr).trans h.c4)⟩
theorem ha_low {w wp W : World} {r : Nat} (h : RB r w wp) (hr : r < w.heap.size) (hl : Below w.heap.size wp W) : RB r w W := ⟨h.but.below_trans hl, (hl.cell (p := ⟨r, 4, none⟩) hr).trans h.c4⟩
theorem ne_one {g r : Nat} (h : g ≠ r) : g ∉ [r] := by simpa using h
theorem bx_new_at (w : World) (vs : List Value) (t : TypeId) (g : Nat) (hg : g = w.heap.size) : Bx (w.alloc (.cells vs.toArray t)) g vs t := by
  subst hg
  exact bx_new w vs t
theorem Bx.set {w : World} {g : Nat} {vs : List Value} {t : TypeId} (h : Bx w g vs t) (j : Nat) (u : Value) : Bx (w.setCell ⟨g, j, none⟩ u) g (vs.set j u) t := by
  unfold Bx at *
  simp [World.setCell, Array.getElem?_modify, h]
theorem Bx.set_other {w : World} {g : Nat} {vs : List Value} {t : TypeId} (h : Bx w g vs t) (p : Addr) (u : Value) (hne : p.block ≠ g) : Bx (w.setCell p u) g vs t := by
  have := Below.heap_setCell w p u g (by omega)
  exact this.trans h
theorem count_any (r : Nat) (A : Option Addr) (cap m : Nat) (l : List UInt8) (st : Rs) (w : World) (h : RdrAt w r A cap l st) (hm : m ≤ 65536) :
    Calls Tryz.prog 119 #[.pointer (some ⟨r, 0, none⟩), .int .i64 m] w (RPost w r A cap l (countP l m st) fun x v w' => v = .int .i64 x ∧ x ≤ m) := by
  have H := Lib.hid h
  have c1 := h.c1
  clear h
  rcases rx_cases (numP l 2 st) with ⟨a, er, hb⟩ | ⟨n, st', hb⟩
  · have HP := Lib.hid (show countP l m st = .error (a, er) by rw [countP, hb]; rfl)
    have HB := Lib.hid hb
    clear hb
    go_enter Tryz.func119, Tryz.ntmps119
    go_wp2_with (go_at_call 117; refine (number_any r A cap 2 l st _ H.out (by omega)).mono ?_; intro e w1 hq; obtain ⟨hb1, rfl⟩ := hq.err HB.out)
    exact ⟨rfl, rpost_error HP.out hb1⟩
  · by_cases hmn : m < n
    · have HP := Lib.hid (show countP l m st = .error (st.pos, 2) by rw [countP, hb, Rx.bind_ok, if_pos hmn])
      have HB := Lib.hid hb
      clear hb
      go_enter Tryz.func119, Tryz.ntmps119
      go_wp2_with (first | (go_at_call 117; refine (number_any r A cap 2 l st _ H.out (by omega)).mono ?_; intro e w1 hq; obtain ⟨hb1, v, rfl, ⟨rfl, hn⟩, hs⟩ := hq.val HB.out) | (go_at_call 118; refine (wrong_any _ _ _ _).mono ?_; rintro e w1 ⟨rfl, rfl⟩))
      exact ⟨rfl, rpost_error HP.out hb1⟩
    · have HP := Lib.hid (show countP l m st = .ok (n, st') by rw [countP, hb, Rx.bind_ok, if_neg hmn])
      have HB := Lib.hid hb
      have hle : n ≤ m := by omega
      clear hb
      go_enter Tryz.func119, Tryz.ntmps119
      go_wp2_with (go_at_call 117; refine (number_any r A cap 2 l st _ H.out (by omega)).mono ?_; intro e w1 hq; obtain ⟨hb1, v, rfl, ⟨rfl, hn⟩, hs⟩ := hq.val HB.out)
      go_ret
      exact rpost_ok HP.out hb1 ⟨rfl, hle⟩ hs
def koV (k : Ko) : Value := .agg #[.int .i64 k.tag, .string k.text, .int .i64 k.num, .int .i64 k.a, .int .i64 k.b]
end Go.Proofs.YtdbniocnjhfhdaaGreatDoor
