/-
  The walks of the reference's Encode, one a form of the table.
-/
import Derived.Test.YtgicbgeblgfnfaaRencK
set_option linter.unusedSimpArgs false
set_option linter.unusedVariables false
set_option maxRecDepth 100000
set_option maxHeartbeats 4000000
namespace Go.Proofs.Ytgicbgeblgfnfaa
open Go Go.RowKit Lib
theorem renc_i_ok (c a b n : Int) (hc0 : 0 ≤ c) (hc1 : c < 256) (nm : List UInt8) (hrow : rowOf c = (nm, [105])) (hn : nm ≠ []) (hw0 : wthn 105 a = true) (hw1 : wthn 117 b = true) (w : World) :
    Calls Try.prog 17 #[.agg #[.int .i64 c, .int .i64 a, .int .i64 b, .int .i64 n]] w fun e w' => ∃ g cap, e = .returned (.tuple #[.slice (some ⟨g, 0, none⟩) 5 cap, .bool true]) ∧ w'.ownsRow w.heap.size 5 1 (.slice (some ⟨g, 0, none⟩) 5 cap) 5 [.int .u8 c, .int .u8 (a / 256 % 256), .int .u8 (a % 256), .int .u8 (b % 256), .int .u8 0] ∧ Below w.heap.size w w' := by
  have HT : ∀ W, Calls Try.prog 13 #[.int .i64 c] W fun e w' => e = .returned (.tuple #[.string ⟨nm.toArray⟩, .string ⟨#[105]⟩]) ∧ Below W.heap.size W w' := fun W => by
    have := refform_any c W
    rw [hrow] at this
    exact this
  have HT' := Lib.hid HT
  clear HT
  have e0 : nm.isEmpty = false := by cases nm <;> simp_all
  clear hrow hn
  have HW0 : ∀ W, Calls Try.prog 25 #[.int .i64 a, .int .i64 (0), .int .i64 65535] W fun e w' => e = .returned (.bool true) ∧ W = w' := fun W => by
    have := refwithin_any a (0) 65535 W
    rw [show decide ((0 : Int) ≤ a ∧ a ≤ 65535) = true by rw [← hw0]; simp [wthn]] at this
    exact this
  have HW0' := Lib.hid HW0
  clear HW0 hw0
  have HW1 : ∀ W, Calls Try.prog 25 #[.int .i64 b, .int .i64 (0), .int .i64 255] W fun e w' => e = .returned (.bool true) ∧ W = w' := fun W => by
    have := refwithin_any b (0) 255 W
    rw [show decide ((0 : Int) ≤ b ∧ b ≤ 255) = true by rw [← hw1]; simp [wthn]] at this
    exact this
  have HW1' := Lib.hid HW1
  clear HW1 hw1
  go_enter Try.func17, Try.ntmps17
  go_wp2_with fail
  refine (HT'.out _).mono ?_
  rintro e w1 ⟨rfl, hb1⟩
  have hz := hb1.size
  simp only [World.size_alloc] at hz
  have HB0 := Lib.hid (((Below.refl w.heap.size w).alloc (Nat.le_refl _) _).trans (hb1.mono (by simp)))
  have d0 := hb1.cell (p := ⟨w.heap.size, 0, none⟩) (by simp)
  have d1 := hb1.cell (p := ⟨w.heap.size, 1, none⟩) (by simp)
  have d2 := hb1.cell (p := ⟨w.heap.size, 2, none⟩) (by simp)
  simp [go_sem] at d0 d1 d2
  clear hb1
  obtain ⟨y1, y2, y3, y4, y5, y6, y7, y8, y9, y10, y11, y12⟩ := far w.heap.size w1.heap.size (by omega)
  have S0 : EncS w w1 ((w1.alloc (.cells #[.int .u8 c] 5)).alloc (.cells #[.int .i64 a, .int .i64 b] 3)) a b w1.heap.size 1 1 [.int .u8 c] := by
    refine ⟨(own_new w1 [.int .u8 c] 5 w.heap.size 1 (by omega) rfl (by simp [maxLen])).alloc _, by omega, by omega, by simp, by omega, by simp [go_sem, *], by simp [go_sem, *], by simp [go_sem, *], by simp [go_sem, *], ?_⟩
    exact (HB0.out.alloc (by omega) _).alloc (by simp; omega) _
  have L0 := S0.l0
  have L1 := S0.l1
  have X1 := S0.x1
  have X2 := S0.x2
  have HS0 := Lib.hid S0
  clear S0
  go_wp2_with fail
  refine wp_loop_rounds 2 ?_
  rw [rounds_succ]
  go_wp2_with (go_at_call 25; refine (HW0'.out _).mono ?_; rintro e w2 ⟨rfl, rfl⟩; refine stop_here ?_)
  refine go_on ?_
  go_wp2_with (go_at_call 25; refine (HW1'.out _).mono ?_; rintro e w2 ⟨rfl, rfl⟩; refine stop_here ?_)
  refine go_on ?_
  go_wp2_with fail
  have HSd := Lib.hid HS0.out.drew
  clear HS0
  go_region_law (first
    | (refine step_calls rfl 26 #[.int .i64 a, .int .i64 2] (by simp [go_sem]) ?_
       refine (put2_any _ _).mono ?_
       rintro e p ⟨r, rfl, hq, hbp⟩
       obtain ⟨gp, kp, rfl, hgp, hgl⟩ := hq.form (by omega)
       first
         | (have HSp := Lib.hid (HSd.out.keep hbp)
            have hne := EncS.far hgp HSd.out
            have HRp : Hid (NewS gp p w1.heap.size [.int .u8 (a / 256 % 256), .int .u8 (a % 256)]) := Lib.hid ⟨hgl, hne, own_src hq⟩)
         | (have HSp := Lib.hid ((HSd.out.keep (alloc_b _ _)).keep hbp)
            have hne := EncS.far hgp (HSd.out.keep (alloc_b _ _))
            have HRp : Hid (NewS gp p w1.heap.size [.int .u8 (a / 256 % 256), .int .u8 (a % 256)]) := Lib.hid ⟨hgl, hne, own_src hq⟩
            have HNp := Lib.hid ((NewS.made_at _ (w1.heap.size + 1 + 1) _ (by simp [World.drew]) (HSd.out.own.lt _ rfl).2 [.int .u8 (b % 256), .int .u8 0] 5).keep hbp))
       clear hq hbp
       have Y1 := HSp.out.x1
       have Y2 := HSp.out.x2
       refine ⟨_, rfl, ?_⟩)
    | (refine step_lies rfl (.tmp 124) (.tmp 127) 22 rfl Try.underlying22 info_u8 rfl (by omega) w.heap.size rfl HSp.out.own rfl rfl HRp.out.cells (by simp [Value.oneCell']) (by omega) (by simp [maxLen]) (by omega) HSp.out.below.size ?_
       intro g3 k3 W3 ho hg hb hgg
       have HS3 := Lib.hid (HSp.out.grown rfl hg ho hgg hb)
       first
         | (have HN3 := Lib.hid (HNp.out.grown rfl hg hgg))
         | skip
       clear ho hg hb hgg
       have Z1 := HS3.out.x1
       have Z2 := HS3.out.x2)
    | (refine step_lies rfl (.tmp 124) (.tmp 127) 22 rfl Try.underlying22 info_u8 rfl (by omega) w.heap.size rfl (HSp.out.keep (alloc_b _ _)).own rfl rfl (HRp.out.keep (alloc_b _ _)).cells (by simp [Value.oneCell']) (by omega) (by simp [maxLen]) (by omega) (HSp.out.keep (alloc_b _ _)).below.size ?_
       intro g3 k3 W3 ho hg hb hgg
       have HS3 := Lib.hid ((HSp.out.keep (alloc_b _ _)).grown rfl hg ho hgg hb)
       have HN3 := Lib.hid ((NewS.made _ _ (HSp.out.own.lt _ rfl).2 [.int .u8 (b % 256), .int .u8 0] 5).grown rfl hg hgg)
       clear ho hg hb hgg
       have Z1 := HS3.out.x1
       have Z2 := HS3.out.x2)
    | (refine step_lies rfl (.tmp 128) (.tmp 132) 22 rfl Try.underlying22 info_u8 rfl (by omega) w.heap.size rfl HS3.out.own rfl rfl HN3.out.cells (by simp [Value.oneCell']) (by omega) (by simp [maxLen]) (by omega) HS3.out.below.size ?_
       intro g5 k5 W5 ho hg hb hgg
       have HS5 := Lib.hid (HS3.out.grown rfl hg ho hgg hb)
       clear ho hg hb hgg)
    | (refine step_lies rfl (.tmp 128) (.tmp 132) 22 rfl Try.underlying22 info_u8 rfl (by omega) w.heap.size rfl (HS3.out.keep (alloc_b _ _)).own rfl rfl (NewS.made _ _ (HS3.out.own.lt _ rfl).2 [.int .u8 (b % 256), .int .u8 0] 5).cells (by simp [Value.oneCell']) (by omega) (by simp [maxLen]) (by omega) (HS3.out.keep (alloc_b _ _)).below.size ?_
       intro g5 k5 W5 ho hg hb hgg
       have HS5 := Lib.hid ((HS3.out.keep (alloc_b _ _)).grown rfl hg ho hgg hb)
       clear ho hg hb hgg))
  all_goals
    go_wp2_with fail
    rw [rounds_succ]
    go_wp2_with fail
    go_ret2
    exact ⟨_, _, rfl, HS5.out.own, HS5.out.below⟩
theorem renc_ub_bad0 (c a b n : Int) (hc0 : 0 ≤ c) (hc1 : c < 256) (nm : List UInt8) (hrow : rowOf c = (nm, [117, 98])) (hn : nm ≠ []) (hw0 : wthn 117 a = false) (w : World) :
    Calls Try.prog 17 #[.agg #[.int .i64 c, .int .i64 a, .int .i64 b, .int .i64 n]] w fun e w' => e = .returned (.tuple #[.slice none 0 0, .bool false]) ∧ Below w.heap.size w w' := by
  have HT : ∀ W, Calls Try.prog 13 #[.int .i64 c] W fun e w' => e = .returned (.tuple #[.string ⟨nm.toArray⟩, .string ⟨#[117, 98]⟩]) ∧ Below W.heap.size W w' := fun W => by
    have := refform_any c W
    rw [hrow] at this
    exact this
  have HT' := Lib.hid HT
  clear HT
  have e0 : nm.isEmpty = false := by cases nm <;> simp_all
  clear hrow hn
  have HW0 : ∀ W, Calls Try.prog 25 #[.int .i64 a, .int .i64 (0), .int .i64 255] W fun e w' => e = .returned (.bool false) ∧ W = w' := fun W => by
    have := refwithin_any a (0) 255 W
    rw [show decide ((0 : Int) ≤ a ∧ a ≤ 255) = false by rw [← hw0]; simp [wthn]] at this
    exact this
  have HW0' := Lib.hid HW0
  clear HW0 hw0
  go_enter Try.func17, Try.ntmps17
  go_wp2_with fail
  refine (HT'.out _).mono ?_
  rintro e w1 ⟨rfl, hb1⟩
  have hz := hb1.size
  simp only [World.size_alloc] at hz
  have HB0 := Lib.hid (((Below.refl w.heap.size w).alloc (Nat.le_refl _) _).trans (hb1.mono (by simp)))
  have d0 := hb1.cell (p := ⟨w.heap.size, 0, none⟩) (by simp)
  have d1 := hb1.cell (p := ⟨w.heap.size, 1, none⟩) (by simp)
  have d2 := hb1.cell (p := ⟨w.heap.size, 2, none⟩) (by simp)
  simp [go_sem] at d0 d1 d2
  clear hb1
  obtain ⟨y1, y2, y3, y4, y5, y6, y7, y8, y9, y10, y11, y12⟩ := far w.heap.size w1.heap.size (by omega)
  have S0 : EncS w w1 ((w1.alloc (.cells #[.int .u8 c] 5)).alloc (.cells #[.int .i64 a, .int .i64 b] 3)) a b w1.heap.size 1 1 [.int .u8 c] := by
    refine ⟨(own_new w1 [.int .u8 c] 5 w.heap.size 1 (by omega) rfl (by simp [maxLen])).alloc _, by omega, by omega, by simp, by omega, by simp [go_sem, *], by simp [go_sem, *], by simp [go_sem, *], by simp [go_sem, *], ?_⟩
    exact (HB0.out.alloc (by omega) _).alloc (by simp; omega) _
  have L0 := S0.l0
  have L1 := S0.l1
  have X1 := S0.x1
  have X2 := S0.x2
  have HS0 := Lib.hid S0
  clear S0
  go_wp2_with fail
  refine wp_loop_rounds 3 ?_
  rw [rounds_succ]
  go_wp2_with (first | (go_at_call 25; refine (HW0'.out _).mono ?_; rintro e w2 ⟨rfl, rfl⟩) | (go_at_call 26; refine (put1_any _ _).mono ?_; rintro e p0 ⟨q0, rfl, hq0, hb0⟩; refine stop_here ?_))
  have HP0 := Lib.hid (HS0.out.keep hb0)
  obtain ⟨gp0, kp0, rfl, _, _⟩ := hq0.form (by omega)
  have HQ0 := Lib.hid (own_src hq0)
  clear hb0 hq0 L0 L1 X1 X2
  have hsz0 := HP0.out.below.size
  refine go_on ?_
  go_wp2_with (at_builtin; refine wpl_lies rfl _ _ 22 rfl Try.underlying22 info_u8 rfl (by omega) w.heap.size rfl HP0.out.own rfl rfl (fun _ => ⟨_, rfl, HQ0.out⟩) (by simp [Value.oneCell']) (by omega) (by simp [maxLen]) (by omega) hsz0 ?_; intro gg0 kk0 W0 ho0 hg0 hb0 hgg0 hlt0; refine stop_here ?_)
  have S1 := HP0.out.grown rfl hg0 ho0 hgg0 hb0
  have L0 := S1.l0
  have L1 := S1.l1
  have X1 := S1.x1
  have X2 := S1.x2
  have HS1 := Lib.hid S1
  clear S1 ho0 hg0 hb0 hgg0
  refine go_on ?_
  go_wp2_with fail
  go_ret2
  exact ⟨rfl, HS1.out.below⟩
theorem renc_e_extrab (c a b n : Int) (hc0 : 0 ≤ c) (hc1 : c < 256) (nm : List UInt8) (hrow : rowOf c = (nm, [])) (hn : nm ≠ []) (ha : a = 0) (hb0 : b ≠ 0) (w : World) :
    Calls Try.prog 17 #[.agg #[.int .i64 c, .int .i64 a, .int .i64 b, .int .i64 n]] w fun e w' => e = .returned (.tuple #[.slice none 0 0, .bool false]) ∧ Below w.heap.size w w' := by
  have HT : ∀ W, Calls Try.prog 13 #[.int .i64 c] W fun e w' => e = .returned (.tuple #[.string ⟨nm.toArray⟩, .string ⟨#[]⟩]) ∧ Below W.heap.size W w' := fun W => by
    have := refform_any c W
    rw [hrow] at this
    exact this
  have HT' := Lib.hid HT
  clear HT
  have e0 : nm.isEmpty = false := by cases nm <;> simp_all
  clear hrow hn
  subst ha
  have hq : (b == 0) = false := by simp [hb0]
  have hq2 : (b != 0) = true := by simp [hb0]
  clear hb0
  go_enter Try.func17, Try.ntmps17
  go_wp2_with fail
  refine (HT'.out _).mono ?_
  rintro e w1 ⟨rfl, hb1⟩
  have hz := hb1.size
  simp only [World.size_alloc] at hz
  have HB0 := Lib.hid (((Below.refl w.heap.size w).alloc (Nat.le_refl _) _).trans (hb1.mono (by simp)))
  have d0 := hb1.cell (p := ⟨w.heap.size, 0, none⟩) (by simp)
  have d1 := hb1.cell (p := ⟨w.heap.size, 1, none⟩) (by simp)
  have d2 := hb1.cell (p := ⟨w.heap.size, 2, none⟩) (by simp)
  simp [go_sem] at d0 d1 d2
  clear hb1
  obtain ⟨y1, y2, y3, y4, y5, y6, y7, y8, y9, y10, y11, y12⟩ := far w.heap.size w1.heap.size (by omega)
  go_wp2_with fail
  go_ret2
  exact ⟨rfl, HB0.out⟩
theorem renc_u_ok (c a b n : Int) (hc0 : 0 ≤ c) (hc1 : c < 256) (nm : List UInt8) (hrow : rowOf c = (nm, [117])) (hn : nm ≠ []) (hw0 : wthn 117 a = true) (hb0 : b = 0) (w : World) :
    Calls Try.prog 17 #[.agg #[.int .i64 c, .int .i64 a, .int .i64 b, .int .i64 n]] w fun e w' => ∃ g cap, e = .returned (.tuple #[.slice (some ⟨g, 0, none⟩) 2 cap, .bool true]) ∧ w'.ownsRow w.heap.size 5 1 (.slice (some ⟨g, 0, none⟩) 2 cap) 2 [.int .u8 c, .int .u8 (a % 256)] ∧ Below w.heap.size w w' := by
  have HT : ∀ W, Calls Try.prog 13 #[.int .i64 c] W fun e w' => e = .returned (.tuple #[.string ⟨nm.toArray⟩, .string ⟨#[117]⟩]) ∧ Below W.heap.size W w' := fun W => by
    have := refform_any c W
    rw [hrow] at this
    exact this
  have HT' := Lib.hid HT
  clear HT
  have e0 : nm.isEmpty = false := by cases nm <;> simp_all
  clear hrow hn
  subst hb0
  have HW0 : ∀ W, Calls Try.prog 25 #[.int .i64 a, .int .i64 (0), .int .i64 255] W fun e w' => e = .returned (.bool true) ∧ W = w' := fun W => by
    have := refwithin_any a (0) 255 W
    rw [show decide ((0 : Int) ≤ a ∧ a ≤ 255) = true by rw [← hw0]; simp [wthn]] at this
    exact this
  have HW0' := Lib.hid HW0
  clear HW0 hw0
  go_enter Try.func17, Try.ntmps17
  go_wp2_with fail
  refine (HT'.out _).mono ?_
  rintro e w1 ⟨rfl, hb1⟩
  have hz := hb1.size
  simp only [World.size_alloc] at hz
  have HB0 := Lib.hid (((Below.refl w.heap.size w).alloc (Nat.le_refl _) _).trans (hb1.mono (by simp)))
  have d0 := hb1.cell (p := ⟨w.heap.size, 0, none⟩) (by simp)
  have d1 := hb1.cell (p := ⟨w.heap.size, 1, none⟩) (by simp)
  have d2 := hb1.cell (p := ⟨w.heap.size, 2, none⟩) (by simp)
  simp [go_sem] at d0 d1 d2
  clear hb1
  obtain ⟨y1, y2, y3, y4, y5, y6, y7, y8, y9, y10, y11, y12⟩ := far w.heap.size w1.heap.size (by omega)
  have S0 : EncS w w1 ((w1.alloc (.cells #[.int .u8 c] 5)).alloc (.cells #[.int .i64 a, .int .i64 0] 3)) a 0 w1.heap.size 1 1 [.int .u8 c] := by
    refine ⟨(own_new w1 [.int .u8 c] 5 w.heap.size 1 (by omega) rfl (by simp [maxLen])).alloc _, by omega, by omega, by simp, by omega, by simp [go_sem, *], by simp [go_sem, *], by simp [go_sem, *], by simp [go_sem, *], ?_⟩
    exact (HB0.out.alloc (by omega) _).alloc (by simp; omega) _
  have L0 := S0.l0
  have L1 := S0.l1
  have X1 := S0.x1
  have X2 := S0.x2
  have HS0 := Lib.hid S0
  clear S0
  go_wp2_with fail
  refine wp_loop_rounds 2 ?_
  rw [rounds_succ]
  go_wp2_with (first | (go_at_call 25; refine (HW0'.out _).mono ?_; rintro e w2 ⟨rfl, rfl⟩) | (go_at_call 26; refine (put1_any _ _).mono ?_; rintro e p0 ⟨q0, rfl, hq0, hb0⟩; refine stop_here ?_))
  have HP0 := Lib.hid (HS0.out.keep hb0)
  obtain ⟨gp0, kp0, rfl, _, _⟩ := hq0.form (by omega)
  have HQ0 := Lib.hid (own_src hq0)
  clear hb0 hq0 L0 L1 X1 X2
  have hsz0 := HP0.out.below.size
  refine go_on ?_
  go_wp2_with (at_builtin; refine wpl_lies rfl _ _ 22 rfl Try.underlying22 info_u8 rfl (by omega) w.heap.size rfl HP0.out.own rfl rfl (fun _ => ⟨_, rfl, HQ0.out⟩) (by simp [Value.oneCell']) (by omega) (by simp [maxLen]) (by omega) hsz0 ?_; intro gg0 kk0 W0 ho0 hg0 hb0 hgg0 hlt0; refine stop_here ?_)
  have S1 := HP0.out.grown rfl hg0 ho0 hgg0 hb0
  have L0 := S1.l0
  have L1 := S1.l1
  have X1 := S1.x1
  have X2 := S1.x2
  have HS1 := Lib.hid S1
  clear S1 ho0 hg0 hb0 hgg0
  refine go_on ?_
  go_wp2_with fail
  rw [rounds_succ]
  go_wp2_with fail
  go_ret2
  exact ⟨_, _, rfl, HS1.out.own, HS1.out.below⟩
theorem renc_s_bad0 (c a b n : Int) (hc0 : 0 ≤ c) (hc1 : c < 256) (nm : List UInt8) (hrow : rowOf c = (nm, [115])) (hn : nm ≠ []) (hw0 : wthn 115 a = false) (hb0 : b = 0) (w : World) :
    Calls Try.prog 17 #[.agg #[.int .i64 c, .int .i64 a, .int .i64 b, .int .i64 n]] w fun e w' => e = .returned (.tuple #[.slice none 0 0, .bool false]) ∧ Below w.heap.size w w' := by
  have HT : ∀ W, Calls Try.prog 13 #[.int .i64 c] W fun e w' => e = .returned (.tuple #[.string ⟨nm.toArray⟩, .string ⟨#[115]⟩]) ∧ Below W.heap.size W w' := fun W => by
    have := refform_any c W
    rw [hrow] at this
    exact this
  have HT' := Lib.hid HT
  clear HT
  have e0 : nm.isEmpty = false := by cases nm <;> simp_all
  clear hrow hn
  subst hb0
  have HW0 : ∀ W, Calls Try.prog 25 #[.int .i64 a, .int .i64 (-32768), .int .i64 32767] W fun e w' => e = .returned (.bool false) ∧ W = w' := fun W => by
    have := refwithin_any a (-32768) 32767 W
    rw [show decide ((-32768 : Int) ≤ a ∧ a ≤ 32767) = false by rw [← hw0]; simp [wthn]] at this
    exact this
  have HW0' := Lib.hid HW0
  clear HW0 hw0
  go_enter Try.func17, Try.ntmps17
  go_wp2_with fail
  refine (HT'.out _).mono ?_
  rintro e w1 ⟨rfl, hb1⟩
  have hz := hb1.size
  simp only [World.size_alloc] at hz
  have HB0 := Lib.hid (((Below.refl w.heap.size w).alloc (Nat.le_refl _) _).trans (hb1.mono (by simp)))
  have d0 := hb1.cell (p := ⟨w.heap.size, 0, none⟩) (by simp)
  have d1 := hb1.cell (p := ⟨w.heap.size, 1, none⟩) (by simp)
  have d2 := hb1.cell (p := ⟨w.heap.size, 2, none⟩) (by simp)
  simp [go_sem] at d0 d1 d2
  clear hb1
  obtain ⟨y1, y2, y3, y4, y5, y6, y7, y8, y9, y10, y11, y12⟩ := far w.heap.size w1.heap.size (by omega)
  have S0 : EncS w w1 ((w1.alloc (.cells #[.int .u8 c] 5)).alloc (.cells #[.int .i64 a, .int .i64 0] 3)) a 0 w1.heap.size 1 1 [.int .u8 c] := by
    refine ⟨(own_new w1 [.int .u8 c] 5 w.heap.size 1 (by omega) rfl (by simp [maxLen])).alloc _, by omega, by omega, by simp, by omega, by simp [go_sem, *], by simp [go_sem, *], by simp [go_sem, *], by simp [go_sem, *], ?_⟩
    exact (HB0.out.alloc (by omega) _).alloc (by simp; omega) _
  have L0 := S0.l0
  have L1 := S0.l1
  have X1 := S0.x1
  have X2 := S0.x2
  have HS0 := Lib.hid S0
  clear S0
  go_wp2_with fail
  refine wp_loop_rounds 2 ?_
  rw [rounds_succ]
  go_wp2_with (first | (go_at_call 25; refine (HW0'.out _).mono ?_; rintro e w2 ⟨rfl, rfl⟩) | (go_at_call 26; refine (put2_any _ _).mono ?_; rintro e p0 ⟨q0, rfl, hq0, hb0⟩; refine stop_here ?_))
  have HP0 := Lib.hid (HS0.out.keep hb0)
  obtain ⟨gp0, kp0, rfl, _, _⟩ := hq0.form (by omega)
  have HQ0 := Lib.hid (own_src hq0)
  clear hb0 hq0 L0 L1 X1 X2
  have hsz0 := HP0.out.below.size
  refine go_on ?_
  go_wp2_with (at_builtin; refine wpl_lies rfl _ _ 22 rfl Try.underlying22 info_u8 rfl (by omega) w.heap.size rfl HP0.out.own rfl rfl (fun _ => ⟨_, rfl, HQ0.out⟩) (by simp [Value.oneCell']) (by omega) (by simp [maxLen]) (by omega) hsz0 ?_; intro gg0 kk0 W0 ho0 hg0 hb0 hgg0 hlt0; refine stop_here ?_)
  have S1 := HP0.out.grown rfl hg0 ho0 hgg0 hb0
  have L0 := S1.l0
  have L1 := S1.l1
  have X1 := S1.x1
  have X2 := S1.x2
  have HS1 := Lib.hid S1
  clear S1 ho0 hg0 hb0 hgg0
  refine go_on ?_
  go_wp2_with fail
  go_ret2
  exact ⟨rfl, HS1.out.below⟩
theorem renc_j_extrab (c a b n : Int) (hc0 : 0 ≤ c) (hc1 : c < 256) (nm : List UInt8) (hrow : rowOf c = (nm, [106])) (hn : nm ≠ []) (hb0 : b ≠ 0) (w : World) :
    Calls Try.prog 17 #[.agg #[.int .i64 c, .int .i64 a, .int .i64 b, .int .i64 n]] w fun e w' => e = .returned (.tuple #[.slice none 0 0, .bool false]) ∧ Below w.heap.size w w' := by
  have HT : ∀ W, Calls Try.prog 13 #[.int .i64 c] W fun e w' => e = .returned (.tuple #[.string ⟨nm.toArray⟩, .string ⟨#[106]⟩]) ∧ Below W.heap.size W w' := fun W => by
    have := refform_any c W
    rw [hrow] at this
    exact this
  have HT' := Lib.hid HT
  clear HT
  have e0 : nm.isEmpty = false := by cases nm <;> simp_all
  clear hrow hn
  have hq : (b == 0) = false := by simp [hb0]
  have hq2 : (b != 0) = true := by simp [hb0]
  clear hb0
  go_enter Try.func17, Try.ntmps17
  go_wp2_with fail
  refine (HT'.out _).mono ?_
  rintro e w1 ⟨rfl, hb1⟩
  have hz := hb1.size
  simp only [World.size_alloc] at hz
  have HB0 := Lib.hid (((Below.refl w.heap.size w).alloc (Nat.le_refl _) _).trans (hb1.mono (by simp)))
  have d0 := hb1.cell (p := ⟨w.heap.size, 0, none⟩) (by simp)
  have d1 := hb1.cell (p := ⟨w.heap.size, 1, none⟩) (by simp)
  have d2 := hb1.cell (p := ⟨w.heap.size, 2, none⟩) (by simp)
  simp [go_sem] at d0 d1 d2
  clear hb1
  obtain ⟨y1, y2, y3, y4, y5, y6, y7, y8, y9, y10, y11, y12⟩ := far w.heap.size w1.heap.size (by omega)
  go_wp2_with fail
  go_ret2
  exact ⟨rfl, HB0.out⟩
theorem renc_m_ok (c a b n : Int) (hc0 : 0 ≤ c) (hc1 : c < 256) (nm : List UInt8) (hrow : rowOf c = (nm, [109])) (hn : nm ≠ []) (hw0 : wthn 109 a = true) (hb0 : b = 0) (w : World) :
    Calls Try.prog 17 #[.agg #[.int .i64 c, .int .i64 a, .int .i64 b, .int .i64 n]] w fun e w' => ∃ g cap, e = .returned (.tuple #[.slice (some ⟨g, 0, none⟩) 3 cap, .bool true]) ∧ w'.ownsRow w.heap.size 5 1 (.slice (some ⟨g, 0, none⟩) 3 cap) 3 [.int .u8 c, .int .u8 (a / 256 % 256), .int .u8 (a % 256)] ∧ Below w.heap.size w w' := by
  have HT : ∀ W, Calls Try.prog 13 #[.int .i64 c] W fun e w' => e = .returned (.tuple #[.string ⟨nm.toArray⟩, .string ⟨#[109]⟩]) ∧ Below W.heap.size W w' := fun W => by
    have := refform_any c W
    rw [hrow] at this
    exact this
  have HT' := Lib.hid HT
  clear HT
  have e0 : nm.isEmpty = false := by cases nm <;> simp_all
  clear hrow hn
  subst hb0
  have HW0 : ∀ W, Calls Try.prog 25 #[.int .i64 a, .int .i64 (0), .int .i64 65535] W fun e w' => e = .returned (.bool true) ∧ W = w' := fun W => by
    have := refwithin_any a (0) 65535 W
    rw [show decide ((0 : Int) ≤ a ∧ a ≤ 65535) = true by rw [← hw0]; simp [wthn]] at this
    exact this
  have HW0' := Lib.hid HW0
  clear HW0 hw0
  go_enter Try.func17, Try.ntmps17
  go_wp2_with fail
  refine (HT'.out _).mono ?_
  rintro e w1 ⟨rfl, hb1⟩
  have hz := hb1.size
  simp only [World.size_alloc] at hz
  have HB0 := Lib.hid (((Below.refl w.heap.size w).alloc (Nat.le_refl _) _).trans (hb1.mono (by simp)))
  have d0 := hb1.cell (p := ⟨w.heap.size, 0, none⟩) (by simp)
  have d1 := hb1.cell (p := ⟨w.heap.size, 1, none⟩) (by simp)
  have d2 := hb1.cell (p := ⟨w.heap.size, 2, none⟩) (by simp)
  simp [go_sem] at d0 d1 d2
  clear hb1
  obtain ⟨y1, y2, y3, y4, y5, y6, y7, y8, y9, y10, y11, y12⟩ := far w.heap.size w1.heap.size (by omega)
  have S0 : EncS w w1 ((w1.alloc (.cells #[.int .u8 c] 5)).alloc (.cells #[.int .i64 a, .int .i64 0] 3)) a 0 w1.heap.size 1 1 [.int .u8 c] := by
    refine ⟨(own_new w1 [.int .u8 c] 5 w.heap.size 1 (by omega) rfl (by simp [maxLen])).alloc _, by omega, by omega, by simp, by omega, by simp [go_sem, *], by simp [go_sem, *], by simp [go_sem, *], by simp [go_sem, *], ?_⟩
    exact (HB0.out.alloc (by omega) _).alloc (by simp; omega) _
  have L0 := S0.l0
  have L1 := S0.l1
  have X1 := S0.x1
  have X2 := S0.x2
  have HS0 := Lib.hid S0
  clear S0
  go_wp2_with fail
  refine wp_loop_rounds 2 ?_
  rw [rounds_succ]
  go_wp2_with (first | (go_at_call 25; refine (HW0'.out _).mono ?_; rintro e w2 ⟨rfl, rfl⟩) | (go_at_call 26; refine (put2_any _ _).mono ?_; rintro e p0 ⟨q0, rfl, hq0, hb0⟩; refine stop_here ?_))
  have HP0 := Lib.hid (HS0.out.keep hb0)
  obtain ⟨gp0, kp0, rfl, _, _⟩ := hq0.form (by omega)
  have HQ0 := Lib.hid (own_src hq0)
  clear hb0 hq0 L0 L1 X1 X2
  have hsz0 := HP0.out.below.size
  refine go_on ?_
  go_wp2_with (at_builtin; refine wpl_lies rfl _ _ 22 rfl Try.underlying22 info_u8 rfl (by omega) w.heap.size rfl HP0.out.own rfl rfl (fun _ => ⟨_, rfl, HQ0.out⟩) (by simp [Value.oneCell']) (by omega) (by simp [maxLen]) (by omega) hsz0 ?_; intro gg0 kk0 W0 ho0 hg0 hb0 hgg0 hlt0; refine stop_here ?_)
  have S1 := HP0.out.grown rfl hg0 ho0 hgg0 hb0
  have L0 := S1.l0
  have L1 := S1.l1
  have X1 := S1.x1
  have X2 := S1.x2
  have HS1 := Lib.hid S1
  clear S1 ho0 hg0 hb0 hgg0
  refine go_on ?_
  go_wp2_with fail
  rw [rounds_succ]
  go_wp2_with fail
  go_ret2
  exact ⟨_, _, rfl, HS1.out.own, HS1.out.below⟩
theorem renc_c_bad0 (c a b n : Int) (hc0 : 0 ≤ c) (hc1 : c < 256) (nm : List UInt8) (hrow : rowOf c = (nm, [99])) (hn : nm ≠ []) (hw0 : wthn 99 a = false) (hb0 : b = 0) (w : World) :
    Calls Try.prog 17 #[.agg #[.int .i64 c, .int .i64 a, .int .i64 b, .int .i64 n]] w fun e w' => e = .returned (.tuple #[.slice none 0 0, .bool false]) ∧ Below w.heap.size w w' := by
  have HT : ∀ W, Calls Try.prog 13 #[.int .i64 c] W fun e w' => e = .returned (.tuple #[.string ⟨nm.toArray⟩, .string ⟨#[99]⟩]) ∧ Below W.heap.size W w' := fun W => by
    have := refform_any c W
    rw [hrow] at this
    exact this
  have HT' := Lib.hid HT
  clear HT
  have e0 : nm.isEmpty = false := by cases nm <;> simp_all
  clear hrow hn
  subst hb0
  have HW0 : ∀ W, Calls Try.prog 25 #[.int .i64 a, .int .i64 (0), .int .i64 65535] W fun e w' => e = .returned (.bool false) ∧ W = w' := fun W => by
    have := refwithin_any a (0) 65535 W
    rw [show decide ((0 : Int) ≤ a ∧ a ≤ 65535) = false by rw [← hw0]; simp [wthn]] at this
    exact this
  have HW0' := Lib.hid HW0
  clear HW0 hw0
  go_enter Try.func17, Try.ntmps17
  go_wp2_with fail
  refine (HT'.out _).mono ?_
  rintro e w1 ⟨rfl, hb1⟩
  have hz := hb1.size
  simp only [World.size_alloc] at hz
  have HB0 := Lib.hid (((Below.refl w.heap.size w).alloc (Nat.le_refl _) _).trans (hb1.mono (by simp)))
  have d0 := hb1.cell (p := ⟨w.heap.size, 0, none⟩) (by simp)
  have d1 := hb1.cell (p := ⟨w.heap.size, 1, none⟩) (by simp)
  have d2 := hb1.cell (p := ⟨w.heap.size, 2, none⟩) (by simp)
  simp [go_sem] at d0 d1 d2
  clear hb1
  obtain ⟨y1, y2, y3, y4, y5, y6, y7, y8, y9, y10, y11, y12⟩ := far w.heap.size w1.heap.size (by omega)
  have S0 : EncS w w1 ((w1.alloc (.cells #[.int .u8 c] 5)).alloc (.cells #[.int .i64 a, .int .i64 0] 3)) a 0 w1.heap.size 1 1 [.int .u8 c] := by
    refine ⟨(own_new w1 [.int .u8 c] 5 w.heap.size 1 (by omega) rfl (by simp [maxLen])).alloc _, by omega, by omega, by simp, by omega, by simp [go_sem, *], by simp [go_sem, *], by simp [go_sem, *], by simp [go_sem, *], ?_⟩
    exact (HB0.out.alloc (by omega) _).alloc (by simp; omega) _
  have L0 := S0.l0
  have L1 := S0.l1
  have X1 := S0.x1
  have X2 := S0.x2
  have HS0 := Lib.hid S0
  clear S0
  go_wp2_with fail
  refine wp_loop_rounds 2 ?_
  rw [rounds_succ]
  go_wp2_with (first | (go_at_call 25; refine (HW0'.out _).mono ?_; rintro e w2 ⟨rfl, rfl⟩) | (go_at_call 26; refine (put2_any _ _).mono ?_; rintro e p0 ⟨q0, rfl, hq0, hb0⟩; refine stop_here ?_))
  have HP0 := Lib.hid (HS0.out.keep hb0)
  obtain ⟨gp0, kp0, rfl, _, _⟩ := hq0.form (by omega)
  have HQ0 := Lib.hid (own_src hq0)
  clear hb0 hq0 L0 L1 X1 X2
  have hsz0 := HP0.out.below.size
  refine go_on ?_
  go_wp2_with (at_builtin; refine wpl_lies rfl _ _ 22 rfl Try.underlying22 info_u8 rfl (by omega) w.heap.size rfl HP0.out.own rfl rfl (fun _ => ⟨_, rfl, HQ0.out⟩) (by simp [Value.oneCell']) (by omega) (by simp [maxLen]) (by omega) hsz0 ?_; intro gg0 kk0 W0 ho0 hg0 hb0 hgg0 hlt0; refine stop_here ?_)
  have S1 := HP0.out.grown rfl hg0 ho0 hgg0 hb0
  have L0 := S1.l0
  have L1 := S1.l1
  have X1 := S1.x1
  have X2 := S1.x2
  have HS1 := Lib.hid S1
  clear S1 ho0 hg0 hb0 hgg0
  refine go_on ?_
  go_wp2_with fail
  go_ret2
  exact ⟨rfl, HS1.out.below⟩
end Go.Proofs.Ytgicbgeblgfnfaa
