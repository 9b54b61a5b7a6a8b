/-
  turnstilelaw6.OpsAll at the codes of one form.
-/
import Derived.Test.YtgicbgeblgfnfaaAlive
set_option maxRecDepth 100000
set_option maxHeartbeats 4000000
set_option linter.unusedSimpArgs false
set_option linter.unusedVariables false
namespace Go.Proofs.Ytgicbgeblgfnfaa
open Go Go.RowKit Lib
theorem all_b (c : Nat) (hc : c < 256) (nm : List UInt8) (hrow : rowOf c = (nm, [98])) (hn : nm ≠ []) (A : Option Addr) (len cap : Nat) (l : List UInt8) (w : World) (hr : RdB w A len cap l) (h10 : len ≤ 10) :
    Calls Try.prog 5 #[.int .i64 c, .slice A len cap] w fun e w' => e = .returned (.bool true) ∧ Below w.heap.size w w' := by
  have HF : ∀ W, Calls Try.prog 12 #[.int .i64 c] W fun e w' => e = .returned (.tuple #[.string ⟨nm.toArray⟩, .string ⟨#[98]⟩]) ∧ Below W.heap.size W w' := fun W => by
    have := opsform_any c W
    rw [hrow] at this
    exact this
  have HF' := Lib.hid HF
  clear HF
  have HROW := Lib.hid hrow
  have HR := Lib.hid hr
  have HLEN := Lib.hid hr.hlen
  have hcap := hr.hle
  have e0 : nm.isEmpty = false := by cases nm <;> simp_all
  have HN := Lib.hid hn
  clear hrow hr hn
  go_enter Try.func5, Try.ntmps5
  go_wp2_with fail
  refine (alive_any _).mono ?_
  rintro e w1 ⟨rfl, hb1⟩
  have HB1 := Lib.hid hb1
  clear hb1
  go_wp2_with fail
  refine (HF'.out _).mono ?_
  rintro e w2 ⟨rfl, hb2⟩
  have HB2 := Lib.hid (HB1.out.trans (hb2.mono HB1.out.size))
  have hz2 := HB2.out.size
  clear hb2
  have HSRC := Lib.hid (((HR.out.below HB2.out).alloc (.cells #[.int .u8 (c : Int)] 5)).src)
  have HNEW := Lib.hid (own_new w2 [.int .u8 (c : Int)] 5 w.heap.size 1 hz2 rfl (by simp [maxLen]))
  go_wp2_with (at_builtin; refine wpl_lies rfl _ _ 22 rfl Try.underlying22 info_u8 rfl (by omega) w.heap.size rfl HNEW.out rfl (by rw [List.length_map, Nat.mul_one]; exact HLEN.out.symm) HSRC.out (bV_one l) (by omega) (by simp only [maxLen]; omega) (by omega) (by simp; omega) ?_; intro g k w3 ho3 hg3 hb3 hgg hlt3; have HO3 := Lib.hid (own_eq ho3 rfl (show _ = (UInt8.ofNat c :: l).map bV by rw [bV_ofNat c hc]; rfl)); have HB3 := Lib.hid ((HB2.out.alloc hz2 _).trans hb3); clear ho3 hg3 hb3 hgg)
  go_loopw [8] (fun b wr => ∃ g j cap : Nat, j ≤ 6 ∧ b = .slice (some ⟨g, 0, none⟩) (1 + len + j) cap ∧ Hid (wr.ownsRow w.heap.size 5 1 (.slice (some ⟨g, 0, none⟩) (1 + len + j) cap) (1 + len + j) ((UInt8.ofNat c :: l ++ List.replicate j 0).map bV)) ∧ Hid (Below w.heap.size w wr)) (fun b _ => 6 - lenOf b)
  case atStart => exact ⟨g, 0, k, by omega, rfl, by show World.ownsRow _ _ _ _ _ _ _; simpa using HO3.out, HB3.out⟩
  case round =>
    obtain ⟨g, j, cp, hj, rfl, HO, HB⟩ := hrel
    have hzr := HB.out.size
    by_cases hlt : 1 + len + j < 6
    · go_wp2_with (at_builtin; refine wpl_lies rfl _ _ 22 rfl Try.underlying22 info_u8 rfl (by omega) w.heap.size rfl (HO.out.alloc _) rfl rfl (fun _ => ⟨_, rfl, cells_new _ _ _⟩) (by simp [Value.oneCell']) (by omega) (by simp only [maxLen]; omega) (by omega) (by simp; omega) ?_; intro g2 k2 w4 ho4 hg4 hb4 hgg4 hlt4; have HO4 := Lib.hid ho4; have HB4 := Lib.hid ((HB.out.alloc hzr _).trans hb4); clear ho4 hg4 hb4 hgg4)
      go_roundw
      case rel => exact ⟨g2, j + 1, k2, by omega, rfl, own_eq HO4.out rfl (pad_succ _ _ _), HB4.out⟩
      case measure => simp [lenOf]; omega
    · go_wp2_with fail
      refine wp_loop_rounds 2 ?_
      rw [rounds_succ]
      go_wp2_with fail
      rw [rounds_succ]
      go_wp2_with fail
      obtain ⟨L, hL⟩ : ∃ L, L = UInt8.ofNat c :: l ++ List.replicate j 0 := ⟨_, rfl⟩
      rw [← hL] at HO
      have HRD := Lib.hid (rdB_own HO.out)
      have hcp := HRD.out.hle
      have hL0 : byt L 0 = c := by rw [hL]; unfold byt; simp [List.getD]; omega
      have hLl : 1 + len + j = L.length := HRD.out.hlen
      obtain ⟨A1, B1, hD⟩ : ∃ A1 B1 : Int, decP L 0 = some ((c : Int), A1, B1, 2) := by
        unfold decP decAt
        rw [if_neg (by omega)]
        simp [hL0, HROW.out, HN.out]
        try omega
      have hS : decP (L.take 1) 0 = none := by
        unfold decP decAt
        by_cases h0 : 1 = 0
        · rw [if_pos (by simp [h0])]
        · rw [if_neg (by rw [List.length_take]; omega)]
          simp [byt_take L 1 0 (by omega), hL0, HROW.out, HN.out]
          try omega
      have HS := Lib.hid hS
      clear hS hL0
      clear hL
      have HD := dec_any HRD.out 0
      rw [hD] at HD
      simp only [decV] at HD
      have HD' := Lib.hid HD
      clear HD hD
      refine (HD'.out).mono ?_
      rintro e w5 ⟨rfl, hb5⟩
      have HRD5 := Lib.hid (HRD.out.below hb5)
      have HB5 := Lib.hid (HB.out.trans (hb5.mono hzr))
      have hz5 := HB5.out.size
      clear hb5 HD'
      have HSH : ∀ W, RdB W (some ⟨g, 0, none⟩) (1 + len + j) cp L → Calls Try.prog 10 #[.slice (some ⟨g, 0, none⟩) 1 cp, .int .i64 0] W
          fun e w' => e = .returned (.tuple #[.agg #[.int .i64 0, .int .i64 0, .int .i64 0, .int .i64 0], .bool false]) ∧ Below W.heap.size W w' := fun W h => by
        have h1 := dec_any (h.take 1 (by omega)) 0
        rw [HS.out] at h1
        exact h1
      have HSH' := Lib.hid HSH
      clear HSH
      go_wp2_with fail
      refine (HSH'.out _ (HRD5.out.alloc _)).mono ?_
      rintro e w6 ⟨rfl, hb6⟩
      have d0 := hb6.cell (p := ⟨w5.heap.size, 0, none⟩) (by simp)
      have d1 := hb6.cell (p := ⟨w5.heap.size, 1, none⟩) (by simp)
      have d2 := hb6.cell (p := ⟨w5.heap.size, 2, none⟩) (by simp)
      have d3 := hb6.cell (p := ⟨w5.heap.size, 3, none⟩) (by simp)
      simp [go_sem] at d0 d1 d2 d3
      have HB6 := Lib.hid ((HB5.out.alloc hz5 _).trans (hb6.mono (by simp; omega)))
      have hz6 := HB6.out.size
      have hz65 := hb6.size
      simp at hz65
      clear hb6
      obtain ⟨x1, x2, x3, x4, x5, x6, x7, x8, x9, x10, x11, x12⟩ := far w5.heap.size w6.heap.size (by omega)
      have HFD : ∀ W, Calls Try.prog 14 #[.string ⟨nm.toArray⟩] W fun e w' => e = .returned (.int .i64 c) ∧ Below W.heap.size W w' := fun W => by
        have h1 := opsfind_any ⟨nm.toArray⟩ W
        rw [show (ByteArray.mk nm.toArray).toList = nm from ByteArray.toList_mk _, codeOf_hit (c := c) (by rw [HROW.out]) HN.out] at h1
        exact h1
      have HFD' := Lib.hid HFD
      clear HFD
      go_wp2_with (go_at_call 14; refine (HFD'.out _).mono ?_; rintro e w7 ⟨rfl, hb7⟩; have HB7 := Lib.hid hb7; clear hb7)
      go_ret
      exact ⟨rfl, (HB6.out.alloc hz6 _).trans (HB7.out.mono (by simp; omega))⟩
theorem all_j (c : Nat) (hc : c < 256) (nm : List UInt8) (hrow : rowOf c = (nm, [106])) (hn : nm ≠ []) (A : Option Addr) (len cap : Nat) (l : List UInt8) (w : World) (hr : RdB w A len cap l) (h10 : len ≤ 10) :
    Calls Try.prog 5 #[.int .i64 c, .slice A len cap] w fun e w' => e = .returned (.bool true) ∧ Below w.heap.size w w' := by
  have HF : ∀ W, Calls Try.prog 12 #[.int .i64 c] W fun e w' => e = .returned (.tuple #[.string ⟨nm.toArray⟩, .string ⟨#[106]⟩]) ∧ Below W.heap.size W w' := fun W => by
    have := opsform_any c W
    rw [hrow] at this
    exact this
  have HF' := Lib.hid HF
  clear HF
  have HROW := Lib.hid hrow
  have HR := Lib.hid hr
  have HLEN := Lib.hid hr.hlen
  have hcap := hr.hle
  have e0 : nm.isEmpty = false := by cases nm <;> simp_all
  have HN := Lib.hid hn
  clear hrow hr hn
  go_enter Try.func5, Try.ntmps5
  go_wp2_with fail
  refine (alive_any _).mono ?_
  rintro e w1 ⟨rfl, hb1⟩
  have HB1 := Lib.hid hb1
  clear hb1
  go_wp2_with fail
  refine (HF'.out _).mono ?_
  rintro e w2 ⟨rfl, hb2⟩
  have HB2 := Lib.hid (HB1.out.trans (hb2.mono HB1.out.size))
  have hz2 := HB2.out.size
  clear hb2
  have HSRC := Lib.hid (((HR.out.below HB2.out).alloc (.cells #[.int .u8 (c : Int)] 5)).src)
  have HNEW := Lib.hid (own_new w2 [.int .u8 (c : Int)] 5 w.heap.size 1 hz2 rfl (by simp [maxLen]))
  go_wp2_with (at_builtin; refine wpl_lies rfl _ _ 22 rfl Try.underlying22 info_u8 rfl (by omega) w.heap.size rfl HNEW.out rfl (by rw [List.length_map, Nat.mul_one]; exact HLEN.out.symm) HSRC.out (bV_one l) (by omega) (by simp only [maxLen]; omega) (by omega) (by simp; omega) ?_; intro g k w3 ho3 hg3 hb3 hgg hlt3; have HO3 := Lib.hid (own_eq ho3 rfl (show _ = (UInt8.ofNat c :: l).map bV by rw [bV_ofNat c hc]; rfl)); have HB3 := Lib.hid ((HB2.out.alloc hz2 _).trans hb3); clear ho3 hg3 hb3 hgg)
  go_loopw [8] (fun b wr => ∃ g j cap : Nat, j ≤ 6 ∧ b = .slice (some ⟨g, 0, none⟩) (1 + len + j) cap ∧ Hid (wr.ownsRow w.heap.size 5 1 (.slice (some ⟨g, 0, none⟩) (1 + len + j) cap) (1 + len + j) ((UInt8.ofNat c :: l ++ List.replicate j 0).map bV)) ∧ Hid (Below w.heap.size w wr)) (fun b _ => 6 - lenOf b)
  case atStart => exact ⟨g, 0, k, by omega, rfl, by show World.ownsRow _ _ _ _ _ _ _; simpa using HO3.out, HB3.out⟩
  case round =>
    obtain ⟨g, j, cp, hj, rfl, HO, HB⟩ := hrel
    have hzr := HB.out.size
    by_cases hlt : 1 + len + j < 6
    · go_wp2_with (at_builtin; refine wpl_lies rfl _ _ 22 rfl Try.underlying22 info_u8 rfl (by omega) w.heap.size rfl (HO.out.alloc _) rfl rfl (fun _ => ⟨_, rfl, cells_new _ _ _⟩) (by simp [Value.oneCell']) (by omega) (by simp only [maxLen]; omega) (by omega) (by simp; omega) ?_; intro g2 k2 w4 ho4 hg4 hb4 hgg4 hlt4; have HO4 := Lib.hid ho4; have HB4 := Lib.hid ((HB.out.alloc hzr _).trans hb4); clear ho4 hg4 hb4 hgg4)
      go_roundw
      case rel => exact ⟨g2, j + 1, k2, by omega, rfl, own_eq HO4.out rfl (pad_succ _ _ _), HB4.out⟩
      case measure => simp [lenOf]; omega
    · go_wp2_with fail
      refine wp_loop_rounds 2 ?_
      rw [rounds_succ]
      go_wp2_with fail
      rw [rounds_succ]
      go_wp2_with fail
      obtain ⟨L, hL⟩ : ∃ L, L = UInt8.ofNat c :: l ++ List.replicate j 0 := ⟨_, rfl⟩
      rw [← hL] at HO
      have HRD := Lib.hid (rdB_own HO.out)
      have hcp := HRD.out.hle
      have hL0 : byt L 0 = c := by rw [hL]; unfold byt; simp [List.getD]; omega
      have hLl : 1 + len + j = L.length := HRD.out.hlen
      obtain ⟨A1, B1, hD⟩ : ∃ A1 B1 : Int, decP L 0 = some ((c : Int), A1, B1, 3) := by
        unfold decP decAt
        rw [if_neg (by omega)]
        simp [hL0, HROW.out, HN.out]
        try omega
      have hS : decP (L.take 2) 0 = none := by
        unfold decP decAt
        by_cases h0 : 2 = 0
        · rw [if_pos (by simp [h0])]
        · rw [if_neg (by rw [List.length_take]; omega)]
          simp [byt_take L 2 0 (by omega), hL0, HROW.out, HN.out]
          try omega
      have HS := Lib.hid hS
      clear hS hL0
      clear hL
      have HD := dec_any HRD.out 0
      rw [hD] at HD
      simp only [decV] at HD
      have HD' := Lib.hid HD
      clear HD hD
      refine (HD'.out).mono ?_
      rintro e w5 ⟨rfl, hb5⟩
      have HRD5 := Lib.hid (HRD.out.below hb5)
      have HB5 := Lib.hid (HB.out.trans (hb5.mono hzr))
      have hz5 := HB5.out.size
      clear hb5 HD'
      have HSH : ∀ W, RdB W (some ⟨g, 0, none⟩) (1 + len + j) cp L → Calls Try.prog 10 #[.slice (some ⟨g, 0, none⟩) 2 cp, .int .i64 0] W
          fun e w' => e = .returned (.tuple #[.agg #[.int .i64 0, .int .i64 0, .int .i64 0, .int .i64 0], .bool false]) ∧ Below W.heap.size W w' := fun W h => by
        have h1 := dec_any (h.take 2 (by omega)) 0
        rw [HS.out] at h1
        exact h1
      have HSH' := Lib.hid HSH
      clear HSH
      go_wp2_with fail
      refine (HSH'.out _ (HRD5.out.alloc _)).mono ?_
      rintro e w6 ⟨rfl, hb6⟩
      have d0 := hb6.cell (p := ⟨w5.heap.size, 0, none⟩) (by simp)
      have d1 := hb6.cell (p := ⟨w5.heap.size, 1, none⟩) (by simp)
      have d2 := hb6.cell (p := ⟨w5.heap.size, 2, none⟩) (by simp)
      have d3 := hb6.cell (p := ⟨w5.heap.size, 3, none⟩) (by simp)
      simp [go_sem] at d0 d1 d2 d3
      have HB6 := Lib.hid ((HB5.out.alloc hz5 _).trans (hb6.mono (by simp; omega)))
      have hz6 := HB6.out.size
      have hz65 := hb6.size
      simp at hz65
      clear hb6
      obtain ⟨x1, x2, x3, x4, x5, x6, x7, x8, x9, x10, x11, x12⟩ := far w5.heap.size w6.heap.size (by omega)
      have HFD : ∀ W, Calls Try.prog 14 #[.string ⟨nm.toArray⟩] W fun e w' => e = .returned (.int .i64 c) ∧ Below W.heap.size W w' := fun W => by
        have h1 := opsfind_any ⟨nm.toArray⟩ W
        rw [show (ByteArray.mk nm.toArray).toList = nm from ByteArray.toList_mk _, codeOf_hit (c := c) (by rw [HROW.out]) HN.out] at h1
        exact h1
      have HFD' := Lib.hid HFD
      clear HFD
      go_wp2_with (go_at_call 14; refine (HFD'.out _).mono ?_; rintro e w7 ⟨rfl, hb7⟩; have HB7 := Lib.hid hb7; clear hb7)
      go_ret
      exact ⟨rfl, (HB6.out.alloc hz6 _).trans (HB7.out.mono (by simp; omega))⟩
theorem all_c (c : Nat) (hc : c < 256) (nm : List UInt8) (hrow : rowOf c = (nm, [99])) (hn : nm ≠ []) (A : Option Addr) (len cap : Nat) (l : List UInt8) (w : World) (hr : RdB w A len cap l) (h10 : len ≤ 10) :
    Calls Try.prog 5 #[.int .i64 c, .slice A len cap] w fun e w' => e = .returned (.bool true) ∧ Below w.heap.size w w' := by
  have HF : ∀ W, Calls Try.prog 12 #[.int .i64 c] W fun e w' => e = .returned (.tuple #[.string ⟨nm.toArray⟩, .string ⟨#[99]⟩]) ∧ Below W.heap.size W w' := fun W => by
    have := opsform_any c W
    rw [hrow] at this
    exact this
  have HF' := Lib.hid HF
  clear HF
  have HROW := Lib.hid hrow
  have HR := Lib.hid hr
  have HLEN := Lib.hid hr.hlen
  have hcap := hr.hle
  have e0 : nm.isEmpty = false := by cases nm <;> simp_all
  have HN := Lib.hid hn
  clear hrow hr hn
  go_enter Try.func5, Try.ntmps5
  go_wp2_with fail
  refine (alive_any _).mono ?_
  rintro e w1 ⟨rfl, hb1⟩
  have HB1 := Lib.hid hb1
  clear hb1
  go_wp2_with fail
  refine (HF'.out _).mono ?_
  rintro e w2 ⟨rfl, hb2⟩
  have HB2 := Lib.hid (HB1.out.trans (hb2.mono HB1.out.size))
  have hz2 := HB2.out.size
  clear hb2
  have HSRC := Lib.hid (((HR.out.below HB2.out).alloc (.cells #[.int .u8 (c : Int)] 5)).src)
  have HNEW := Lib.hid (own_new w2 [.int .u8 (c : Int)] 5 w.heap.size 1 hz2 rfl (by simp [maxLen]))
  go_wp2_with (at_builtin; refine wpl_lies rfl _ _ 22 rfl Try.underlying22 info_u8 rfl (by omega) w.heap.size rfl HNEW.out rfl (by rw [List.length_map, Nat.mul_one]; exact HLEN.out.symm) HSRC.out (bV_one l) (by omega) (by simp only [maxLen]; omega) (by omega) (by simp; omega) ?_; intro g k w3 ho3 hg3 hb3 hgg hlt3; have HO3 := Lib.hid (own_eq ho3 rfl (show _ = (UInt8.ofNat c :: l).map bV by rw [bV_ofNat c hc]; rfl)); have HB3 := Lib.hid ((HB2.out.alloc hz2 _).trans hb3); clear ho3 hg3 hb3 hgg)
  go_loopw [8] (fun b wr => ∃ g j cap : Nat, j ≤ 6 ∧ b = .slice (some ⟨g, 0, none⟩) (1 + len + j) cap ∧ Hid (wr.ownsRow w.heap.size 5 1 (.slice (some ⟨g, 0, none⟩) (1 + len + j) cap) (1 + len + j) ((UInt8.ofNat c :: l ++ List.replicate j 0).map bV)) ∧ Hid (Below w.heap.size w wr)) (fun b _ => 6 - lenOf b)
  case atStart => exact ⟨g, 0, k, by omega, rfl, by show World.ownsRow _ _ _ _ _ _ _; simpa using HO3.out, HB3.out⟩
  case round =>
    obtain ⟨g, j, cp, hj, rfl, HO, HB⟩ := hrel
    have hzr := HB.out.size
    by_cases hlt : 1 + len + j < 6
    · go_wp2_with (at_builtin; refine wpl_lies rfl _ _ 22 rfl Try.underlying22 info_u8 rfl (by omega) w.heap.size rfl (HO.out.alloc _) rfl rfl (fun _ => ⟨_, rfl, cells_new _ _ _⟩) (by simp [Value.oneCell']) (by omega) (by simp only [maxLen]; omega) (by omega) (by simp; omega) ?_; intro g2 k2 w4 ho4 hg4 hb4 hgg4 hlt4; have HO4 := Lib.hid ho4; have HB4 := Lib.hid ((HB.out.alloc hzr _).trans hb4); clear ho4 hg4 hb4 hgg4)
      go_roundw
      case rel => exact ⟨g2, j + 1, k2, by omega, rfl, own_eq HO4.out rfl (pad_succ _ _ _), HB4.out⟩
      case measure => simp [lenOf]; omega
    · go_wp2_with fail
      refine wp_loop_rounds 2 ?_
      rw [rounds_succ]
      go_wp2_with fail
      rw [rounds_succ]
      go_wp2_with fail
      obtain ⟨L, hL⟩ : ∃ L, L = UInt8.ofNat c :: l ++ List.replicate j 0 := ⟨_, rfl⟩
      rw [← hL] at HO
      have HRD := Lib.hid (rdB_own HO.out)
      have hcp := HRD.out.hle
      have hL0 : byt L 0 = c := by rw [hL]; unfold byt; simp [List.getD]; omega
      have hLl : 1 + len + j = L.length := HRD.out.hlen
      obtain ⟨A1, B1, hD⟩ : ∃ A1 B1 : Int, decP L 0 = some ((c : Int), A1, B1, 3) := by
        unfold decP decAt
        rw [if_neg (by omega)]
        simp [hL0, HROW.out, HN.out]
        try omega
      have hS : decP (L.take 2) 0 = none := by
        unfold decP decAt
        by_cases h0 : 2 = 0
        · rw [if_pos (by simp [h0])]
        · rw [if_neg (by rw [List.length_take]; omega)]
          simp [byt_take L 2 0 (by omega), hL0, HROW.out, HN.out]
          try omega
      have HS := Lib.hid hS
      clear hS hL0
      clear hL
      have HD := dec_any HRD.out 0
      rw [hD] at HD
      simp only [decV] at HD
      have HD' := Lib.hid HD
      clear HD hD
      refine (HD'.out).mono ?_
      rintro e w5 ⟨rfl, hb5⟩
      have HRD5 := Lib.hid (HRD.out.below hb5)
      have HB5 := Lib.hid (HB.out.trans (hb5.mono hzr))
      have hz5 := HB5.out.size
      clear hb5 HD'
      have HSH : ∀ W, RdB W (some ⟨g, 0, none⟩) (1 + len + j) cp L → Calls Try.prog 10 #[.slice (some ⟨g, 0, none⟩) 2 cp, .int .i64 0] W
          fun e w' => e = .returned (.tuple #[.agg #[.int .i64 0, .int .i64 0, .int .i64 0, .int .i64 0], .bool false]) ∧ Below W.heap.size W w' := fun W h => by
        have h1 := dec_any (h.take 2 (by omega)) 0
        rw [HS.out] at h1
        exact h1
      have HSH' := Lib.hid HSH
      clear HSH
      go_wp2_with fail
      refine (HSH'.out _ (HRD5.out.alloc _)).mono ?_
      rintro e w6 ⟨rfl, hb6⟩
      have d0 := hb6.cell (p := ⟨w5.heap.size, 0, none⟩) (by simp)
      have d1 := hb6.cell (p := ⟨w5.heap.size, 1, none⟩) (by simp)
      have d2 := hb6.cell (p := ⟨w5.heap.size, 2, none⟩) (by simp)
      have d3 := hb6.cell (p := ⟨w5.heap.size, 3, none⟩) (by simp)
      simp [go_sem] at d0 d1 d2 d3
      have HB6 := Lib.hid ((HB5.out.alloc hz5 _).trans (hb6.mono (by simp; omega)))
      have hz6 := HB6.out.size
      have hz65 := hb6.size
      simp at hz65
      clear hb6
      obtain ⟨x1, x2, x3, x4, x5, x6, x7, x8, x9, x10, x11, x12⟩ := far w5.heap.size w6.heap.size (by omega)
      have HFD : ∀ W, Calls Try.prog 14 #[.string ⟨nm.toArray⟩] W fun e w' => e = .returned (.int .i64 c) ∧ Below W.heap.size W w' := fun W => by
        have h1 := opsfind_any ⟨nm.toArray⟩ W
        rw [show (ByteArray.mk nm.toArray).toList = nm from ByteArray.toList_mk _, codeOf_hit (c := c) (by rw [HROW.out]) HN.out] at h1
        exact h1
      have HFD' := Lib.hid HFD
      clear HFD
      go_wp2_with (go_at_call 14; refine (HFD'.out _).mono ?_; rintro e w7 ⟨rfl, hb7⟩; have HB7 := Lib.hid hb7; clear hb7)
      go_ret
      exact ⟨rfl, (HB6.out.alloc hz6 _).trans (HB7.out.mono (by simp; omega))⟩
end Go.Proofs.Ytgicbgeblgfnfaa
