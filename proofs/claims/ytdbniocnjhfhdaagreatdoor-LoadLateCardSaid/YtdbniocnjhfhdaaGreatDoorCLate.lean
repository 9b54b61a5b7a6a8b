/-
  LoadLate, walked.
-/
import Derived.Test.YtdbniocnjhfhdaaGreatDoorCLabel
set_option linter.unusedSimpArgs false
set_option linter.unusedVariables false
set_option maxRecDepth 100000
set_option maxHeartbeats 1000000
namespace Go.Proofs.YtdbniocnjhfhdaaGreatDoor
open Go Go.RowKit Lib
theorem LabDefs.iff {P Q : Nat → Prop} {up : Nat → ByteArray} {defs : List UInt8 → Option (List UInt8)} (h : LabDefs P up defs) (hq : ∀ j, Q j ↔ P j) : LabDefs Q up defs :=
  ⟨fun j hj => h.at' j ((hq j).1 hj), fun s l hs => by
    obtain ⟨j, h1, h2⟩ := h.only s l hs
    exact ⟨j, (hq j).2 h1, h2⟩, fun j hj => h.lt j ((hq j).1 hj), fun j hj => h.ok j ((hq j).1 hj)⟩
theorem late_in (m g : Nat) (w : World) (hgl : GlB w) (h1 : 1 ≤ m) (h2 : m ≤ 12) (hg : g ≤ m) : Calls Tryz.prog 6 #[.int .i64 m, .int .i64 g] w fun e w' => e = .returned (.bool true) ∧ Below w.heap.size w w' := by
  have hB := glB_pos hgl
  have HA := Lib.hid (alive_all w hgl)
  have HGL := Lib.hid hgl
  clear hgl
  have c1 : decide ((m : Int) < 1) = false := by simp; omega
  have c2 : decide ((m : Int) > 12) = false := by simp; omega
  have c3 : decide ((g : Int) < 0) = false := by simp
  have c4 : decide ((g : Int) > (m : Int)) = false := by simp; omega
  go_enter Tryz.func6, Tryz.ntmps6
  go_wp2_with (first
    | (go_at_call 10; refine HA.out.mono ?_; rintro e w1 ⟨rfl, hb1⟩; have B1 := Lib.hid hb1; clear hb1)
    | (go_at_call 12; refine stop_here ?_))
  refine go_on ?_
  refine (new_all _).mono ?_
  rintro e w2 ⟨L, v, ts, rfl, hk, h2', hb2⟩
  have hz1 := B1.out.size
  have H2 := Lib.hid h2'
  have HK := Lib.hid hk
  have B2 := Lib.hid (B1.out.trans (hb2.mono hz1))
  have hB1 : 0 < w1.heap.size := by omega
  have C0 := Lib.hid (show ∀ W, Calls Tryz.prog 17 #[.int .i64 (0 : Int)] W fun e w' => e = .returned (.string (lab 0)) ∧ W = w' from fun W => label_any 0 (by omega) W)
  clear h2' hb2 hk c1 c2 c3 c4
  go_wp2_with fail
  go_loopw [7] (fun i wr => ∃ (k nd : Nat) (defs : List UInt8 → Option (List UInt8)), k ≤ m ∧ nd ≤ k ∧ i = .int .i64 k ∧ Hid (LabDefs (fun j => j < k ∧ j ≠ g) (upR m false) defs) ∧ Hid (LdG w1.heap.size L nd defs (fun _ => none) (ts.map TyV.name) [] ts v wr) ∧ Hid (Below w.heap.size w wr)) (fun i _ => m - (RowKit.intOf i).toNat)
  case atStart =>
    have e0 : LabDefs (fun j => j < 0 ∧ j ≠ g) (upR m false) (fun _ => none) := ⟨fun _ h => absurd h.1 (Nat.not_lt_zero _), fun _ _ h => (by cases h), fun _ h => absurd h.1 (Nat.not_lt_zero _), fun _ h => absurd h.1 (Nat.not_lt_zero _)⟩
    exact ⟨0, 0, fun _ => none, by omega, by omega, rfl, Lib.hid e0, H2, B2⟩
  case round =>
    obtain ⟨k, nd, defs, hkm, hndk, rfl, HD, HL, HB⟩ := hrel
    by_cases hlt : k < m
    · have hd1 : decide ((k : Int) < (m : Int)) = true := by simp; omega
      have HU := Lib.hid (upR_ok m false (by omega) k)
      have CK := Lib.hid (fun W => label_any k (by omega) W)
      by_cases hkg : k = g
      · subst hkg
        have hne : ((k : Int) != (k : Int)) = false := by simp
        have HD' := Lib.hid (HD.out.iff (Q := fun j => j < k + 1 ∧ j ≠ k) (fun j => by omega))
        by_cases hA : k + 1 < m
        · have hd2 : decide ((k : Int) + 1 < (m : Int)) = true := by simp; omega
          have CU := Lib.hid (show ∀ W, Calls Tryz.prog 17 #[.int .i64 ((k : Int) + 1)] W fun e w' => e = .returned (.string (lab (k + 1))) ∧ W = w' from fun W => label_any (k + 1) (by omega) W)
          go_wp2_with (go_at_call 17; first | (refine (CU.out _).mono ?_; rintro e w' ⟨rfl, rfl⟩) | (refine (CK.out _).mono ?_; rintro e w' ⟨rfl, rfl⟩))
          go_roundw
          case rel => exact ⟨k + 1, nd, _, by omega, by omega, by go_num, HD', HL, HB⟩
          case measure => simp [RowKit.intOf]; omega
        · have hd2 : decide ((k : Int) + 1 < (m : Int)) = false := by simp; omega
          go_wp2_with fail
          go_roundw
          case rel => exact ⟨k + 1, nd, _, by omega, by omega, by go_num, HD', HL, HB⟩
          case measure => simp [RowKit.intOf]; omega
      · have hne : ((k : Int) != (g : Int)) = true := by simp; omega
        have HD' := Lib.hid (HD.out.put k (by omega) HU.out (Q := fun j => j < k + 1 ∧ j ≠ g) (fun j => by omega))
        by_cases hA : k + 1 < m
        · have hd2 : decide ((k : Int) + 1 < (m : Int)) = true := by simp; omega
          have CU := Lib.hid (show ∀ W, Calls Tryz.prog 17 #[.int .i64 ((k : Int) + 1)] W fun e w' => e = .returned (.string (lab (k + 1))) ∧ W = w' from fun W => label_any (k + 1) (by omega) W)
          have hU : upR m false k = lab (k + 1) := by unfold upR; rw [if_pos hA]
          go_wp2_with (first
            | (go_at_call 17; first | (refine (CU.out _).mono ?_; rintro e w' ⟨rfl, rfl⟩) | (refine (CK.out _).mono ?_; rintro e w' ⟨rfl, rfl⟩))
            | (go_at_call 18; refine stop_here ?_))
          rw [← hU]
          refine go_on ?_
          refine (lbytes_any (lab k) (upR m false k) (by rw [lab_size]; decide) HU.out.2 wr).mono ?_
          rintro e w4 ⟨g4, k4, rfl, ho4, hb4⟩
          have R4 := Lib.hid (rdB_own ho4)
          have H4 := Lib.hid (HL.out.below hb4)
          have B4 := Lib.hid (HB.out.trans (hb4.mono HB.out.size))
          clear ho4 hb4 HL HB hU
          go_wp2_with (go_at_call 15; refine stop_here ?_)
          refine go_on ?_
          refine (defLab H4.out HD.out k (by omega) (fun h => Nat.lt_irrefl k h.1) (by omega) HU.out R4.out).mono ?_
          rintro e w5 ⟨rfl, h5, hb5⟩
          have H5 := Lib.hid h5
          have B5 := Lib.hid (B4.out.trans (hb5.mono hz1))
          clear h5 hb5 H4 B4 R4
          go_wp2_with fail
          go_roundw
          case rel => exact ⟨k + 1, nd + 1, _, by omega, by omega, by go_num, HD', H5, B5⟩
          case measure => simp [RowKit.intOf]; omega
        · have hd2 : decide ((k : Int) + 1 < (m : Int)) = false := by simp; omega
          have hU : upR m false k = ⟨#[106, 97, 118, 97, 47, 108, 97, 110, 103, 47, 79, 98, 106, 101, 99, 116]⟩ := by unfold upR; rw [if_neg hA]; rfl
          go_wp2_with (first
            | (go_at_call 17; refine (CK.out _).mono ?_; rintro e w' ⟨rfl, rfl⟩)
            | (go_at_call 18; refine stop_here ?_))
          rw [← hU]
          refine go_on ?_
          refine (lbytes_any (lab k) (upR m false k) (by rw [lab_size]; decide) HU.out.2 wr).mono ?_
          rintro e w4 ⟨g4, k4, rfl, ho4, hb4⟩
          have R4 := Lib.hid (rdB_own ho4)
          have H4 := Lib.hid (HL.out.below hb4)
          have B4 := Lib.hid (HB.out.trans (hb4.mono HB.out.size))
          clear ho4 hb4 HL HB hU
          go_wp2_with (go_at_call 15; refine stop_here ?_)
          refine go_on ?_
          refine (defLab H4.out HD.out k (by omega) (fun h => Nat.lt_irrefl k h.1) (by omega) HU.out R4.out).mono ?_
          rintro e w5 ⟨rfl, h5, hb5⟩
          have H5 := Lib.hid h5
          have B5 := Lib.hid (B4.out.trans (hb5.mono hz1))
          clear h5 hb5 H4 B4 R4
          go_wp2_with fail
          go_roundw
          case rel => exact ⟨k + 1, nd + 1, _, by omega, by omega, by go_num, HD', H5, B5⟩
          case measure => simp [RowKit.intOf]; omega
    · have hkm' : k = m := by omega
      subst hkm'
      have hd1 : decide ((k : Int) < (k : Int)) = false := by simp
      have hgm : ((g : Int) == (k : Int)) = decide (g = k) := by
        by_cases e : g = k
        · subst e; simp
        · rw [decide_eq_false e]; simp; omega
      by_cases hgk : g = k
      · subst hgk
        rw [decide_eq_true rfl] at hgm
        have HDX := Lib.hid (HD.out.iff (Q := fun j => j < g) (fun j => by omega))
        obtain ⟨σ', hσ, hlen⟩ := round_no g 0 (by omega) (by omega) HDX.out
        go_wp2_with (first
          | (go_at_call 17; refine (C0.out _).mono ?_; rintro e w' ⟨rfl, rfl⟩)
          | (go_at_call 13; refine stop_here ?_))
        refine go_on ?_
        have C6 := Lib.hid (loadTop_any checkB defs labDn HDX.out.ldK w1.heap.size L _ _ ts v wr (lab 0) HL.out (ksOk_core HK.out) (by rw [lab_size]; decide) hB1 (HGL.out.below HB.out hB))
        rw [HK.out, show (⟨coreKeys, fun _ => none⟩ : LT) = core0 from rfl, hσ] at C6
        refine C6.out.mono ?_
        rintro e w6 ⟨rfl, X6, ts6, v6, hk6, h6, hks6, hb6, _⟩
        have hl6 : ts6.length = 26 + g := by
          have := congrArg List.length hk6
          rw [List.length_map, hlen] at this
          exact this
        have HX := Lib.hid h6
        have BX := Lib.hid (HB.out.trans (hb6.mono hz1))
        clear h6 hk6 hks6 hb6 C6 hσ hlen
        unfold strOf
        go_wp2_with (go_at_call 14; refine stop_here ?_)
        refine go_on ?_
        refine (ltypes_any HX.out (by omega) (by omega)).mono ?_
        rintro e w7 ⟨ov, ts7, rfl, ho7, _, hb7⟩
        rw [hl6] at ho7
        obtain ⟨A7, k7, rfl, _⟩ := sl_len (slAt_own ho7 (fun _ => True) (by omega) (by omega) (fun _ _ => trivial))
        have B7 := Lib.hid (BX.out.trans (hb7.mono BX.out.size))
        have H7 := Lib.hid (HX.out.below hb7)
        clear ho7 hb7 HX BX
        have hcmp : ((26 + (g : Nat) : Nat) : Int) = 26 + (g : Int) := by omega
        go_wp2_with fail
        go_ret
        exact ⟨by simp, B7.out⟩
      · rw [decide_eq_false hgk] at hgm
        have HDX := HD
        have hσ := late_bad k g (by omega) (by omega) HD.out
        have HU := Lib.hid (upR_ok k false (by omega) g)
        have CK := Lib.hid (fun W => label_any g (by omega) W)
        have HD' := Lib.hid (HD.out.put g (by omega) HU.out (Q := fun j => j < k) (fun j => by omega))
        go_wp2_with (first
          | (go_at_call 17; refine (C0.out _).mono ?_; rintro e w' ⟨rfl, rfl⟩)
          | (go_at_call 13; refine stop_here ?_))
        refine go_on ?_
        have C6 := Lib.hid (loadTop_any checkB defs labDn HDX.out.ldK w1.heap.size L _ _ ts v wr (lab 0) HL.out (ksOk_core HK.out) (by rw [lab_size]; decide) hB1 (HGL.out.below HB.out hB))
        rw [HK.out, show (⟨coreKeys, fun _ => none⟩ : LT) = core0 from rfl, hσ] at C6
        refine C6.out.mono ?_
        rintro e w6 ⟨rfl, X6, ts6, v6, hk6, h6, hks6, hb6, _⟩
        have hl6 : ts6.length = 26 := by
          have := congrArg List.length hk6
          rw [List.length_map] at this
          exact this
        have HX := Lib.hid h6
        have BX := Lib.hid (HB.out.trans (hb6.mono hz1))
        have HK6 := Lib.hid (show ts6.map TyV.key = coreKeys from hk6)
        have KS6 := Lib.hid hks6
        clear h6 hk6 hks6 hb6 C6 hσ HL HB
        have e8 : strOf (some noDefB) = ⟨#[106, 97, 118, 97, 47, 108, 97, 110, 103, 47, 78, 111, 67, 108, 97, 115, 115, 68, 101, 102, 70, 111, 117, 110, 100, 69, 114, 114, 111, 114]⟩ := by decide
        rw [e8]
        go_wp2_with (go_at_call 14; refine stop_here ?_)
        refine go_on ?_
        refine (ltypes_any HX.out (by omega) (by omega)).mono ?_
        rintro e w7 ⟨ov, ts7, rfl, ho7, _, hb7⟩
        rw [hl6] at ho7
        obtain ⟨A7, k7, rfl, _⟩ := sl_len (slAt_own ho7 (fun _ => True) (by omega) (by omega) (fun _ _ => trivial))
        have B7 := Lib.hid (BX.out.trans (hb7.mono BX.out.size))
        have H7 := Lib.hid (HX.out.below hb7)
        clear ho7 hb7 HX BX
        by_cases hA : g + 1 < k
        · have hd2 : decide ((g : Int) + 1 < (k : Int)) = true := by simp; omega
          have CU := Lib.hid (show ∀ W, Calls Tryz.prog 17 #[.int .i64 ((g : Int) + 1)] W fun e w' => e = .returned (.string (lab (g + 1))) ∧ W = w' from fun W => label_any (g + 1) (by omega) W)
          have hU : upR k false g = lab (g + 1) := by unfold upR; rw [if_pos hA]
          go_wp2_with (first
            | (go_at_call 17; first | (refine (CU.out _).mono ?_; rintro e w' ⟨rfl, rfl⟩) | (refine (CK.out _).mono ?_; rintro e w' ⟨rfl, rfl⟩))
            | (go_at_call 18; refine stop_here ?_))
          rw [← hU]
          refine go_on ?_
          refine (lbytes_any (lab g) (upR k false g) (by rw [lab_size]; decide) HU.out.2 w7).mono ?_
          rintro e w8 ⟨g8, k8, rfl, ho8, hb8⟩
          have R8 := Lib.hid (rdB_own ho8)
          have H8 := Lib.hid (H7.out.below hb8)
          have B8 := Lib.hid (B7.out.trans (hb8.mono B7.out.size))
          clear ho8 hb8 H7 B7 hU
          go_wp2_with (go_at_call 15; refine stop_here ?_)
          refine go_on ?_
          refine (defLab H8.out HD.out g (by omega) (fun h => h.2 rfl) (by omega) HU.out R8.out).mono ?_
          rintro e w9 ⟨rfl, h9, hb9⟩
          have H9 := Lib.hid h9
          have B9 := Lib.hid (B8.out.trans (hb9.mono hz1))
          clear h9 hb9 H8 B8 R8 hl6
          obtain ⟨σ', hσ, hlen⟩ := round_no k 0 (by omega) (by omega) HD'.out
          go_wp2_with (first
            | (go_at_call 17; refine (C0.out _).mono ?_; rintro e w' ⟨rfl, rfl⟩)
            | (go_at_call 13; refine stop_here ?_))
          refine go_on ?_
          have C6 := Lib.hid (loadTop_any checkB _ labDn HD'.out.ldK w1.heap.size _ _ _ ts6 v6 w9 (lab 0) H9.out KS6.out (by rw [lab_size]; decide) hB1 (HGL.out.below B9.out hB))
          rw [HK6.out, show (⟨coreKeys, core0.files⟩ : LT) = core0 from rfl, hσ] at C6
          refine C6.out.mono ?_
          rintro e w10 ⟨rfl, X10, ts10, v10, hk10, h10, hks10, hb10, _⟩
          have hl6 : ts10.length = 26 + k := by
            have := congrArg List.length hk10
            rw [List.length_map, hlen] at this
            exact this
          have HX := Lib.hid h10
          have BX := Lib.hid (B9.out.trans (hb10.mono hz1))
          clear h10 hk10 hks10 hb10 C6 hσ hlen H9 B9
          unfold strOf
          go_wp2_with (go_at_call 14; refine stop_here ?_)
          refine go_on ?_
          refine (ltypes_any HX.out (by omega) (by omega)).mono ?_
          rintro e w11 ⟨ov, ts11, rfl, ho7, _, hb7⟩
          rw [hl6] at ho7
          obtain ⟨A11, k11, rfl, _⟩ := sl_len (slAt_own ho7 (fun _ => True) (by omega) (by omega) (fun _ _ => trivial))
          have B11 := Lib.hid (BX.out.trans (hb7.mono BX.out.size))
          have H11 := Lib.hid (HX.out.below hb7)
          clear ho7 hb7 HX BX
          have hcmp : ((26 + (k : Nat) : Nat) : Int) = 26 + (k : Int) := by omega
          go_wp2_with fail
          go_ret
          exact ⟨by simp, B11.out⟩
        · have hd2 : decide ((g : Int) + 1 < (k : Int)) = false := by simp; omega
          have hU : upR k false g = ⟨#[106, 97, 118, 97, 47, 108, 97, 110, 103, 47, 79, 98, 106, 101, 99, 116]⟩ := by unfold upR; rw [if_neg hA]; rfl
          go_wp2_with (first
            | (go_at_call 17; refine (CK.out _).mono ?_; rintro e w' ⟨rfl, rfl⟩)
            | (go_at_call 18; refine stop_here ?_))
          rw [← hU]
          refine go_on ?_
          refine (lbytes_any (lab g) (upR k false g) (by rw [lab_size]; decide) HU.out.2 w7).mono ?_
          rintro e w8 ⟨g8, k8, rfl, ho8, hb8⟩
          have R8 := Lib.hid (rdB_own ho8)
          have H8 := Lib.hid (H7.out.below hb8)
          have B8 := Lib.hid (B7.out.trans (hb8.mono B7.out.size))
          clear ho8 hb8 H7 B7 hU
          go_wp2_with (go_at_call 15; refine stop_here ?_)
          refine go_on ?_
          refine (defLab H8.out HD.out g (by omega) (fun h => h.2 rfl) (by omega) HU.out R8.out).mono ?_
          rintro e w9 ⟨rfl, h9, hb9⟩
          have H9 := Lib.hid h9
          have B9 := Lib.hid (B8.out.trans (hb9.mono hz1))
          clear h9 hb9 H8 B8 R8 hl6
          obtain ⟨σ', hσ, hlen⟩ := round_no k 0 (by omega) (by omega) HD'.out
          go_wp2_with (first
            | (go_at_call 17; refine (C0.out _).mono ?_; rintro e w' ⟨rfl, rfl⟩)
            | (go_at_call 13; refine stop_here ?_))
          refine go_on ?_
          have C6 := Lib.hid (loadTop_any checkB _ labDn HD'.out.ldK w1.heap.size _ _ _ ts6 v6 w9 (lab 0) H9.out KS6.out (by rw [lab_size]; decide) hB1 (HGL.out.below B9.out hB))
          rw [HK6.out, show (⟨coreKeys, core0.files⟩ : LT) = core0 from rfl, hσ] at C6
          refine C6.out.mono ?_
          rintro e w10 ⟨rfl, X10, ts10, v10, hk10, h10, hks10, hb10, _⟩
          have hl6 : ts10.length = 26 + k := by
            have := congrArg List.length hk10
            rw [List.length_map, hlen] at this
            exact this
          have HX := Lib.hid h10
          have BX := Lib.hid (B9.out.trans (hb10.mono hz1))
          clear h10 hk10 hks10 hb10 C6 hσ hlen H9 B9
          unfold strOf
          go_wp2_with (go_at_call 14; refine stop_here ?_)
          refine go_on ?_
          refine (ltypes_any HX.out (by omega) (by omega)).mono ?_
          rintro e w11 ⟨ov, ts11, rfl, ho7, _, hb7⟩
          rw [hl6] at ho7
          obtain ⟨A11, k11, rfl, _⟩ := sl_len (slAt_own ho7 (fun _ => True) (by omega) (by omega) (fun _ _ => trivial))
          have B11 := Lib.hid (BX.out.trans (hb7.mono BX.out.size))
          have H11 := Lib.hid (HX.out.below hb7)
          clear ho7 hb7 HX BX
          have hcmp : ((26 + (k : Nat) : Nat) : Int) = 26 + (k : Int) := by omega
          go_wp2_with fail
          go_ret
          exact ⟨by simp, B11.out⟩
theorem late_any (n f : Int) (w : World) (hgl : GlB w) : Calls Tryz.prog 6 #[.int .i64 n, .int .i64 f] w fun e w' => e = .returned (.bool true) ∧ Below w.heap.size w w' := by
  by_cases hc1 : n < 1
  · have c1 : decide (n < 1) = true := by simpa using hc1
    have HA := Lib.hid (alive_all w hgl)
    clear hgl
    go_enter Tryz.func6, Tryz.ntmps6
    go_wp2_with (go_at_call 10; refine HA.out.mono ?_; rintro e w1 ⟨rfl, hb1⟩; have B1 := Lib.hid hb1; clear hb1)
    go_ret
    exact ⟨rfl, B1.out⟩
  · have c1 : decide (n < 1) = false := by simpa using hc1
    by_cases hc2 : n > 12
    · have c2 : decide (n > 12) = true := by simpa using hc2
      have HA := Lib.hid (alive_all w hgl)
      clear hgl
      go_enter Tryz.func6, Tryz.ntmps6
      go_wp2_with (go_at_call 10; refine HA.out.mono ?_; rintro e w1 ⟨rfl, hb1⟩; have B1 := Lib.hid hb1; clear hb1)
      go_ret
      exact ⟨rfl, B1.out⟩
    · have c2 : decide (n > 12) = false := by simpa using hc2
      by_cases hc3 : f < 0
      · have c3 : decide (f < 0) = true := by simpa using hc3
        have HA := Lib.hid (alive_all w hgl)
        clear hgl
        go_enter Tryz.func6, Tryz.ntmps6
        go_wp2_with (go_at_call 10; refine HA.out.mono ?_; rintro e w1 ⟨rfl, hb1⟩; have B1 := Lib.hid hb1; clear hb1)
        go_ret
        exact ⟨rfl, B1.out⟩
      · have c3 : decide (f < 0) = false := by simpa using hc3
        by_cases hc4 : f > n
        · have c4 : decide (f > n) = true := by simpa using hc4
          have HA := Lib.hid (alive_all w hgl)
          clear hgl
          go_enter Tryz.func6, Tryz.ntmps6
          go_wp2_with (go_at_call 10; refine HA.out.mono ?_; rintro e w1 ⟨rfl, hb1⟩; have B1 := Lib.hid hb1; clear hb1)
          go_ret
          exact ⟨rfl, B1.out⟩
        · have c4 : decide (f > n) = false := by simpa using hc4
          obtain ⟨m, rfl⟩ := Int.eq_ofNat_of_zero_le (show 0 ≤ n by omega)
          obtain ⟨q, rfl⟩ := Int.eq_ofNat_of_zero_le (show 0 ≤ f by omega)
          exact late_in m q w hgl (by omega) (by omega) (by omega)
end Go.Proofs.YtdbniocnjhfhdaaGreatDoor
