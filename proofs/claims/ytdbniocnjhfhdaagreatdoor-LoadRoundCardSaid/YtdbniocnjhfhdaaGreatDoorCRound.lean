/-
  LoadRound, walked.
-/
import Derived.Test.YtdbniocnjhfhdaaGreatDoorCLabel
set_option linter.unusedSimpArgs false
set_option linter.unusedVariables false
set_option maxRecDepth 100000
set_option maxHeartbeats 1000000
namespace Go.Proofs.YtdbniocnjhfhdaaGreatDoor
open Go Go.RowKit Lib
theorem round_in (m q : Nat) (b : Bool) (w : World) (hgl : GlB w) (h1 : 1 ≤ m) (h2 : m ≤ 20) (hq : q ≤ 9223372036854775807) : Calls Tryz.prog 4 #[.int .i64 m, .bool b, .int .i64 q] w fun e w' => e = .returned (.bool true) ∧ Below w.heap.size w w' := by
  have hB := glB_pos hgl
  have HA := Lib.hid (alive_all w hgl)
  have HGL := Lib.hid hgl
  clear hgl
  have c1 : decide ((m : Int) < 1) = false := by simp; omega
  have c2 : decide ((m : Int) > 20) = false := by simp; omega
  have c3 : decide ((q : Int) < 0) = false := by simp
  go_enter Tryz.func4, Tryz.ntmps4
  go_wp2_with (first
    | (go_at_call 10; refine HA.out.mono ?_; rintro e w1 ⟨rfl, hb1⟩; have B1 := Lib.hid hb1; clear hb1)
    | (go_at_call 12; refine stop_here ?_))
  refine go_on ?_
  refine (new_all _).mono ?_
  rintro e w2 ⟨L, v, ts, rfl, hk, h2', hb2⟩
  have hz1 := B1.out.size
  have H2 := Lib.hid h2'
  have HK := Lib.hid hk
  have B2 := Lib.hid (B1.out.trans (hb2.mono hz1))
  have hB1 : 0 < w1.heap.size := by omega
  clear h2' hb2 hk
  go_wp2_with fail
  go_loopw [9] (fun i wr => ∃ (k : Nat) (defs : List UInt8 → Option (List UInt8)), k ≤ m ∧ i = .int .i64 k ∧ Hid (LabDefs (fun j => j < k) (upR m b) defs) ∧ Hid (LdG w1.heap.size L k defs (fun _ => none) (ts.map TyV.name) [] ts v wr) ∧ Hid (Below w.heap.size w wr)) (fun i _ => m - (RowKit.intOf i).toNat)
  case atStart =>
    have e0 : LabDefs (fun j => j < 0) (upR m b) (fun _ => none) := ⟨fun _ h => absurd h (Nat.not_lt_zero _), fun _ _ h => (by cases h), fun _ h => absurd h (Nat.not_lt_zero _), fun _ h => absurd h (Nat.not_lt_zero _)⟩
    exact ⟨0, fun _ => none, by omega, rfl, Lib.hid e0, H2, B2⟩
  case round =>
    obtain ⟨k, defs, hkm, rfl, HD, HL, HB⟩ := hrel
    by_cases hlt : k < m
    · have hd1 : decide ((k : Int) < (m : Int)) = true := by simp; omega
      have HU := Lib.hid (upR_ok m b (by omega) k)
      have HD' := Lib.hid (HD.out.put k (by omega) HU.out (Q := fun j => j < k + 1) (fun j => by omega))
      have CK := Lib.hid (fun W => label_any k (by omega) W)
      by_cases hA : k + 1 < m
      · have hd2 : decide ((k : Int) + 1 < (m : Int)) = true := by simp; omega
        have CU := Lib.hid (show ∀ W, Calls Tryz.prog 17 #[.int .i64 ((k : Int) + 1)] W fun e w' => e = .returned (.string (lab (k + 1))) ∧ W = w' from fun W => label_any (k + 1) (by omega) W)
        have hU : upR m b k = lab (k + 1) := by unfold upR; rw [if_pos hA]
        go_wp2_with (first
          | (go_at_call 17; first | (refine (CU.out _).mono ?_; rintro e w' ⟨rfl, rfl⟩) | (refine (CK.out _).mono ?_; rintro e w' ⟨rfl, rfl⟩))
          | (go_at_call 18; refine stop_here ?_))
        rw [← hU]
        refine go_on ?_
        refine (lbytes_any (lab k) (upR m b k) (by rw [lab_size]; decide) HU.out.2 wr).mono ?_
        rintro e w4 ⟨g4, k4, rfl, ho4, hb4⟩
        have R4 := Lib.hid (rdB_own ho4)
        have H4 := Lib.hid (HL.out.below hb4)
        have B4 := Lib.hid (HB.out.trans (hb4.mono HB.out.size))
        clear ho4 hb4 HL HB hU
        go_wp2_with (go_at_call 15; refine stop_here ?_)
        refine go_on ?_
        refine (defLab H4.out HD.out k (by omega) (Nat.lt_irrefl k) (by omega) HU.out R4.out).mono ?_
        rintro e w5 ⟨rfl, h5, hb5⟩
        have H5 := Lib.hid h5
        have B5 := Lib.hid (B4.out.trans (hb5.mono hz1))
        clear h5 hb5 H4 B4 R4
        go_wp2_with fail
        go_roundw
        case rel => exact ⟨k + 1, _, by omega, by go_num, HD', H5, B5⟩
        case measure => simp [RowKit.intOf]; omega
      · have hd2 : decide ((k : Int) + 1 < (m : Int)) = false := by simp; omega
        cases b
        · have CU := Lib.hid (show ∀ W, Calls Tryz.prog 17 #[.int .i64 (0 : Int)] W fun e w' => e = .returned (.string (lab 0)) ∧ W = w' from fun W => label_any 0 (by omega) W)
          have hU : upR m false k = ⟨#[106, 97, 118, 97, 47, 108, 97, 110, 103, 47, 79, 98, 106, 101, 99, 116]⟩ := by unfold upR; rw [if_neg hA]; rfl
          go_wp2_with (first
            | (go_at_call 17; first | (refine (CU.out _).mono ?_; rintro e w' ⟨rfl, rfl⟩) | (refine (CK.out _).mono ?_; rintro e w' ⟨rfl, rfl⟩))
            | (go_at_call 18; refine stop_here ?_))
          rw [← hU]
          refine go_on ?_
          refine (lbytes_any (lab k) (upR m false k) (by rw [lab_size]; decide) HU.out.2 wr).mono ?_
          rintro e w4 ⟨g4, k4, rfl, ho4, hb4⟩
          have R4 := Lib.hid (rdB_own ho4)
          have H4 := Lib.hid (HL.out.below hb4)
          have B4 := Lib.hid (HB.out.trans (hb4.mono HB.out.size))
          clear ho4 hb4 HL HB hU
          go_wp2_with (go_at_call 15; refine stop_here ?_)
          refine go_on ?_
          refine (defLab H4.out HD.out k (by omega) (Nat.lt_irrefl k) (by omega) HU.out R4.out).mono ?_
          rintro e w5 ⟨rfl, h5, hb5⟩
          have H5 := Lib.hid h5
          have B5 := Lib.hid (B4.out.trans (hb5.mono hz1))
          clear h5 hb5 H4 B4 R4
          go_wp2_with fail
          go_roundw
          case rel => exact ⟨k + 1, _, by omega, by go_num, HD', H5, B5⟩
          case measure => simp [RowKit.intOf]; omega
        · have CU := Lib.hid (show ∀ W, Calls Tryz.prog 17 #[.int .i64 (0 : Int)] W fun e w' => e = .returned (.string (lab 0)) ∧ W = w' from fun W => label_any 0 (by omega) W)
          have hU : upR m true k = lab 0 := by unfold upR; rw [if_neg hA]; rfl
          go_wp2_with (first
            | (go_at_call 17; first | (refine (CU.out _).mono ?_; rintro e w' ⟨rfl, rfl⟩) | (refine (CK.out _).mono ?_; rintro e w' ⟨rfl, rfl⟩))
            | (go_at_call 18; refine stop_here ?_))
          rw [← hU]
          refine go_on ?_
          refine (lbytes_any (lab k) (upR m true k) (by rw [lab_size]; decide) HU.out.2 wr).mono ?_
          rintro e w4 ⟨g4, k4, rfl, ho4, hb4⟩
          have R4 := Lib.hid (rdB_own ho4)
          have H4 := Lib.hid (HL.out.below hb4)
          have B4 := Lib.hid (HB.out.trans (hb4.mono HB.out.size))
          clear ho4 hb4 HL HB hU
          go_wp2_with (go_at_call 15; refine stop_here ?_)
          refine go_on ?_
          refine (defLab H4.out HD.out k (by omega) (Nat.lt_irrefl k) (by omega) HU.out R4.out).mono ?_
          rintro e w5 ⟨rfl, h5, hb5⟩
          have H5 := Lib.hid h5
          have B5 := Lib.hid (B4.out.trans (hb5.mono hz1))
          clear h5 hb5 H4 B4 R4
          go_wp2_with fail
          go_roundw
          case rel => exact ⟨k + 1, _, by omega, by go_num, HD', H5, B5⟩
          case measure => simp [RowKit.intOf]; omega
    · have hkm' : k = m := by omega
      subst hkm'
      have hd1 : decide ((k : Int) < (k : Int)) = false := by simp
      have hm0 : ((k : Int) == 0) = false := by simp; omega
      go_wp2_with (go_at_call 17; refine stop_here ?_)
      have hx : (q : Int) % (k : Int) = ((q % k : Nat) : Int) := rfl
      rw [hx]
      have hxk : q % k < k := Nat.mod_lt _ h1
      generalize q % k = x at *
      refine go_on ?_
      refine (label_any x (by omega) wr).mono ?_
      rintro e w' ⟨rfl, rfl⟩
      have HR := Lib.hid HD
      go_wp2_with (go_at_call 13; refine stop_here ?_)
      cases b
      · obtain ⟨σ', hσ, hlen⟩ := round_no k x h2 hxk HD.out
        refine go_on ?_
        have C6 := Lib.hid (loadTop_any checkB defs labDn HD.out.ldK w1.heap.size L k _ ts v wr (lab x) HL.out (ksOk_core HK.out) (by rw [lab_size]; decide) hB1 (HGL.out.below HB.out hB))
        rw [HK.out, show (⟨coreKeys, fun _ => none⟩ : LT) = core0 from rfl, hσ] at C6
        refine C6.out.mono ?_
        rintro e w6 ⟨rfl, X6, ts6, v6, hk6, h6, hks6, hb6, _⟩
        have hl6 : ts6.length = 26 + (k - x) := by
          have := congrArg List.length hk6
          rw [List.length_map, hlen] at this
          exact this
        have H6 := Lib.hid h6
        have B6 := Lib.hid (HB.out.trans (hb6.mono hz1))
        clear h6 hk6 hks6 hb6 C6 hσ hlen HL HB
        unfold strOf
        go_wp2_with (go_at_call 14; refine stop_here ?_)
        refine go_on ?_
        refine (ltypes_any H6.out (by omega) (by omega)).mono ?_
        rintro e w7 ⟨ov, ts7, rfl, ho7, _, hb7⟩
        obtain ⟨A7, k7, rfl, _⟩ := sl_len (slAt_own ho7 (fun _ => True) (by omega) (by omega) (fun _ _ => trivial))
        have B7 := Lib.hid (B6.out.trans (hb7.mono B6.out.size))
        clear ho7 hb7 H6 B6
        have hcmp : ((26 : Int) + ((k - x : Nat) : Int) == 26 + (k : Int) - (x : Int)) = true := by simp; omega
        go_wp2_with fail
        go_ret
        exact ⟨rfl, B7.out⟩
      · have hσ := round_yes k x h2 hxk HD.out
        refine go_on ?_
        have C6 := Lib.hid (loadTop_any checkB defs labDn HD.out.ldK w1.heap.size L k _ ts v wr (lab x) HL.out (ksOk_core HK.out) (by rw [lab_size]; decide) hB1 (HGL.out.below HB.out hB))
        rw [HK.out, show (⟨coreKeys, fun _ => none⟩ : LT) = core0 from rfl, hσ] at C6
        refine C6.out.mono ?_
        rintro e w6 ⟨rfl, X6, ts6, v6, hk6, h6, hks6, hb6, _⟩
        have hl6 : ts6.length = 26 := by
          have := congrArg List.length hk6
          rw [List.length_map] at this
          exact this
        have H6 := Lib.hid h6
        have B6 := Lib.hid (HB.out.trans (hb6.mono hz1))
        clear h6 hk6 hks6 hb6 C6 hσ HL HB
        have e8 : strOf (some circB) = ⟨#[106, 97, 118, 97, 47, 108, 97, 110, 103, 47, 67, 108, 97, 115, 115, 67, 105, 114, 99, 117, 108, 97, 114, 105, 116, 121, 69, 114, 114, 111, 114]⟩ := by decide
        rw [e8]
        go_wp2_with (go_at_call 14; refine stop_here ?_)
        refine go_on ?_
        refine (ltypes_any H6.out (by omega) (by omega)).mono ?_
        rintro e w7 ⟨ov, ts7, rfl, ho7, _, hb7⟩
        rw [hl6] at ho7
        obtain ⟨A7, k7, rfl, _⟩ := sl_len (slAt_own ho7 (fun _ => True) (by omega) (by omega) (fun _ _ => trivial))
        have B7 := Lib.hid (B6.out.trans (hb7.mono B6.out.size))
        clear ho7 hb7 H6 B6
        go_wp2_with fail
        go_ret
        exact ⟨rfl, B7.out⟩
theorem round_any (n : Int) (b : Bool) (f : Int) (w : World) (hgl : GlB w) (hn : (Lit.int .i64 n).wf = true) (hf : (Lit.int .i64 f).wf = true) : Calls Tryz.prog 4 #[.int .i64 n, .bool b, .int .i64 f] w fun e w' => e = .returned (.bool true) ∧ Below w.heap.size w w' := by
  by_cases h1 : n < 1
  · have HA := Lib.hid (alive_all w hgl)
    have c1 : decide (n < 1) = true := by simpa using h1
    clear hgl
    go_enter Tryz.func4, Tryz.ntmps4
    go_wp2_with (go_at_call 10; refine HA.out.mono ?_; rintro e w1 ⟨rfl, hb1⟩; have B1 := Lib.hid hb1; clear hb1)
    go_ret
    exact ⟨rfl, B1.out⟩
  · have c1 : decide (n < 1) = false := by simpa using h1
    by_cases h2 : n > 20
    · have HA := Lib.hid (alive_all w hgl)
      have c2 : decide (n > 20) = true := by simpa using h2
      clear hgl
      go_enter Tryz.func4, Tryz.ntmps4
      go_wp2_with (go_at_call 10; refine HA.out.mono ?_; rintro e w1 ⟨rfl, hb1⟩; have B1 := Lib.hid hb1; clear hb1)
      go_ret
      exact ⟨rfl, B1.out⟩
    · have c2 : decide (n > 20) = false := by simpa using h2
      by_cases h3 : f < 0
      · have HA := Lib.hid (alive_all w hgl)
        have c3 : decide (f < 0) = true := by simpa using h3
        clear hgl
        go_enter Tryz.func4, Tryz.ntmps4
        go_wp2_with (go_at_call 10; refine HA.out.mono ?_; rintro e w1 ⟨rfl, hb1⟩; have B1 := Lib.hid hb1; clear hb1)
        go_ret
        exact ⟨rfl, B1.out⟩
      · obtain ⟨m, rfl⟩ := Int.eq_ofNat_of_zero_le (show 0 ≤ n by omega)
        obtain ⟨q, rfl⟩ := Int.eq_ofNat_of_zero_le (show 0 ≤ f by omega)
        have hq : q ≤ 9223372036854775807 := by
          simp [Lit.wf] at hf
          omega
        exact round_in m q b w hgl (by omega) (by omega) hq
end Go.Proofs.YtdbniocnjhfhdaaGreatDoor
