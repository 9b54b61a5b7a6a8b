/-
  LoadMany, walked.
-/
import Derived.Test.YtdbniocnjhfhdaaGreatDoorB25
set_option linter.unusedSimpArgs false
set_option linter.unusedVariables false
set_option maxRecDepth 100000
set_option maxHeartbeats 1000000
namespace Go.Proofs.YtdbniocnjhfhdaaGreatDoor
open Go Go.RowKit Lib
def mL (i : Nat) : List UInt8 := [67, UInt8.ofNat (48 + i / 10), UInt8.ofNat (48 + i % 10)]
theorem mL_class : ∀ i, i < 70 → classB (mL i) = true ∧ ownB (mL i) = false := by decide +kernel
theorem mL_inj {i j : Nat} (hi : i < 70) (hj : j < 70) (h : mL i = mL j) : i = j := by
  have h1 : UInt8.ofNat (48 + i / 10) = UInt8.ofNat (48 + j / 10) ∧ UInt8.ofNat (48 + i % 10) = UInt8.ofNat (48 + j % 10) := by
    simp only [mL] at h
    injection h with _ h
    injection h with h1 h
    injection h with h2 h
    exact ⟨h1, h2⟩
  have h2 := congrArg UInt8.toNat h1.1
  have h3 := congrArg UInt8.toNat h1.2
  simp only [UInt8.toNat_ofNat'] at h2 h3
  omega
def MDefs (k : Nat) (defs : List UInt8 → Option (List UInt8)) : Prop := ∀ j, j < 70 → defs (mL j) = if j < k ∧ j < 64 then some [] else none
theorem MDefs.put {k : Nat} {defs : List UInt8 → Option (List UInt8)} (h : MDefs k defs) (hk : k < 64) : MDefs (k + 1) (putL defs (mL k) []) := fun j hj => by
  unfold putL
  by_cases e : mL j = mL k
  · obtain rfl := mL_inj hj (by omega) e
    rw [if_pos rfl, if_pos (by omega)]
  · rw [if_neg e, h j hj]
    have : j ≠ k := fun e' => e (by rw [e'])
    by_cases h2 : j < k ∧ j < 64
    · rw [if_pos h2, if_pos (by omega)]
    · rw [if_neg h2, if_neg (by omega)]
theorem MDefs.more {k : Nat} {defs : List UInt8 → Option (List UInt8)} (h : MDefs k defs) (hk : 64 ≤ k) : MDefs (k + 1) defs := fun j hj => by
  rw [h j hj]
  by_cases h2 : j < k ∧ j < 64
  · rw [if_pos h2, if_pos (by omega)]
  · rw [if_neg h2, if_neg (by omega)]
theorem rdB_nil (w : World) : RdB w none 0 0 [] := ⟨rfl, Nat.le_refl _, by omega, fun h => absurd h (Nat.lt_irrefl _)⟩
theorem many_name (k : Nat) (s : ByteArray) (h : s = ⟨#[UInt8.ofNat (48 + k / 10), UInt8.ofNat (48 + k % 10)]⟩) : ((⟨#[67]⟩ : ByteArray) ++ s).data.toList = mL k := by
  subst h
  kernel_rfl
theorem many_any (n : Int) (w : World) (hgl : GlB w) (hw : (Lit.int .i64 n).wf = true) : Calls Tryz.prog 5 #[.int .i64 n] w fun e w' => e = .returned (.bool true) ∧ Below w.heap.size w w' := by
  have hB := glB_pos hgl
  have HA := Lib.hid (alive_all w hgl)
  clear hgl
  by_cases hn : 0 ≤ n ∧ n ≤ 70
  · obtain ⟨m, rfl⟩ := Int.eq_ofNat_of_zero_le hn.1
    obtain ⟨_, hn⟩ := hn
    have c1 : decide ((m : Int) < 0) = false := by simp
    have c2 : decide ((m : Int) > 70) = false := by simp; omega
    go_enter Tryz.func5, Tryz.ntmps5
    go_wp2_with (first
      | (go_at_call 10; refine HA.out.mono ?_; rintro e w1 ⟨rfl, hb1⟩; have B1 := Lib.hid hb1; clear hb1)
      | (go_at_call 12; refine stop_here ?_))
    refine go_on ?_
    refine (new_all _).mono ?_
    rintro e w2 ⟨L, v, ts, rfl, hk, h2, hb2⟩
    have hz1 := B1.out.size
    have H2 := Lib.hid h2
    have B2 := Lib.hid (B1.out.trans (hb2.mono hz1))
    clear h2 hb2 hk
    go_wp2_with fail
    go_loopw [5] (fun i wr => ∃ (k nd : Nat) (defs : List UInt8 → Option (List UInt8)), k ≤ m ∧ i = .int .i64 k ∧ nd = min k 64 ∧ Hid (MDefs k defs) ∧ Hid (LdG w1.heap.size L nd defs (fun _ => none) (ts.map TyV.name) [] ts v wr) ∧ Hid (Below w.heap.size w wr)) (fun i _ => m - (RowKit.intOf i).toNat)
    case atStart => exact ⟨0, 0, fun _ => none, by omega, rfl, rfl, Lib.hid (fun j hj => by rw [if_neg (by omega)]), H2, B2⟩
    case round =>
      obtain ⟨k, nd, defs, hkm, rfl, hnd, HD, HL, HB⟩ := hrel
      by_cases hlt : k < m
      · have hd1 : decide ((k : Int) < (m : Int)) = true := by simp; omega
        obtain ⟨s2, hs2⟩ : ∃ s2 : ByteArray, s2 = ⟨#[UInt8.ofNat (48 + k / 10), UInt8.ofNat (48 + k % 10)]⟩ := ⟨_, rfl⟩
        have HS2 := Lib.hid (many_name k s2 hs2)
        have hz2 : s2.size = 2 := by rw [hs2]; rfl
        have hcv : (convert 27 9 (.slice (some ⟨wr.heap.size, 0, none⟩) 2 2)).run Tryz.prog (wr.alloc (.cells #[.int .u8 (48 + (k : Int) / 10), .int .u8 (48 + (k : Int) % 10)] 5)) = .ok (.string s2) (wr.alloc (.cells #[.int .u8 (48 + (k : Int) / 10), .int .u8 (48 + (k : Int) % 10)] 5)) := by
          have e1 : (.int .u8 (48 + (k : Int) / 10) : Value) = bV (UInt8.ofNat (48 + k / 10)) := by rw [← bV_ofNat _ (by omega)]; congr 1
          have e2 : (.int .u8 (48 + (k : Int) % 10) : Value) = bV (UInt8.ofNat (48 + k % 10)) := by rw [← bV_ofNat _ (by omega)]; congr 1
          rw [e1, e2, hs2]
          exact (rdB_new wr [UInt8.ofNat (48 + k / 10), UInt8.ofNat (48 + k % 10)] 5 2 rfl (by simp)).str
        clear hs2
        have HL3 := Lib.hid (HL.out.below ((Below.refl wr.heap.size wr).alloc (Nat.le_refl _) (.cells #[.int .u8 (48 + (k : Int) / 10), .int .u8 (48 + (k : Int) % 10)] 5)))
        have HB3 := Lib.hid (HB.out.alloc HB.out.size (.cells #[.int .u8 (48 + (k : Int) / 10), .int .u8 (48 + (k : Int) % 10)] 5))
        clear HL HB
        go_wp2_with (go_at_call 15; refine stop_here ?_)
        generalize wr.alloc (.cells #[.int .u8 (48 + (k : Int) / 10), .int .u8 (48 + (k : Int) % 10)] 5) = w3 at *
        generalize ({ data := #[67] } ++ s2 : ByteArray) = nm at *
        clear hcv
        have hmc := mL_class k (by omega)
        have hnl := HS2.out
        have hsz : nm.size ≤ 9223372036854775807 := by
          have e1 : nm.data.toList.length = 3 := by rw [hnl]; rfl
          have e2 : nm.size = nm.data.toList.length := (Array.length_toList).symm
          omega
        by_cases h64 : k < 64
        · have hf : defs nm.data.toList = none := by rw [hnl, HD.out k (by omega), if_neg (by omega)]
          have hg1 : decide ((k : Int) ≥ 64) = false := by simp; omega
          refine go_on ?_
          refine (defineG HL3.out nm none 0 0 [] hsz (rdB_nil _) (by rw [hnl]; exact hmc.1) (by rw [hnl]; exact hmc.2) (by decide) hf (by omega)).mono ?_
          rintro e w4 ⟨rfl, h4, hb4⟩
          rw [hnl] at h4
          have HL4 := Lib.hid h4
          have HB4 := Lib.hid (HB3.out.trans ((HL3.out.low hb4).mono hz1))
          have HD4 := Lib.hid (HD.out.put h64)
          clear h4 hb4 HL3 HB3 hf
          have hs4 : (putL defs (mL k) [] nm.data.toList).isSome = true := by rw [hnl]; unfold putL; rw [if_pos rfl]; rfl
          have C5 := Lib.hid (defineG_more HL4.out nm none 0 0 hsz (by decide) (by rw [hnl]; exact hmc.1) (by rw [hnl]; exact hmc.2) (.inr (.inl hs4)) (by omega))
          rw [if_neg (by decide), if_pos hs4] at C5
          clear hs4 hsz hnl hmc
          go_wp2_with (go_at_call 15; refine stop_here ?_)
          refine go_on ?_
          refine C5.out.mono ?_
          rintro e w5 ⟨rfl, h5, hb5⟩
          have HL5 := Lib.hid h5
          have HB5 := Lib.hid (HB4.out.trans (hb5.mono (by have := HB4.out.size; omega)))
          clear h5 hb5 HL4 HB4 C5
          go_wp2_with (go_at_call 19; refine (num_any _ _).mono ?_; rintro e w' ⟨rfl, rfl⟩)
          go_roundw
          case rel => exact ⟨k + 1, nd + 1, _, by omega, by go_num, by omega, HD4, HL5, HB5⟩
          case measure => simp [RowKit.intOf]; omega
        · have hf : defs nm.data.toList = none := by rw [hnl, HD.out k (by omega), if_neg (by omega)]
          have hg1 : decide ((k : Int) ≥ 64) = true := by simp; omega
          have hq : (defs nm.data.toList).isSome = false := by rw [hf]; rfl
          have C4 := fun (W : World) (h : Hid (LdG w1.heap.size L nd defs (fun _ => none) (ts.map TyV.name) [] ts v W)) => defineG_more h.out nm none 0 0 hsz (by decide) (by rw [hnl]; exact hmc.1) (by rw [hnl]; exact hmc.2) (.inr (.inr (by omega))) (by omega)
          rw [if_neg (by decide), if_neg (by rw [hq]; decide)] at C4
          have C4 := Lib.hid C4
          clear hf hq hsz hnl hmc
          refine go_on ?_
          refine (C4.out _ HL3).mono ?_
          rintro e w4 ⟨rfl, h4, hb4⟩
          have HL4 := Lib.hid h4
          have HB4 := Lib.hid (HB3.out.trans (hb4.mono (by have := HB3.out.size; omega)))
          have HD4 := Lib.hid (HD.out.more (by omega))
          clear h4 hb4 HL3 HB3
          go_wp2_with (go_at_call 15; refine stop_here ?_)
          refine go_on ?_
          refine (C4.out _ HL4).mono ?_
          rintro e w5 ⟨rfl, h5, hb5⟩
          have HL5 := Lib.hid h5
          have HB5 := Lib.hid (HB4.out.trans (hb5.mono (by have := HB4.out.size; omega)))
          clear h5 hb5 HL4 HB4 C4
          go_wp2_with (go_at_call 19; refine (num_any _ _).mono ?_; rintro e w' ⟨rfl, rfl⟩)
          go_roundw
          case rel => exact ⟨k + 1, nd, _, by omega, by go_num, by omega, HD4, HL5, HB5⟩
          case measure => simp [RowKit.intOf]; omega
      · have hd1 : decide ((k : Int) < (m : Int)) = false := by simp; omega
        go_wp2_with (go_at_call 15; refine stop_here ?_)
        refine go_on ?_
        refine (defineG_name HL.out ⟨#[106, 97, 118, 97, 47, 120]⟩ none 0 0 (by decide) (.inr (by decide +kernel))).mono ?_
        rintro e w4 ⟨rfl, h4, hb4⟩
        have HL4 := Lib.hid h4
        have HB4 := Lib.hid (HB.out.trans (hb4.mono HB.out.size))
        clear h4 hb4 HL HB
        go_wp2_with (go_at_call 15; refine stop_here ?_)
        refine go_on ?_
        refine (defineG_name HL4.out ⟨#[97, 47, 47, 98]⟩ none 0 0 (by decide) (.inl (by decide +kernel))).mono ?_
        rintro e w5 ⟨rfl, h5, hb5⟩
        have HB5 := Lib.hid (HB4.out.trans (hb5.mono HB4.out.size))
        clear h5 hb5 HL4 HB4
        go_wp2_with (go_at_call 19; refine (num_any _ _).mono ?_; rintro e w' ⟨rfl, rfl⟩)
        go_ret
        exact ⟨rfl, HB5.out⟩
  · go_enter Tryz.func5, Tryz.ntmps5
    by_cases h0 : n < 0
    · have c1 : decide (n < 0) = true := by simpa using h0
      go_wp2_with (go_at_call 10; refine HA.out.mono ?_; rintro e w1 ⟨rfl, hb1⟩; have B1 := Lib.hid hb1; clear hb1)
      go_ret
      exact ⟨rfl, B1.out⟩
    · have c1 : decide (n < 0) = false := by simp; omega
      have c2 : decide (n > 70) = true := by simp; omega
      go_wp2_with (go_at_call 10; refine HA.out.mono ?_; rintro e w1 ⟨rfl, hb1⟩; have B1 := Lib.hid hb1; clear hb1)
      go_ret
      exact ⟨rfl, B1.out⟩
end Go.Proofs.YtdbniocnjhfhdaaGreatDoor
