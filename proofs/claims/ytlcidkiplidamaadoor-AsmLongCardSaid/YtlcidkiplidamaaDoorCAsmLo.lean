/-
  AsmLong: more than MaxLines lines, or MaxSource bytes.
-/
import Derived.Test.YtlcidkiplidamaaDoorCAsmAl
import Derived.Test.YtlcidkiplidamaaDoorB10
import Derived.Test.YtlcidkiplidamaaDoorB00
import Derived.Laws.OwnMore
set_option linter.unusedSimpArgs false
set_option linter.unusedVariables false
set_option maxRecDepth 100000
set_option maxHeartbeats 4000000
namespace Go.Proofs.YtlcidkiplidamaaDoor
open Go Go.RowKit Lib Go.Maps
def fillL (n k j : Nat) : List UInt8 := (List.range k).map fun i => if i < j then (if i < n then 10 else 35) else 0
theorem fillL_len (n k j : Nat) : (fillL n k j).length = k := by simp [fillL]
theorem fill_zero (n k : Nat) : (fillL n k 0).map bV = (madeCells (Value.int .u8 0).cells (k * 1)).toList := by
  apply List.ext_getElem
  · simp [fillL, madeCells, Value.cells]
  · intro i h1 h2
    simp [fillL, madeCells, Value.cells, bV, Nat.mod_one]
theorem fill_step (n k j : Nat) (hj : j < k) : (fillL n k j).set j (if j < n then 10 else 35) = fillL n k (j + 1) := by
  apply List.ext_getElem
  · simp [fillL]
  · intro i h1 h2
    simp only [fillL, List.getElem_set, List.getElem_map, List.getElem_range]
    by_cases e : j = i
    · subst e
      simp only [if_true]
      rw [if_pos (Nat.lt_succ_self _)]
    · rw [if_neg e]
      by_cases h : i < j
      · have h' : i < j + 1 := by omega
        simp only [h, h', if_true]
      · have h' : ¬ i < j + 1 := by omega
        simp only [h, h', if_false]
theorem fill_all (n k : Nat) (h : n ≤ k) : fillL n k k = List.replicate n 10 ++ List.replicate (k - n) 35 := by
  apply List.ext_getElem
  · simp [fillL]; omega
  · intro i h1 h2
    simp only [fillL, List.length_map, List.length_range] at h1
    simp only [fillL, List.getElem_map, List.getElem_range, if_pos h1]
    by_cases hi : i < n
    · rw [if_pos hi, List.getElem_append_left (by simpa using hi)]
      simp
    · rw [if_neg hi, List.getElem_append_right (by simp; omega)]
      simp
theorem rd_of_own {w : World} {B g n cap : Nat} {l : List UInt8} (h : w.ownsRow B 5 1 (.slice (some ⟨g, 0, none⟩) n cap) n (l.map bV)) (hl : l.length = n) (hc : n ≤ cap) (hm : n ≤ 9223372036854775807) : RdB w (some ⟨g, 0, none⟩) n cap l :=
  ⟨hl.symm, hc, hm, fun _ => ⟨g, 0, rfl, (h.lt g rfl).2, fun i hi => by
    rw [Nat.zero_add, h.cellAt i (by omega), List.getElem?_map, List.getElem?_eq_getElem (by omega)]
    simp [bV, byt, List.getD, List.getElem?_eq_getElem (show i < l.length by omega)]⟩⟩
theorem lawLong_any (a b : Int) (mx : Int) (w : World) (ha : (Lit.int .i64 a).wf = true) (hb : (Lit.int .i64 b).wf = true) (hmx : w.cell? ⟨Tryd.maxB, 0, none⟩ = some (.int .i64 mx)) :
    Calls Tryd.prog 3 #[.int .i64 a, .int .i64 b] w fun e w' => e = .returned (.bool true) ∧ Below w.heap.size w w' := by
  have HAL := Lib.hid (alive_asm mx w hmx)
  have hxw : Tryd.maxB < w.heap.size := World.block_lt_of_cell? _ _ hmx
  have HMX := Lib.hid hmx
  clear hmx ha hb
  rcases Int.lt_or_le a 0 with h1 | h1
  · go_enter Tryd.func3, Tryd.ntmps3
    go_wp2_with (go_at_call 6; refine HAL.out.mono ?_; rintro e w1 ⟨rfl, hb1⟩)
    go_ret
    exact ⟨rfl, hb1⟩
  rcases Int.lt_or_le 8010 a with h2 | h2
  · go_enter Tryd.func3, Tryd.ntmps3
    go_wp2_with (go_at_call 6; refine HAL.out.mono ?_; rintro e w1 ⟨rfl, hb1⟩)
    go_ret
    exact ⟨rfl, hb1⟩
  rcases Int.lt_or_le b 0 with h3 | h3
  · go_enter Tryd.func3, Tryd.ntmps3
    go_wp2_with (go_at_call 6; refine HAL.out.mono ?_; rintro e w1 ⟨rfl, hb1⟩)
    go_ret
    exact ⟨rfl, hb1⟩
  rcases Int.lt_or_le 262200 b with h4 | h4
  · go_enter Tryd.func3, Tryd.ntmps3
    go_wp2_with (go_at_call 6; refine HAL.out.mono ?_; rintro e w1 ⟨rfl, hb1⟩)
    go_ret
    exact ⟨rfl, hb1⟩
  have hw10 : IntKind.i64.wrap (a + 10) = a + 10 := IntWalk.i64_in _ (by omega)
  have hw11 : RowKit.wrap64 (a + 10) = a + 10 := by rw [show RowKit.wrap64 (a + 10) = IntKind.i64.wrap (a + 10) by unfold RowKit.wrap64; rw [IntKind.wrap_i64]]; exact hw10
  rcases Int.lt_or_le b (a + 10) with h5 | h5
  · go_enter Tryd.func3, Tryd.ntmps3
    go_wp2_with (go_at_call 6; refine HAL.out.mono ?_; rintro e w1 ⟨rfl, hb1⟩)
    go_ret
    exact ⟨rfl, hb1⟩
  obtain ⟨n, rfl⟩ := Int.eq_ofNat_of_zero_le h1
  obtain ⟨k, rfl⟩ := Int.eq_ofNat_of_zero_le h3
  have hn1 : ¬ ((n : Int) < 0) := by omega
  have hk1 : ¬ ((k : Int) < 0) := by omega
  have hn2 : ¬ ((8010 : Int) < (n : Int)) := by omega
  have hk2 : ¬ ((262200 : Int) < (k : Int)) := by omega
  have hnk : ¬ ((k : Int) < (n : Int) + 10) := by omega
  obtain ⟨ui, hui, huz, hus, hub⟩ := info_parts info_abyte
  have HMK := Lib.hid (fun (W : World) (B : Nat) (hB : B ≤ W.heap.size) => run_makeSlice_full (P := Tryd.prog) (w := W) B 23 5 ui (.int .u8 0) 1 Tryd.underlying23 hui huz hus .i64 .i64 k (by omega) (by rw [hub]; omega) (by simp only [maxLen]; omega) hB)
  clear hui huz hus hub
  go_enter Tryd.func3, Tryd.ntmps3
  go_wp2_with (go_at_call 6; refine stop_here ?_)
  refine go_on ?_
  refine HAL.out.mono ?_
  rintro e w1 ⟨rfl, hb1⟩
  have HB1 := Lib.hid hb1
  clear hb1
  obtain ⟨w2, hmk, ho2, hg2⟩ := HMK.out w1 w1.heap.size (Nat.le_refl _)
  rw [← fill_zero n k] at ho2
  have HO2 := Lib.hid ho2
  have HB2 := Lib.hid ((Below.refl w1.heap.size w1).grown hg2 (Nat.le_refl _) (fun q hq => by cases hq))
  clear ho2 hg2 HMK
  go_wp2_with fail
  go_loopw [7] (fun i wr => ∃ j : Nat, i = .int .i64 j ∧ j ≤ k ∧ Hid (wr.ownsRow w1.heap.size 5 1 (.slice (some ⟨w1.heap.size, 0, none⟩) k k) k ((fillL n k j).map bV)) ∧ Hid (Below w1.heap.size w1 wr)) (fun i _ => k - (RowKit.intOf i).toNat)
  case atStart => exact ⟨0, rfl, by omega, HO2, HB2⟩
  case round =>
    obtain ⟨wr1, hwr⟩ : ∃ W, W = wr := ⟨_, rfl⟩
    subst hwr
    obtain ⟨j, rfl, hj, HO, HB⟩ := hrel
    by_cases hlt : j < k
    · obtain ⟨u, hu⟩ : ∃ u, wr1.cell? ⟨w1.heap.size, j, none⟩ = some u := ⟨_, (HO.out.cellAt j (by omega)).trans (List.getElem?_eq_getElem (by rw [List.length_map, fillL_len]; exact hlt))⟩
      have hz := HO.out.frozenAt j
      have hj0 : (0 : Int) ≤ (j : Int) := by omega
      have hj1 : (j : Int) < (k : Int) := by omega
      have S1 := HO.out.stored j (.int .u8 35)
      have B1 := Lib.hid (HB.out.grown S1.2 (by have := HB.out.size; omega) (fun q hq => by cases hq; exact Nat.le_refl _))
      have S2 := S1.1.stored j (.int .u8 10)
      have B2' := Lib.hid (B1.out.grown S2.2 (by have := B1.out.size; omega) (fun q hq => by cases hq; exact Nat.le_refl _))
      by_cases hjn : j < n
      · have hjn' : (j : Int) < (n : Int) := by omega
        have HO3 := Lib.hid (own_eq S2.1 rfl (show (((fillL n k j).map bV).set j (.int .u8 35)).set j (.int .u8 10) = (fillL n k (j + 1)).map bV by rw [List.set_set, ← fill_step n k j hlt, if_pos hjn, List.map_set]; rfl))
        clear S1 S2
        go_wp2_with fail
        go_roundw
        case rel => exact ⟨j + 1, by go_num, by omega, HO3, B2'⟩
        case measure => simp [RowKit.intOf]; omega
      · have hjn' : ¬ (j : Int) < (n : Int) := by omega
        have HO3 := Lib.hid (own_eq S1.1 rfl (show ((fillL n k j).map bV).set j (.int .u8 35) = (fillL n k (j + 1)).map bV by rw [← fill_step n k j hlt, if_neg hjn, List.map_set]; rfl))
        clear S1 S2
        go_wp2_with fail
        go_roundw
        case rel => exact ⟨j + 1, by go_num, by omega, HO3, B1⟩
        case measure => simp [RowKit.intOf]; omega
    · obtain rfl : j = k := by omega
      have hcv := (rd_of_own HO.out (fillL_len n j j) (Nat.le_refl _) (by omega)).str
      rw [fill_all n j (by omega)] at hcv
      obtain ⟨text, htx⟩ : ∃ text : ByteArray, text = ⟨(List.replicate n (10 : UInt8) ++ List.replicate (j - n) (35 : UInt8)).toArray⟩ := ⟨_, rfl⟩
      rw [← htx] at hcv
      have hsz : text.size = j := by rw [htx]; show (List.toArray _).size = j; simp; omega
      have hlp := long_plain checkF n (j - n - 1) text (by rw [htx]; simp; congr 1; omega)
      have hmu := asm_mute checkF text hlp.1
      rw [hlp.2, hsz] at hmu
      have HLP := Lib.hid hlp.1
      have HMU := Lib.hid hmu
      have HB3 := Lib.hid (HB1.out.trans (HB.out.mono HB1.out.size))
      have hzr := HB3.out.size
      clear hlp hmu htx
      go_wp2_with (go_at_call 7; refine stop_here ?_)
      refine go_on ?_
      refine (asm_err text mx wr1 0 _ ((HB3.out.cell (p := ⟨Tryd.maxB, 0, none⟩) hxw).trans HMX.out) (by omega) (fun s hs => .inl (HLP.out s hs)) HMU.out).mono ?_
      rintro e w5 ⟨hb5, rfl⟩
      have HB5 := Lib.hid (HB3.out.trans (hb5.mono hzr))
      have hz5 := HB5.out.size
      have hzz : Value.agg zeroA.toArray = .agg #[.int .i64 0, .int .i64 0, .slice none 0 0, .int .i64 0, .int .i64 0, .int .i64 0, .slice none 0 0, .slice none 0 0, .slice none 0 0] := rfl
      rw [hzz]
      have hw1 : IntKind.i64.wrap ((n : Int) + 1) = (n : Int) + 1 := IntWalk.i64_in _ (by omega)
      clear hb5 HLP HMU hcv hzz
      by_cases h262 : 262144 < j
      · have q1 : (262144 : Int) < (j : Int) := by omega
        rw [if_pos (.inl h262)]
        clear h262
        go_wp2_with (go_at_call 8; refine (num_any _ _).mono ?_; rintro e w9 ⟨rfl, rfl⟩)
        go_ret
        exact ⟨rfl, HB5.out.alloc (by omega) _⟩
      · have q1 : ¬ (262144 : Int) < (j : Int) := by omega
        by_cases h8 : 8000 < n + 1
        · have q2 : (8000 : Int) < (n : Int) + 1 := by omega
          rw [if_pos (.inr h8)]
          clear h262 h8
          go_wp2_with (go_at_call 8; refine (num_any _ _).mono ?_; rintro e w9 ⟨rfl, rfl⟩)
          go_ret
          exact ⟨rfl, HB5.out.alloc (by omega) _⟩
        · have q2 : ¬ (8000 : Int) < (n : Int) + 1 := by omega
          rw [if_neg (by omega)]
          clear h262 h8
          go_wp2_with (go_at_call 8; refine (num_any _ _).mono ?_; rintro e w9 ⟨rfl, rfl⟩)
          go_ret
          exact ⟨rfl, HB5.out.alloc (by omega) _⟩
end Go.Proofs.YtlcidkiplidamaaDoor
