/-
  AsmOnce: a constant that is needed often stands once.
-/
import Derived.Test.YtlcidkiplidamaaDoorCAsmAl
import Derived.Test.YtlcidkiplidamaaDoorB30
set_option linter.unusedSimpArgs false
set_option linter.unusedVariables false
set_option maxRecDepth 100000
set_option maxHeartbeats 8000000
namespace Go.Proofs.YtlcidkiplidamaaDoor
open Go Go.RowKit Lib Go.Maps
def onHd : List UInt8 := joinL [lClass, lMeth]
def onBl : List UInt8 := joinL [lLdc, lInv, lNew, lPop]
theorem joinL_app2 (a b : List (List UInt8)) : joinL (a ++ b) = joinL a ++ joinL b := by simp [joinL]
theorem on_text (n : Nat) : joinL (onceLines n) = onHd ++ (List.replicate n onBl).flatten ++ joinL [lRet, lEnd] := by
  unfold onceLines
  rw [joinL_app2, joinL_app2]
  congr 2
  induction n with
  | zero => rfl
  | succ n ih => rw [List.replicate_succ, List.flatten_cons, joinL_app2, ih, List.replicate_succ, List.flatten_cons]; rfl
theorem bytes_append (a b : ByteArray) : (a ++ b).data.toList = a.data.toList ++ b.data.toList := by simp [ByteArray.data_append]
theorem lawOnce_any (a : Int) (mx : Int) (w : World) (ha : (Lit.int .i64 a).wf = true) (hmx : w.cell? ⟨Tryd.maxB, 0, none⟩ = some (.int .i64 mx)) :
    Calls Tryd.prog 4 #[.int .i64 a] w fun e w' => e = .returned (.bool true) ∧ Below w.heap.size w w' := by
  have HAL := Lib.hid (alive_asm mx w hmx)
  have hxw : Tryd.maxB < w.heap.size := World.block_lt_of_cell? _ _ hmx
  have HMX := Lib.hid hmx
  clear hmx ha
  rcases Int.lt_or_le a 1 with h1 | h1
  · go_enter Tryd.func4, Tryd.ntmps4
    go_wp2_with (go_at_call 6; refine HAL.out.mono ?_; rintro e w1 ⟨rfl, hb1⟩)
    go_ret
    exact ⟨rfl, hb1⟩
  rcases Int.lt_or_le 200 a with h2 | h2
  · go_enter Tryd.func4, Tryd.ntmps4
    go_wp2_with (go_at_call 6; refine HAL.out.mono ?_; rintro e w1 ⟨rfl, hb1⟩)
    go_ret
    exact ⟨rfl, hb1⟩
  obtain ⟨n, rfl⟩ := Int.eq_ofNat_of_zero_le (show 0 ≤ a by omega)
  have hn1 : ¬ ((n : Int) < 1) := by omega
  have hn2 : ¬ ((200 : Int) < (n : Int)) := by omega
  go_enter Tryd.func4, Tryd.ntmps4
  go_wp2_with (go_at_call 6; refine stop_here ?_)
  refine go_on ?_
  refine HAL.out.mono ?_
  rintro e w1 ⟨rfl, hb1⟩
  have HB1 := Lib.hid hb1
  have hz1 := hb1.size
  clear hb1 HAL
  go_wp2_with fail
  go_loopw [4, 5] (fun s i wr => ∃ (j : Nat) (t : ByteArray), i = .int .i64 j ∧ s = .string t ∧ j ≤ n ∧ Hid (t.data.toList = onHd ++ (List.replicate j onBl).flatten) ∧ Hid (wr = w1)) (fun _ i _ => n - (RowKit.intOf i).toNat)
  case atStart => exact ⟨0, _, rfl, rfl, by omega, Lib.hid (by decide), Lib.hid rfl⟩
  case round =>
    obtain ⟨j, t, rfl, rfl, hj, HT, HW⟩ := hrel
    obtain rfl := HW.out
    have htz : t.size = 34 + 38 * j := by
      have e1 : t.data.toList.length = t.size := Array.length_toList
      rw [← e1, HT.out]
      simp only [List.length_append, List.length_flatten, List.map_replicate, List.sum_replicate_nat]
      have e2 : onHd.length = 34 := by decide
      have e3 : onBl.length = 38 := by decide
      rw [e2, e3]
      omega
    have hs38 : ¬ (9223372036854775807 < t.size + 38) := by omega
    have hs11 : ¬ (9223372036854775807 < t.size + 11) := by omega
    clear htz
    by_cases hlt : j < n
    · have hlt' : (j : Int) < (n : Int) := by omega
      go_wp2_with fail
      go_roundw
      case rel => exact ⟨j + 1, _, by go_num, rfl, by omega, Lib.hid (by rw [bytes_append, HT.out, List.replicate_succ', List.flatten_append, List.append_assoc]; congr 1), Lib.hid (by first | rfl | trivial)⟩
      case measure => simp [RowKit.intOf]; omega
    · obtain rfl : j = n := by omega
      obtain ⟨text, htx⟩ : ∃ x : ByteArray, x = t ++ ⟨#[114, 101, 116, 117, 114, 110, 10, 101, 110, 100, 10]⟩ := ⟨_, rfl⟩
      have hjo : text.data.toList = joinL (onceLines j) := by
        rw [htx, bytes_append, HT.out, on_text]
        congr 1
      have hac := once_plain j (by omega) (by omega) text hjo
      have hsz : text.size ≤ 65536 := by
        have e1 : text.data.toList.length = text.size := Array.length_toList
        rw [← e1, hjo, on_text]
        simp only [List.length_append, List.length_flatten, List.map_replicate, List.sum_replicate_nat]
        have e2 : onHd.length = 34 := by decide
        have e3 : onBl.length = 38 := by decide
        have e4 : (joinL [lRet, lEnd]).length = 11 := by decide
        rw [e2, e3, e4]
        omega
      have HTX := Lib.hid htx
      have HAS := Lib.hid ((asm_all text mx wr ((HB1.out.cell (p := ⟨Tryd.maxB, 0, none⟩) hxw).trans HMX.out) (by omega) (fun s hs => .inr (Nat.le_trans (line_le hs) hsz))).mono fun e w' hq => post_ok hq hac)
      clear hac hjo htx hsz
      go_wp2_with (go_at_call 7; refine stop_here ?_)
      refine go_on ?_
      rw [← HTX.out]
      refine HAS.out.mono ?_
      rintro e w2 ⟨hb2, ρ, B, kb, σ, V, hB, hσ, hsm, hk, rfl⟩
      obtain ⟨g, k4, A, cc, hv, c6, hrd, hg⟩ := code_at (m := ⟨8, 5, 6, true, 8, 4, (List.replicate j [18, 8, 184, 0, 12, 187, 0, 2, 87]).flatten ++ [177], []⟩) hk (by rw [hσ]; rfl)
      obtain ⟨Ap, kp, hpv⟩ := own_slice hk.pool.1
      obtain ⟨Ai, ki, hiv⟩ := own_slice hk.ifs.1
      obtain ⟨Af, kf, hfv⟩ := own_slice hk.flds.1
      rw [show σ.c.pool.length = 12 by rw [hσ]; rfl] at hpv
      have hlen : ((List.replicate j [18, 8, 184, 0, 12, 187, 0, 2, 87]).flatten ++ [177] : List UInt8).length = 9 * j + 1 := by
        simp only [List.length_append, List.length_flatten, List.map_replicate, List.sum_replicate_nat, List.length_cons, List.length_nil]
        omega
      replace c6 : w2.cell? ⟨g, 6, none⟩ = some (.slice A (9 * j + 1) cc) := by rw [← hlen]; exact c6
      rw [hpv, hiv, hfv, hv]
      have HB2 := Lib.hid (HB1.out.trans (hb2.mono hz1))
      have hz2 := HB2.out.size
      obtain ⟨ni, hni⟩ : ∃ x, σ.c.ifs.length = x := ⟨_, rfl⟩
      obtain ⟨nf, hnf⟩ : ∃ x, σ.c.flds.length = x := ⟨_, rfl⟩
      rw [hni, hnf]
      obtain ⟨ccc, hcl⟩ : ∃ x : ClassV, clsS poolO ((List.replicate j [18, 8, 184, 0, 12, 187, 0, 2, 87]).flatten ++ [177]) = x := ⟨_, rfl⟩
      rw [hcl]
      have XZ := Lib.hid (bx_new w2 zeroA 29)
      clear hk hrd hv hpv hiv hfv hb2 HAS hσ hni hnf hcl hsm HTX HT
      go_wp2_with (refine wpList_store_row rfl _ _ _ rfl w2.heap.size (ccc.cells (.slice Ap 12 kp) (.slice Ai ni ki) (.slice Af nf kf) (.slice (some ⟨g, 0, none⟩) 1 k4)).toArray rfl rfl _ _ XZ.out (by kernel_rfl) rfl (by simp [ClassV.cells, Value.oneCell']) ?_; refine stop_here ?_)
      refine go_on ?_
      obtain ⟨w3, hw3⟩ : ∃ W, W = (w2.alloc (.cells #[.int .i64 0, .int .i64 0, .slice none 0 0, .int .i64 0, .int .i64 0, .int .i64 0, .slice none 0 0, .slice none 0 0, .slice none 0 0] 29)).setRow w2.heap.size (ccc.cells (.slice Ap 12 kp) (.slice Ai ni ki) (.slice Af nf kf) (.slice (some ⟨g, 0, none⟩) 1 k4)).toArray := ⟨_, rfl⟩
      rw [← hw3]
      have XA := Lib.hid (show Bx w3 w2.heap.size (ccc.cells (.slice Ap 12 kp) (.slice Ai ni ki) (.slice Af nf kf) (.slice (some ⟨g, 0, none⟩) 1 k4)) 29 by rw [hw3]; exact XZ.out.row _)
      have hB3 : Below w2.heap.size w2 w3 := by rw [hw3]; exact below_rowA ((Below.refl _ _).alloc (Nat.le_refl _) _) _ _ (Nat.le_refl _)
      have HB3 := Lib.hid (HB2.out.trans (hB3.mono hz2))
      have c63 := (hB3.cell (p := ⟨g, 6, none⟩) hg).trans c6
      have d2 := XA.out.cell 2 rfl
      have d8 := XA.out.cell 8 rfl
      have hm9 : IntKind.i64.wrap (9 * (j : Int)) = 9 * (j : Int) := IntWalk.i64_in _ (by omega)
      have hm10 : IntKind.i64.wrap (9 * (j : Int) + 1) = 9 * (j : Int) + 1 := IntWalk.i64_in _ (by omega)
      clear hw3 hB3 c6 XZ
      go_wp2_with (go_at_call 8; refine (num_any _ _).mono ?_; rintro e w9 ⟨rfl, rfl⟩)
      go_ret
      exact ⟨by first | rfl | (simp; done) | (simp; omega), HB3.out⟩
end Go.Proofs.YtlcidkiplidamaaDoor
