/-
  The reference's Decode answers as ops.Decode does.
-/
import Derived.Test.YtgicbgeblgfnfaaDecP
import Derived.Test.YtgicbgeblgfnfaaRd0
import Derived.Test.YtgicbgeblgfnfaaRd1
import Derived.Test.YtgicbgeblgfnfaaRd2
import Derived.Test.YtgicbgeblgfnfaaRd3
set_option linter.unusedSimpArgs false
set_option linter.unusedVariables false
set_option maxRecDepth 100000
set_option maxHeartbeats 4000000
namespace Go.Proofs.Ytgicbgeblgfnfaa
open Go Go.RowKit Lib
theorem rowOf_bare {c : Int} (h : (rowOf c).1 = []) : rowOf c = ([], []) := by
  unfold rowOf at h ⊢
  split
  · rename_i r hr
    rw [hr] at h
    have hall : ∀ r ∈ rowL, r.2.1 ≠ [] := by decide
    exact absurd h (hall r (List.mem_of_find?_eq_some hr))
  · rfl
theorem rdec_none (b off len cap p c : Nat) (w : World) (hp : p < len) (hcap : len ≤ cap) (hm : len ≤ 9223372036854775807) (hc : c < 256)
    (hrow : rowOf c = ([], [])) (h0 : w.cell? ⟨b, off + p, none⟩ = some (.int .u8 c)) (hb : b < w.heap.size) :
    Calls Try.prog 11 #[.slice (some ⟨b, off, none⟩) len cap, .int .i64 p] w fun e w' => e = .returned (.tuple #[.agg #[.int .i64 0, .int .i64 0, .int .i64 0, .int .i64 0], .bool false]) ∧ Below w.heap.size w w' := by
  have HT : ∀ W, Calls Try.prog 13 #[.int .i64 c] W fun e w' => e = .returned (.tuple #[.string ⟨#[]⟩, .string ⟨#[]⟩]) ∧ Below W.heap.size W w' := fun W => by
    have := refform_any c W
    rw [hrow] at this
    exact this
  have HT' := Lib.hid HT
  clear HT hrow
  go_enter Try.func11, Try.ntmps11
  go_wp2_with fail
  refine (HT'.out _).mono ?_
  rintro e w1 ⟨rfl, hb1⟩
  have hz := hb1.size
  simp only [World.size_alloc] at hz
  have HB := Lib.hid hb1
  obtain ⟨hc', hf⟩ := bcell hb1
  have f0 := fun o => hf w.heap.size o (by simp)
  have d0 := hc' w.heap.size 0 (by simp)
  have d1 := hc' w.heap.size 1 (by simp)
  have d2 := hc' w.heap.size 2 (by simp)
  have d3 := hc' w.heap.size 3 (by simp)
  have g0 := hc' b (off + p) (by simp; omega)
  rw [World.cell?_alloc_lt _ _ _ hb, h0] at g0
  clear hc' hf hb1
  simp [go_sem] at f0 d0 d1 d2 d3
  obtain ⟨x1, x2, x3, x4, x5, x6, x7, x8, x9, x10, x11, x12⟩ := far b w1.heap.size (by omega)
  obtain ⟨y1, y2, y3, y4, y5, y6, y7, y8, y9, y10, y11, y12⟩ := far w.heap.size w1.heap.size (by omega)
  go_wp2_with (go_at_call 20; refine (reflong_e _).mono ?_; rintro e w2 ⟨rfl, rfl⟩)
  refine bodyPost_ret (v := .tuple #[.agg #[.int .i64 0, .int .i64 0, .int .i64 0, .int .i64 0], .bool false]) ?_ rfl ⟨rfl, ?_⟩
  · simp [results, Try.results11, go_sem, *]
  · have B0 : Below w.heap.size w w1 := ((Below.refl _ _).alloc (Nat.le_refl _) _).trans (HB.out.mono (by simp))
    repeat' (first | with_reducible exact B0 | with_reducible refine below_drewN ?_ _ | with_reducible refine Below.drew ?_ | with_reducible refine Below.setCell ?_ ?_ _ | with_reducible refine Below.alloc ?_ ?_ _ | (simp; done) | (simp; omega) | omega)
theorem rdec_out (A : Option Addr) (len cap : Nat) (at_ : Int) (w : World) (hm : len ≤ 9223372036854775807) (h : at_ < 0 ∨ (len : Int) ≤ at_) :
    Calls Try.prog 11 #[.slice A len cap, .int .i64 at_] w fun e w' => e = .returned (.tuple #[.agg #[.int .i64 0, .int .i64 0, .int .i64 0, .int .i64 0], .bool false]) ∧ Below w.heap.size w w' := by
  rcases h with h | h
  · go_enter Try.func11, Try.ntmps11
    go_wp2_with fail
    refine bodyPost_ret (v := .tuple #[.agg #[.int .i64 0, .int .i64 0, .int .i64 0, .int .i64 0], .bool false]) ?_ rfl ⟨rfl, ?_⟩
    · simp [results, Try.results11, go_sem, *]
    · repeat' (first | with_reducible exact Below.refl _ _ | with_reducible refine Below.setCell ?_ ?_ _ | with_reducible refine Below.alloc ?_ ?_ _ | (simp; done) | (simp; omega) | omega)
  · have h2 : ¬ at_ < 0 := by omega
    go_enter Try.func11, Try.ntmps11
    go_wp2_with fail
    refine bodyPost_ret (v := .tuple #[.agg #[.int .i64 0, .int .i64 0, .int .i64 0, .int .i64 0], .bool false]) ?_ rfl ⟨rfl, ?_⟩
    · simp [results, Try.results11, go_sem, *]
    · repeat' (first | with_reducible exact Below.refl _ _ | with_reducible refine Below.setCell ?_ ?_ _ | with_reducible refine Below.alloc ?_ ?_ _ | (simp; done) | (simp; omega) | omega)
theorem rdec_any {w : World} {A : Option Addr} {len cap : Nat} {l : List UInt8} (h : RdB w A len cap l) (at_ : Int) :
    Calls Try.prog 11 #[.slice A len cap, .int .i64 at_] w fun e w' => e = .returned (decV (decP l at_)) ∧ Below w.heap.size w w' := by
  by_cases ho : at_ < 0 ∨ (len : Int) ≤ at_
  · rw [decP, if_pos (by rw [← h.hlen]; exact ho)]
    exact rdec_out A len cap at_ w h.hmax ho
  · rw [decP, if_neg (by rw [← h.hlen]; exact ho)]
    obtain ⟨p, rfl⟩ := Int.eq_ofNat_of_zero_le (show 0 ≤ at_ by omega)
    have hp : p < len := by omega
    obtain ⟨b, off, rfl, hb, hc⟩ := h.hat (by omega)
    have hm := h.hmax
    have hcap := h.hle
    have hlen := h.hlen
    show Calls _ _ _ _ fun e w' => e = .returned (decV (decAt l p)) ∧ _
    have hf := rowOf_forms (byt l p)
    have hB := byt_lt l
    obtain ⟨nm, f, hr⟩ : ∃ nm f, rowOf (byt l p) = (nm, f) := ⟨_, _, rfl⟩
    rw [hr] at hf
    simp only [forms, List.mem_cons, List.not_mem_nil, or_false] at hf
    by_cases hn : nm = []
    · have e : decAt l p = none := by unfold decAt; simp [hr, hn]
      rw [e]
      exact rdec_none b off len cap p (byt l p) w hp hcap hm (hB p) (rowOf_bare (by rw [hr]; exact hn)) (hc p hp) hb
    rcases hf with rfl | rfl | rfl | rfl | rfl | rfl | rfl | rfl | rfl | rfl
    · have e : decAt l p = some ((byt l p : Int), 0, 0, 1) := by unfold decAt; simp [hr, hn]
      rw [e]
      exact rdec_e_ok b off len cap p (byt l p) nm w hp hcap hm (hB p) hr hn (hc p hp) hb (by omega)
    · by_cases hl : l.length < p + 2
      · have e : decAt l p = none := by unfold decAt; simp [hr, hn, hl]
        rw [e]
        exact rdec_b_short b off len cap p (byt l p) nm w hp hcap hm (hB p) hr hn (hc p hp) hb (by omega)
      · have e : decAt l p = some ((byt l p : Int), s8 (byt l (p + 1)), 0, 2) := by unfold decAt; simp [hr, hn, hl]
        rw [e]
        exact rdec_b_ok b off len cap p (byt l p) (byt l (p + 1)) nm w hp hcap hm (hB p) (hB _) hr hn (hc p hp) hb (hc _ (by omega)) (by omega)
    · by_cases hl : l.length < p + 2
      · have e : decAt l p = none := by unfold decAt; simp [hr, hn, hl]
        rw [e]
        exact rdec_u_short b off len cap p (byt l p) nm w hp hcap hm (hB p) hr hn (hc p hp) hb (by omega)
      · have e : decAt l p = some ((byt l p : Int), (byt l (p + 1) : Int), 0, 2) := by unfold decAt; simp [hr, hn, hl]
        rw [e]
        exact rdec_u_ok b off len cap p (byt l p) (byt l (p + 1)) nm w hp hcap hm (hB p) (hB _) hr hn (hc p hp) hb (hc _ (by omega)) (by omega)
    · by_cases hl : l.length < p + 3
      · have e : decAt l p = none := by unfold decAt; simp [hr, hn, hl]
        rw [e]
        exact rdec_s_short b off len cap p (byt l p) nm w hp hcap hm (hB p) hr hn (hc p hp) hb (by omega)
      · have e : decAt l p = some ((byt l p : Int), s16 (256 * (byt l (p + 1) : Int) + byt l (p + 2)), 0, 3) := by unfold decAt; simp [hr, hn, hl]
        rw [e]
        exact rdec_s_ok b off len cap p (byt l p) (byt l (p + 1)) (byt l (p + 2)) nm w hp hcap hm (hB p) (hB _) (hB _) hr hn (hc p hp) hb (hc _ (by omega)) (hc _ (by omega)) (by omega)
    · by_cases hl : l.length < p + 3
      · have e : decAt l p = none := by unfold decAt; simp [hr, hn, hl]
        rw [e]
        exact rdec_j_short b off len cap p (byt l p) nm w hp hcap hm (hB p) hr hn (hc p hp) hb (by omega)
      · have e : decAt l p = some ((byt l p : Int), s16 (256 * (byt l (p + 1) : Int) + byt l (p + 2)), 0, 3) := by unfold decAt; simp [hr, hn, hl]
        rw [e]
        exact rdec_j_ok b off len cap p (byt l p) (byt l (p + 1)) (byt l (p + 2)) nm w hp hcap hm (hB p) (hB _) (hB _) hr hn (hc p hp) hb (hc _ (by omega)) (hc _ (by omega)) (by omega)
    · by_cases hl : l.length < p + 3
      · have e : decAt l p = none := by unfold decAt; simp [hr, hn, hl]
        rw [e]
        exact rdec_f_short b off len cap p (byt l p) nm w hp hcap hm (hB p) hr hn (hc p hp) hb (by omega)
      · have e : decAt l p = some ((byt l p : Int), 256 * (byt l (p + 1) : Int) + byt l (p + 2), 0, 3) := by unfold decAt; simp [hr, hn, hl]
        rw [e]
        exact rdec_f_ok b off len cap p (byt l p) (byt l (p + 1)) (byt l (p + 2)) nm w hp hcap hm (hB p) (hB _) (hB _) hr hn (hc p hp) hb (hc _ (by omega)) (hc _ (by omega)) (by omega)
    · by_cases hl : l.length < p + 3
      · have e : decAt l p = none := by unfold decAt; simp [hr, hn, hl]
        rw [e]
        exact rdec_m_short b off len cap p (byt l p) nm w hp hcap hm (hB p) hr hn (hc p hp) hb (by omega)
      · have e : decAt l p = some ((byt l p : Int), 256 * (byt l (p + 1) : Int) + byt l (p + 2), 0, 3) := by unfold decAt; simp [hr, hn, hl]
        rw [e]
        exact rdec_m_ok b off len cap p (byt l p) (byt l (p + 1)) (byt l (p + 2)) nm w hp hcap hm (hB p) (hB _) (hB _) hr hn (hc p hp) hb (hc _ (by omega)) (hc _ (by omega)) (by omega)
    · by_cases hl : l.length < p + 3
      · have e : decAt l p = none := by unfold decAt; simp [hr, hn, hl]
        rw [e]
        exact rdec_c_short b off len cap p (byt l p) nm w hp hcap hm (hB p) hr hn (hc p hp) hb (by omega)
      · have e : decAt l p = some ((byt l p : Int), 256 * (byt l (p + 1) : Int) + byt l (p + 2), 0, 3) := by unfold decAt; simp [hr, hn, hl]
        rw [e]
        exact rdec_c_ok b off len cap p (byt l p) (byt l (p + 1)) (byt l (p + 2)) nm w hp hcap hm (hB p) (hB _) (hB _) hr hn (hc p hp) hb (hc _ (by omega)) (hc _ (by omega)) (by omega)
    · by_cases hl : l.length < p + 5
      · have e : decAt l p = none := by unfold decAt; simp [hr, hn, hl]
        rw [e]
        exact rdec_i_short b off len cap p (byt l p) nm w hp hcap hm (hB p) hr hn (hc p hp) hb (by omega)
      · by_cases hz : byt l (p + 4) = 0
        · have e : decAt l p = some ((byt l p : Int), 256 * (byt l (p + 1) : Int) + byt l (p + 2), (byt l (p + 3) : Int), 5) := by unfold decAt; simp [hr, hn, hl, hz]
          rw [e]
          exact rdec_i_ok b off len cap p (byt l p) (byt l (p + 1)) (byt l (p + 2)) (byt l (p + 3)) (byt l (p + 4)) nm w hp hcap hm (hB p) (hB _) (hB _) (hB _) (hB _) hr hn (hc p hp) hb (hc _ (by omega)) (hc _ (by omega)) (hc _ (by omega)) (hc _ (by omega)) (by omega) hz
        · have e : decAt l p = none := by unfold decAt; simp [hr, hn, hl, hz]
          rw [e]
          exact rdec_i_bad b off len cap p (byt l p) (byt l (p + 1)) (byt l (p + 2)) (byt l (p + 3)) (byt l (p + 4)) nm w hp hcap hm (hB p) (hB _) (hB _) (hB _) (hB _) hr hn (hc p hp) hb (hc _ (by omega)) (hc _ (by omega)) (hc _ (by omega)) (hc _ (by omega)) (by omega) hz
    · by_cases hl : l.length < p + 3
      · have e : decAt l p = none := by unfold decAt; simp [hr, hn, hl]
        rw [e]
        exact rdec_ub_short b off len cap p (byt l p) nm w hp hcap hm (hB p) hr hn (hc p hp) hb (by omega)
      · have e : decAt l p = some ((byt l p : Int), (byt l (p + 1) : Int), s8 (byt l (p + 2)), 3) := by unfold decAt; simp [hr, hn, hl]
        rw [e]
        exact rdec_ub_ok b off len cap p (byt l p) (byt l (p + 1)) (byt l (p + 2)) nm w hp hcap hm (hB p) (hB _) (hB _) hr hn (hc p hp) hb (hc _ (by omega)) (hc _ (by omega)) (by omega)
end Go.Proofs.Ytgicbgeblgfnfaa
