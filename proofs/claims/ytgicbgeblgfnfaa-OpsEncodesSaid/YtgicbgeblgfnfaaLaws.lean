/-
  What is encoded is decoded as itself, what is decoded is encoded as its bytes: in plain lists.
-/
import Derived.Test.YtgicbgeblgfnfaaEncP
set_option linter.unusedSimpArgs false
set_option linter.unusedVariables false
set_option maxHeartbeats 2000000
namespace Go.Proofs.Ytgicbgeblgfnfaa
open Go Go.RowKit Lib
theorem byt_app (pre l : List UInt8) (k : Nat) : byt (pre ++ l) (pre.length + k) = byt l k := by
  unfold byt
  rw [List.getD_eq_getElem?_getD, List.getD_eq_getElem?_getD, List.getElem?_append_right (by omega), Nat.add_sub_cancel_left]
theorem byt_app_left (l suf : List UInt8) (k : Nat) (h : k < l.length) : byt (l ++ suf) k = byt l k := by
  unfold byt
  rw [List.getD_eq_getElem?_getD, List.getD_eq_getElem?_getD, List.getElem?_append_left h]
theorem decAt_app (pre l : List UInt8) : decAt (pre ++ l) pre.length = decAt l 0 := by
  have h0 := byt_app pre l 0
  rw [Nat.add_zero] at h0
  unfold decAt
  simp only [h0, byt_app, List.length_append, Nat.zero_add]
  have e : ∀ k, (pre.length + l.length < pre.length + k) = (l.length < k) := fun k => by simp
  simp only [e]
theorem lo_toNat (n : Int) : ((lo n).toNat : Int) = n % 256 := by
  unfold lo
  rw [UInt8.toNat_ofNat']
  omega
theorem lo_of (x : UInt8) : lo (x.toNat : Int) = x := by
  unfold lo
  apply UInt8.toNat_inj.1
  rw [UInt8.toNat_ofNat']
  have := x.toNat_lt
  omega
theorem byt_0 (x : UInt8) (l : List UInt8) : byt (x :: l) 0 = x.toNat := rfl
theorem byt_1 (x y : UInt8) (l : List UInt8) : byt (x :: y :: l) 1 = y.toNat := rfl
theorem byt_2 (x y z : UInt8) (l : List UInt8) : byt (x :: y :: z :: l) 2 = z.toNat := rfl
theorem byt_3 (x y z u : UInt8) (l : List UInt8) : byt (x :: y :: z :: u :: l) 3 = u.toNat := rfl
theorem byt_4 (x y z u v : UInt8) (l : List UInt8) : byt (x :: y :: z :: u :: v :: l) 4 = v.toNat := rfl
theorem encP_name {c a b : Int} {bs : List UInt8} (h : encP c a b = some bs) : (rowOf c).1 ≠ [] := by
  intro e
  simp [encP, e] at h
theorem encP_long {c a b : Int} {bs : List UInt8} (h : encP c a b = some bs) : 1 ≤ bs.length ∧ bs.length ≤ 5 := by
  have hn := encP_name h
  rw [encP, if_neg hn] at h
  unfold encF at h
  repeat' split at h
  all_goals first
    | (cases h; done)
    | (injection h with h; subst h; simp [two])
theorem dec_enc {c a b : Int} {bs : List UInt8} (h : encP c a b = some bs) (suf : List UInt8) : decAt (bs ++ suf) 0 = some (c, a, b, (bs.length : Int)) := by
  have hn := encP_name h
  obtain ⟨hc0, hc1⟩ := rowOf_range hn
  have hf := rowOf_forms c
  rw [encP, if_neg hn] at h
  obtain ⟨nm, f, hr⟩ : ∃ nm f, rowOf c = (nm, f) := ⟨_, _, rfl⟩
  rw [hr] at hf hn h
  have hlc : ((lo c).toNat : Int) = c := by rw [lo_toNat]; omega
  simp only [forms, List.mem_cons, List.not_mem_nil, or_false] at hf
  rcases hf with rfl | rfl | rfl | rfl | rfl | rfl | rfl | rfl | rfl | rfl <;>
    simp [encF] at h <;>
    obtain ⟨⟨h1, h2⟩, rfl⟩ := h <;>
    (try simp [wthn] at h1 h2) <;>
    simp [decAt, byt_0, byt_1, byt_2, byt_3, byt_4, hlc, hr, hn, two, lo_toNat, s8, s16] <;>
    (first | done | omega)
theorem enc_dec {l : List UInt8} {c a b n : Int} (h : decAt l 0 = some (c, a, b, n)) (hl : 0 < l.length) : 1 ≤ n ∧ n ≤ l.length ∧ encP c a b = some (l.take n.toNat) := by
  have hn : (rowOf (byt l 0 : Int)).1 ≠ [] := by
    intro e
    simp [decAt, e] at h
  have hf := rowOf_forms (byt l 0 : Int)
  obtain ⟨nm, f, hr⟩ : ∃ nm f, rowOf (byt l 0 : Int) = (nm, f) := ⟨_, _, rfl⟩
  rw [hr] at hf hn
  rcases l with _ | ⟨x, l⟩
  · simp at hl
  rw [byt_0] at hr
  unfold decAt at h
  simp only [byt_0, hr, hn, if_false] at h
  simp only [forms, List.mem_cons, List.not_mem_nil, or_false] at hf
  rcases hf with rfl | rfl | rfl | rfl | rfl | rfl | rfl | rfl | rfl | rfl
  · simp at h
    obtain ⟨rfl, rfl, rfl, rfl⟩ := h
    refine ⟨by omega, by simp only [List.length_cons]; omega, ?_⟩
    simp [encP, encF, hr, hn, lo_of]
  all_goals
    simp at h
    first
      | (rcases l with _ | ⟨y, l⟩
         · simp at h
         simp [byt_1] at h
         obtain ⟨rfl, rfl, rfl, rfl⟩ := h
         have hy := y.toNat_lt
         refine ⟨by omega, by simp only [List.length_cons]; omega, ?_⟩
         have e1 : lo (s8 (y.toNat : Int)) = y := by
           conv => rhs; rw [← lo_of y]
           unfold lo s8
           congr 1
           split <;> omega
         simp [encP, encF, hr, hn, lo_of, wthn, e1]
         first | done | (simp only [s8]; split <;> omega) | omega)
      | (rcases l with _ | ⟨y, _ | ⟨z, l⟩⟩
         · simp at h
         · simp at h
         simp [byt_1, byt_2] at h
         obtain ⟨rfl, rfl, rfl, rfl⟩ := h
         have hy := y.toNat_lt
         have hz := z.toNat_lt
         refine ⟨by omega, by simp only [List.length_cons]; omega, ?_⟩
         have e1 : lo (s8 (z.toNat : Int)) = z := by
           conv => rhs; rw [← lo_of z]
           unfold lo s8
           congr 1
           split <;> omega
         have e2 : lo (256 * (y.toNat : Int) + z.toNat) = z := by
           conv => rhs; rw [← lo_of z]
           unfold lo
           congr 1
           omega
         have e3 : lo ((256 * (y.toNat : Int) + z.toNat) / 256) = y := by
           conv => rhs; rw [← lo_of y]
           unfold lo
           congr 1
           omega
         have e4 : lo (s16 (256 * (y.toNat : Int) + z.toNat)) = z := by
           conv => rhs; rw [← lo_of z]
           unfold lo s16
           congr 1
           split <;> omega
         have e5 : lo (s16 (256 * (y.toNat : Int) + z.toNat) / 256) = y := by
           conv => rhs; rw [← lo_of y]
           unfold lo s16
           congr 1
           split <;> omega
         simp [encP, encF, hr, hn, lo_of, wthn, e1, e2, e3, e4, e5, two]
         first | done | omega | (simp only [s8, s16]; (repeat' apply And.intro) <;> (first | omega | (split <;> omega))))
      | (rcases l with _ | ⟨y, _ | ⟨z, _ | ⟨u, _ | ⟨v, l⟩⟩⟩⟩
         · simp at h
         · simp at h
         · simp at h
         · simp at h
         simp [byt_1, byt_2, byt_3, byt_4] at h
         obtain ⟨hv, rfl, rfl, rfl, rfl⟩ := h
         have hy := y.toNat_lt
         have hz := z.toNat_lt
         have hu := u.toNat_lt
         refine ⟨by omega, by simp only [List.length_cons]; omega, ?_⟩
         have e2 : lo (256 * (y.toNat : Int) + z.toNat) = z := by
           conv => rhs; rw [← lo_of z]
           unfold lo
           congr 1
           omega
         have e3 : lo ((256 * (y.toNat : Int) + z.toNat) / 256) = y := by
           conv => rhs; rw [← lo_of y]
           unfold lo
           congr 1
           omega
         have e6 : v = 0 := UInt8.toNat_inj.1 (by simpa using hv)
         simp [encP, encF, hr, hn, lo_of, wthn, e2, e3, e6, two]
         omega)
/-- What is decoded at a place is encoded as the bytes at that place. -/
theorem back_dec {l : List UInt8} {p : Nat} {c a b n : Int} (h : decP l p = some (c, a, b, n)) : p < l.length ∧ 1 ≤ n ∧ p + n ≤ l.length ∧ encP c a b = some ((l.drop p).take n.toNat) := by
  unfold decP at h
  split at h
  · cases h
  · rename_i hp
    have hlt : p < l.length := by omega
    rw [Int.toNat_natCast] at h
    have e := decAt_app (l.take p) (l.drop p)
    rw [List.take_append_drop, List.length_take, Nat.min_eq_left (by omega)] at e
    rw [e] at h
    have hd : (l.drop p).length = l.length - p := List.length_drop ..
    have := enc_dec h (by omega)
    refine ⟨hlt, this.1, by omega, this.2.2⟩
/-- What is encoded is decoded as itself, wherever it stands. -/
theorem back_enc {c a b : Int} {bs : List UInt8} (h : encP c a b = some bs) (pre suf : List UInt8) : decP (pre ++ (bs ++ suf)) pre.length = some (c, a, b, (bs.length : Int)) := by
  have := (encP_long h).1
  unfold decP
  rw [if_neg (by simp; omega), Int.toNat_natCast, decAt_app, dec_enc h]
end Go.Proofs.Ytgicbgeblgfnfaa
