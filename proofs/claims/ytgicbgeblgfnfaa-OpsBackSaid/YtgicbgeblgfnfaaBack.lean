/-
  turnstilelaw6.OpsBack answers true at every argument, and turns nothing that was there.
-/
import Derived.Test.YtgicbgeblgfnfaaAlive
import Derived.Test.YtgicbgeblgfnfaaLaws
import Derived.Test.YtgicbgeblgfnfaaStr
import Derived.Deep.QuietTactic
import Derived.BigQuiet
set_option maxRecDepth 100000
set_option maxHeartbeats 4000000
set_option linter.unusedSimpArgs false
set_option linter.unusedVariables false
namespace Go.Proofs.Ytgicbgeblgfnfaa
open Go Go.RowKit Lib
theorem back_long (A : Option Addr) (len cap : Nat) (at_ c a b n : Int) (w : World) (hl : 3000 < len) (hm : len ≤ 9223372036854775807) :
    Calls Try.prog 7 #[.slice A len cap, .int .i64 at_, .agg #[.int .i64 c, .int .i64 a, .int .i64 b, .int .i64 n]] w fun e w' => e = .returned (.bool true) ∧ Below w.heap.size w w' := by
  go_enter Try.func7, Try.ntmps7
  go_wp2_with fail
  refine (alive_any _).mono ?_
  rintro e w1 ⟨rfl, hb1⟩
  have HB1 := Lib.hid (((Below.refl w.heap.size w).alloc (Nat.le_refl _) _).trans (hb1.mono (by simp)))
  clear hb1
  go_wp2_with fail
  go_ret
  exact ⟨rfl, HB1.out⟩
theorem back_00 (A : Option Addr) (len cap : Nat) (l : List UInt8) (at_ c a b n : Int) (w : World) (hr : RdB w A len cap l) (hl : len ≤ 3000) (hD : decP l at_ = none) (hE : encP c a b = none) :
    Calls Try.prog 7 #[.slice A len cap, .int .i64 at_, .agg #[.int .i64 c, .int .i64 a, .int .i64 b, .int .i64 n]] w fun e w' => e = .returned (.bool true) ∧ Below w.heap.size w w' := by
  have HD : ∀ W, RdB W A len cap l → Calls Try.prog 10 #[.slice A len cap, .int .i64 at_] W fun e w' => e = .returned (.tuple #[.agg #[.int .i64 0, .int .i64 0, .int .i64 0, .int .i64 0], .bool false]) ∧ Below W.heap.size W w' := fun W h => by
    have := dec_any h at_
    rw [hD] at this
    exact this
  have HE : ∀ W, Calls Try.prog 16 #[.agg #[.int .i64 c, .int .i64 a, .int .i64 b, .int .i64 n]] W fun e w' => e = .returned (.tuple #[.slice none 0 0, .bool false]) ∧ Below W.heap.size W w' := fun W => by
    have := enc_any c a b n W
    rw [hE] at this
    exact this
  have HD' := Lib.hid HD
  have HE' := Lib.hid HE
  have HR := Lib.hid hr
  clear HD HE hr hD hE
  go_enter Try.func7, Try.ntmps7
  go_wp2_with fail
  refine (alive_any _).mono ?_
  rintro e w1 ⟨rfl, hb1⟩
  have HB1 := Lib.hid (((Below.refl w.heap.size w).alloc (Nat.le_refl _) _).trans (hb1.mono (by simp)))
  have HX1 := Lib.hid hb1
  have hz1 := hb1.size
  simp only [World.size_alloc] at hz1
  clear hb1
  go_wp2_with fail
  refine (HD'.out _ (HR.out.below HB1.out)).mono ?_
  rintro e w2 ⟨rfl, hb2⟩
  have HB2 := Lib.hid (HB1.out.trans (hb2.mono HB1.out.size))
  have HX2 := Lib.hid (HX1.out.trans (hb2.mono HX1.out.size))
  have hz2 := hb2.size
  clear hb2
  have e0 := HX2.out.cell (p := ⟨w.heap.size, 0, none⟩) (by simp)
  have e1 := HX2.out.cell (p := ⟨w.heap.size, 1, none⟩) (by simp)
  have e2 := HX2.out.cell (p := ⟨w.heap.size, 2, none⟩) (by simp)
  have e3 := HX2.out.cell (p := ⟨w.heap.size, 3, none⟩) (by simp)
  simp [go_sem] at e0 e1 e2 e3
  obtain ⟨y1, y2, y3, y4, y5, y6, y7, y8, y9, y10, y11, y12⟩ := far w.heap.size w2.heap.size (by omega)
  go_wp2_with fail
  refine (HE'.out _).mono ?_
  rintro e w4 ⟨rfl, hb4⟩
  have HB4 := Lib.hid ((HB2.out.alloc HB2.out.size _).trans (hb4.mono (by have := HB2.out.size; simp; omega)))
  clear hb4
  go_wp2_with fail
  go_ret
  exact ⟨rfl, HB4.out⟩
theorem back_01 (A : Option Addr) (len cap : Nat) (l : List UInt8) (at_ c a b n : Int) (w : World) (hr : RdB w A len cap l) (hl : len ≤ 3000) (hD : decP l at_ = none) (bs : List UInt8) (hE : encP c a b = some bs) :
    Calls Try.prog 7 #[.slice A len cap, .int .i64 at_, .agg #[.int .i64 c, .int .i64 a, .int .i64 b, .int .i64 n]] w fun e w' => e = .returned (.bool true) ∧ Below w.heap.size w w' := by
  have HD : ∀ W, RdB W A len cap l → Calls Try.prog 10 #[.slice A len cap, .int .i64 at_] W fun e w' => e = .returned (.tuple #[.agg #[.int .i64 0, .int .i64 0, .int .i64 0, .int .i64 0], .bool false]) ∧ Below W.heap.size W w' := fun W h => by
    have := dec_any h at_
    rw [hD] at this
    exact this
  have HE : ∀ W, Calls Try.prog 16 #[.agg #[.int .i64 c, .int .i64 a, .int .i64 b, .int .i64 n]] W fun e w' => (∃ g k, e = .returned (.tuple #[.slice (some ⟨g, 0, none⟩) bs.length k, .bool true]) ∧ w'.ownsRow W.heap.size 5 1 (.slice (some ⟨g, 0, none⟩) bs.length k) bs.length (bs.map bV)) ∧ Below W.heap.size W w' := fun W => by
    have := enc_any c a b n W
    rw [hE] at this
    exact this
  have HD2 : ∀ W A len cap, RdB W A len cap bs → Calls Try.prog 10 #[.slice A len cap, .int .i64 0] W fun e w' => e = .returned (.tuple #[.agg #[.int .i64 c, .int .i64 a, .int .i64 b, .int .i64 bs.length], .bool true]) ∧ Below W.heap.size W w' := fun W A len cap h => by
    have := dec_any h 0
    have e := back_enc hE [] []
    simp only [List.nil_append, List.append_nil, List.length_nil] at e
    rw [show ((0 : Nat) : Int) = 0 from rfl] at e
    rw [e] at this
    exact this
  have HD2' := Lib.hid HD2
  have hbl := (encP_long hE).2
  clear HD2
  have HD' := Lib.hid HD
  have HE' := Lib.hid HE
  have HR := Lib.hid hr
  clear HD HE hr hD hE
  go_enter Try.func7, Try.ntmps7
  go_wp2_with fail
  refine (alive_any _).mono ?_
  rintro e w1 ⟨rfl, hb1⟩
  have HB1 := Lib.hid (((Below.refl w.heap.size w).alloc (Nat.le_refl _) _).trans (hb1.mono (by simp)))
  have HX1 := Lib.hid hb1
  have hz1 := hb1.size
  simp only [World.size_alloc] at hz1
  clear hb1
  go_wp2_with fail
  refine (HD'.out _ (HR.out.below HB1.out)).mono ?_
  rintro e w2 ⟨rfl, hb2⟩
  have HB2 := Lib.hid (HB1.out.trans (hb2.mono HB1.out.size))
  have HX2 := Lib.hid (HX1.out.trans (hb2.mono HX1.out.size))
  have hz2 := hb2.size
  clear hb2
  have e0 := HX2.out.cell (p := ⟨w.heap.size, 0, none⟩) (by simp)
  have e1 := HX2.out.cell (p := ⟨w.heap.size, 1, none⟩) (by simp)
  have e2 := HX2.out.cell (p := ⟨w.heap.size, 2, none⟩) (by simp)
  have e3 := HX2.out.cell (p := ⟨w.heap.size, 3, none⟩) (by simp)
  simp [go_sem] at e0 e1 e2 e3
  obtain ⟨y1, y2, y3, y4, y5, y6, y7, y8, y9, y10, y11, y12⟩ := far w.heap.size w2.heap.size (by omega)
  go_wp2_with fail
  refine (HE'.out _).mono ?_
  rintro e w4 ⟨⟨g2, k2, rfl, ho2⟩, hb4⟩
  have HB4 := Lib.hid ((HB2.out.alloc HB2.out.size _).trans (hb4.mono (by have := HB2.out.size; simp; omega)))
  have HX4 := Lib.hid ((HX2.out.alloc HX2.out.size _).trans (hb4.mono (by have := HX2.out.size; simp at this; simp; omega)))
  clear hb4
  have HRD := Lib.hid (rdB_own ho2)
  clear ho2
  go_wp2_with fail
  refine (HD2'.out _ _ _ _ HRD.out).mono ?_
  rintro e w5 ⟨rfl, hb5⟩
  have HB5 := Lib.hid (HB4.out.trans (hb5.mono HB4.out.size))
  have HX5 := Lib.hid (HX4.out.trans (hb5.mono HX4.out.size))
  clear hb5
  have hz5 := HX5.out.size
  simp only [World.size_alloc] at hz5
  have f0 := HX5.out.cell (p := ⟨w.heap.size, 0, none⟩) (by simp)
  have f1 := HX5.out.cell (p := ⟨w.heap.size, 1, none⟩) (by simp)
  have f2 := HX5.out.cell (p := ⟨w.heap.size, 2, none⟩) (by simp)
  simp [go_sem] at f0 f1 f2
  obtain ⟨z1, z2, z3, z4, z5, z6, z7, z8, z9, z10, z11, z12⟩ := far w.heap.size w5.heap.size (by omega)
  go_wp2_with fail
  go_ret
  exact ⟨rfl, HB5.out.alloc HB5.out.size _⟩
theorem back_10 (A : Option Addr) (len cap : Nat) (l : List UInt8) (at_ c a b n : Int) (w : World) (hr : RdB w A len cap l) (hl : len ≤ 3000) (c1 a1 b1 n1 : Int) (hD : decP l at_ = some (c1, a1, b1, n1)) (hE : encP c a b = none) :
    Calls Try.prog 7 #[.slice A len cap, .int .i64 at_, .agg #[.int .i64 c, .int .i64 a, .int .i64 b, .int .i64 n]] w fun e w' => e = .returned (.bool true) ∧ Below w.heap.size w w' := by
  have hat : 0 ≤ at_ := by
    unfold decP at hD
    split at hD
    · cases hD
    · omega
  obtain ⟨p, rfl⟩ := Int.eq_ofNat_of_zero_le hat
  obtain ⟨hp, hn1, hpn, hE1⟩ := back_dec hD
  obtain ⟨m, rfl⟩ := Int.eq_ofNat_of_zero_le (show 0 ≤ n1 by omega)
  rw [Int.toNat_natCast] at hE1
  have hcap := hr.hle
  obtain ⟨gb, off, rfl, hgb⟩ := hr.addr (by rw [hr.hlen]; omega)
  have hbl : ((l.drop p).take m).length = m := by simp; omega
  have hll : p + m ≤ len := by rw [hr.hlen]; omega
  have hpl : p < len := by omega
  clear hp hpn
  have HD : ∀ W, RdB W (some ⟨gb, off, none⟩) len cap l → Calls Try.prog 10 #[.slice (some ⟨gb, off, none⟩) len cap, .int .i64 p] W fun e w' => e = .returned (.tuple #[.agg #[.int .i64 c1, .int .i64 a1, .int .i64 b1, .int .i64 m], .bool true]) ∧ Below W.heap.size W w' := fun W h => by
    have := dec_any h p
    rw [hD] at this
    exact this
  have HE1 : ∀ W, Calls Try.prog 16 #[.agg #[.int .i64 c1, .int .i64 a1, .int .i64 b1, .int .i64 m]] W fun e w' => (∃ g k, e = .returned (.tuple #[.slice (some ⟨g, 0, none⟩) m k, .bool true]) ∧ w'.ownsRow W.heap.size 5 1 (.slice (some ⟨g, 0, none⟩) m k) m (((l.drop p).take m).map bV)) ∧ Below W.heap.size W w' := fun W => by
    have := enc_any c1 a1 b1 m W
    rw [hE1] at this
    simpa only [EncR, hbl] using this
  have HE1' := Lib.hid HE1
  clear HE1 hE1 hbl
  have HE : ∀ W, Calls Try.prog 16 #[.agg #[.int .i64 c, .int .i64 a, .int .i64 b, .int .i64 n]] W fun e w' => e = .returned (.tuple #[.slice none 0 0, .bool false]) ∧ Below W.heap.size W w' := fun W => by
    have := enc_any c a b n W
    rw [hE] at this
    exact this
  have HD' := Lib.hid HD
  have HE' := Lib.hid HE
  have HR := Lib.hid hr
  clear HD HE hr hD hE
  go_enter Try.func7, Try.ntmps7
  go_wp2_with fail
  refine (alive_any _).mono ?_
  rintro e w1 ⟨rfl, hb1⟩
  have HB1 := Lib.hid (((Below.refl w.heap.size w).alloc (Nat.le_refl _) _).trans (hb1.mono (by simp)))
  have HX1 := Lib.hid hb1
  have hz1 := hb1.size
  simp only [World.size_alloc] at hz1
  clear hb1
  go_wp2_with fail
  refine (HD'.out _ (HR.out.below HB1.out)).mono ?_
  rintro e w2 ⟨rfl, hb2⟩
  have HB2 := Lib.hid (HB1.out.trans (hb2.mono HB1.out.size))
  have HX2 := Lib.hid (HX1.out.trans (hb2.mono HX1.out.size))
  have hz2 := hb2.size
  clear hb2
  go_wp2_with fail
  refine (HE1'.out _).mono ?_
  rintro e w3 ⟨⟨g, k, rfl, ho⟩, hb3⟩
  have d3 := hb3.cell (p := ⟨w2.heap.size, 3, none⟩) (by simp)
  simp [go_sem] at d3
  have hz3 := hb3.size
  simp only [World.size_alloc] at hz3
  have HB3 := Lib.hid ((HB2.out.alloc HB2.out.size _).trans (hb3.mono (by have := HB2.out.size; simp; omega)))
  have HX3 := Lib.hid ((HX2.out.alloc HX2.out.size _).trans (hb3.mono (by have := HX2.out.size; simp at this; simp; omega)))
  clear hb3
  have hcv1 : ∀ q, (convert 22 9 (.slice (some ⟨g, 0, none⟩) m k)).run Try.prog (w3.drewN q) = .ok (.string ⟨((l.drop p).take m).toArray⟩) (w3.drewN q) := fun q => ((rdB_own ho).drewN q).str
  have hcv2 : ∀ q, (convert 22 9 (.slice (some ⟨gb, off + p, none⟩) m (cap - p))).run Try.prog (w3.drewN q) = .ok (.string ⟨((l.drop p).take m).toArray⟩) (w3.drewN q) := fun q => (((HR.out.below HB3.out).part p m (by omega) (by omega)).drewN q).str
  clear ho
  have e0 := HX3.out.cell (p := ⟨w.heap.size, 0, none⟩) (by simp)
  have e1 := HX3.out.cell (p := ⟨w.heap.size, 1, none⟩) (by simp)
  have e2 := HX3.out.cell (p := ⟨w.heap.size, 2, none⟩) (by simp)
  have e3 := HX3.out.cell (p := ⟨w.heap.size, 3, none⟩) (by simp)
  simp [go_sem] at e0 e1 e2 e3
  go_wp2_with fail
  go_quiet (fail)
  go_wp2_with fail
  refine (HE'.out _).mono ?_
  rintro e w4 ⟨rfl, hb4⟩
  have HB4 := Lib.hid ((below_drewN HB3.out _).trans (hb4.mono (by have := HB3.out.size; simp; omega)))
  clear hb4
  go_wp2_with fail
  go_ret
  exact ⟨rfl, HB4.out⟩
theorem back_11 (A : Option Addr) (len cap : Nat) (l : List UInt8) (at_ c a b n : Int) (w : World) (hr : RdB w A len cap l) (hl : len ≤ 3000) (c1 a1 b1 n1 : Int) (hD : decP l at_ = some (c1, a1, b1, n1)) (bs : List UInt8) (hE : encP c a b = some bs) :
    Calls Try.prog 7 #[.slice A len cap, .int .i64 at_, .agg #[.int .i64 c, .int .i64 a, .int .i64 b, .int .i64 n]] w fun e w' => e = .returned (.bool true) ∧ Below w.heap.size w w' := by
  have hat : 0 ≤ at_ := by
    unfold decP at hD
    split at hD
    · cases hD
    · omega
  obtain ⟨p, rfl⟩ := Int.eq_ofNat_of_zero_le hat
  obtain ⟨hp, hn1, hpn, hE1⟩ := back_dec hD
  obtain ⟨m, rfl⟩ := Int.eq_ofNat_of_zero_le (show 0 ≤ n1 by omega)
  rw [Int.toNat_natCast] at hE1
  have hcap := hr.hle
  obtain ⟨gb, off, rfl, hgb⟩ := hr.addr (by rw [hr.hlen]; omega)
  have hbl : ((l.drop p).take m).length = m := by simp; omega
  have hll : p + m ≤ len := by rw [hr.hlen]; omega
  have hpl : p < len := by omega
  clear hp hpn
  have HD : ∀ W, RdB W (some ⟨gb, off, none⟩) len cap l → Calls Try.prog 10 #[.slice (some ⟨gb, off, none⟩) len cap, .int .i64 p] W fun e w' => e = .returned (.tuple #[.agg #[.int .i64 c1, .int .i64 a1, .int .i64 b1, .int .i64 m], .bool true]) ∧ Below W.heap.size W w' := fun W h => by
    have := dec_any h p
    rw [hD] at this
    exact this
  have HE1 : ∀ W, Calls Try.prog 16 #[.agg #[.int .i64 c1, .int .i64 a1, .int .i64 b1, .int .i64 m]] W fun e w' => (∃ g k, e = .returned (.tuple #[.slice (some ⟨g, 0, none⟩) m k, .bool true]) ∧ w'.ownsRow W.heap.size 5 1 (.slice (some ⟨g, 0, none⟩) m k) m (((l.drop p).take m).map bV)) ∧ Below W.heap.size W w' := fun W => by
    have := enc_any c1 a1 b1 m W
    rw [hE1] at this
    simpa only [EncR, hbl] using this
  have HE1' := Lib.hid HE1
  clear HE1 hE1 hbl
  have HE : ∀ W, Calls Try.prog 16 #[.agg #[.int .i64 c, .int .i64 a, .int .i64 b, .int .i64 n]] W fun e w' => (∃ g k, e = .returned (.tuple #[.slice (some ⟨g, 0, none⟩) bs.length k, .bool true]) ∧ w'.ownsRow W.heap.size 5 1 (.slice (some ⟨g, 0, none⟩) bs.length k) bs.length (bs.map bV)) ∧ Below W.heap.size W w' := fun W => by
    have := enc_any c a b n W
    rw [hE] at this
    exact this
  have HD2 : ∀ W A len cap, RdB W A len cap bs → Calls Try.prog 10 #[.slice A len cap, .int .i64 0] W fun e w' => e = .returned (.tuple #[.agg #[.int .i64 c, .int .i64 a, .int .i64 b, .int .i64 bs.length], .bool true]) ∧ Below W.heap.size W w' := fun W A len cap h => by
    have := dec_any h 0
    have e := back_enc hE [] []
    simp only [List.nil_append, List.append_nil, List.length_nil] at e
    rw [show ((0 : Nat) : Int) = 0 from rfl] at e
    rw [e] at this
    exact this
  have HD2' := Lib.hid HD2
  have hbl := (encP_long hE).2
  clear HD2
  have HD' := Lib.hid HD
  have HE' := Lib.hid HE
  have HR := Lib.hid hr
  clear HD HE hr hD hE
  go_enter Try.func7, Try.ntmps7
  go_wp2_with fail
  refine (alive_any _).mono ?_
  rintro e w1 ⟨rfl, hb1⟩
  have HB1 := Lib.hid (((Below.refl w.heap.size w).alloc (Nat.le_refl _) _).trans (hb1.mono (by simp)))
  have HX1 := Lib.hid hb1
  have hz1 := hb1.size
  simp only [World.size_alloc] at hz1
  clear hb1
  go_wp2_with fail
  refine (HD'.out _ (HR.out.below HB1.out)).mono ?_
  rintro e w2 ⟨rfl, hb2⟩
  have HB2 := Lib.hid (HB1.out.trans (hb2.mono HB1.out.size))
  have HX2 := Lib.hid (HX1.out.trans (hb2.mono HX1.out.size))
  have hz2 := hb2.size
  clear hb2
  go_wp2_with fail
  refine (HE1'.out _).mono ?_
  rintro e w3 ⟨⟨g, k, rfl, ho⟩, hb3⟩
  have d3 := hb3.cell (p := ⟨w2.heap.size, 3, none⟩) (by simp)
  simp [go_sem] at d3
  have hz3 := hb3.size
  simp only [World.size_alloc] at hz3
  have HB3 := Lib.hid ((HB2.out.alloc HB2.out.size _).trans (hb3.mono (by have := HB2.out.size; simp; omega)))
  have HX3 := Lib.hid ((HX2.out.alloc HX2.out.size _).trans (hb3.mono (by have := HX2.out.size; simp at this; simp; omega)))
  clear hb3
  have hcv1 : ∀ q, (convert 22 9 (.slice (some ⟨g, 0, none⟩) m k)).run Try.prog (w3.drewN q) = .ok (.string ⟨((l.drop p).take m).toArray⟩) (w3.drewN q) := fun q => ((rdB_own ho).drewN q).str
  have hcv2 : ∀ q, (convert 22 9 (.slice (some ⟨gb, off + p, none⟩) m (cap - p))).run Try.prog (w3.drewN q) = .ok (.string ⟨((l.drop p).take m).toArray⟩) (w3.drewN q) := fun q => (((HR.out.below HB3.out).part p m (by omega) (by omega)).drewN q).str
  clear ho
  have e0 := HX3.out.cell (p := ⟨w.heap.size, 0, none⟩) (by simp)
  have e1 := HX3.out.cell (p := ⟨w.heap.size, 1, none⟩) (by simp)
  have e2 := HX3.out.cell (p := ⟨w.heap.size, 2, none⟩) (by simp)
  have e3 := HX3.out.cell (p := ⟨w.heap.size, 3, none⟩) (by simp)
  simp [go_sem] at e0 e1 e2 e3
  go_wp2_with fail
  go_quiet (fail)
  go_wp2_with fail
  refine (HE'.out _).mono ?_
  rintro e w4 ⟨⟨g2, k2, rfl, ho2⟩, hb4⟩
  have HB4 := Lib.hid ((below_drewN HB3.out _).trans (hb4.mono (by have := HB3.out.size; simp; omega)))
  have HX4 := Lib.hid ((below_drewN HX3.out _).trans (hb4.mono (by have := HX3.out.size; simp at this; simp; omega)))
  clear hb4
  have HRD := Lib.hid (rdB_own ho2)
  clear ho2
  go_wp2_with fail
  refine (HD2'.out _ _ _ _ HRD.out).mono ?_
  rintro e w5 ⟨rfl, hb5⟩
  have HB5 := Lib.hid (HB4.out.trans (hb5.mono HB4.out.size))
  have HX5 := Lib.hid (HX4.out.trans (hb5.mono HX4.out.size))
  clear hb5
  have hz5 := HX5.out.size
  simp only [World.size_alloc] at hz5
  have f0 := HX5.out.cell (p := ⟨w.heap.size, 0, none⟩) (by simp)
  have f1 := HX5.out.cell (p := ⟨w.heap.size, 1, none⟩) (by simp)
  have f2 := HX5.out.cell (p := ⟨w.heap.size, 2, none⟩) (by simp)
  simp [go_sem] at f0 f1 f2
  obtain ⟨z1, z2, z3, z4, z5, z6, z7, z8, z9, z10, z11, z12⟩ := far w.heap.size w5.heap.size (by omega)
  go_wp2_with fail
  go_ret
  exact ⟨rfl, HB5.out.alloc HB5.out.size _⟩
theorem back_any (A : Option Addr) (len cap : Nat) (l : List UInt8) (at_ c a b n : Int) (w : World) (hr : RdB w A len cap l) :
    Calls Try.prog 7 #[.slice A len cap, .int .i64 at_, .agg #[.int .i64 c, .int .i64 a, .int .i64 b, .int .i64 n]] w fun e w' => e = .returned (.bool true) ∧ Below w.heap.size w w' := by
  by_cases hl : len ≤ 3000
  · rcases hD : decP l at_ with _ | ⟨c1, a1, b1, n1⟩
    · rcases hE : encP c a b with _ | bs
      · exact back_00 A len cap l at_ c a b n w hr hl hD hE
      · exact back_01 A len cap l at_ c a b n w hr hl hD bs hE
    · rcases hE : encP c a b with _ | bs
      · exact back_10 A len cap l at_ c a b n w hr hl c1 a1 b1 n1 hD hE
      · exact back_11 A len cap l at_ c a b n w hr hl c1 a1 b1 n1 hD bs hE
  · exact back_long A len cap at_ c a b n w (by omega) hr.hmax
end Go.Proofs.Ytgicbgeblgfnfaa
