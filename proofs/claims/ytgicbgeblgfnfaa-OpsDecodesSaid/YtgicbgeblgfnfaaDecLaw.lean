/-
  turnstilelaw6.OpsDecodes answers true at every argument, and turns nothing that was there.
-/
import Derived.Test.YtgicbgeblgfnfaaAlive
import Derived.Test.YtgicbgeblgfnfaaRdP
import Derived.Test.YtgicbgeblgfnfaaStr
import Derived.Deep.QuietTactic
import Derived.BigQuiet
set_option maxRecDepth 100000
set_option maxHeartbeats 4000000
set_option linter.unusedSimpArgs false
set_option linter.unusedVariables false
namespace Go.Proofs.Ytgicbgeblgfnfaa
open Go Go.RowKit Lib
theorem decodes_long (A : Option Addr) (len cap : Nat) (at_ : Int) (w : World) (hl : 3000 < len) (hm : len ≤ 9223372036854775807) :
    Calls Try.prog 3 #[.slice A len cap, .int .i64 at_] w fun e w' => e = .returned (.bool true) ∧ Below w.heap.size w w' := by
  go_enter Try.func3, Try.ntmps3
  go_wp2_with fail
  refine (alive_any _).mono ?_
  rintro e w1 ⟨rfl, hb1⟩
  have HB1 := Lib.hid hb1
  clear hb1
  go_wp2_with fail
  go_ret
  exact ⟨rfl, HB1.out⟩
theorem decV_form (d : Option OpD) : ∃ (c a b n : Int) (F : Bool), decV d = .tuple #[.agg #[.int .i64 c, .int .i64 a, .int .i64 b, .int .i64 n], .bool F] := by
  rcases d with _ | ⟨c, a, b, n⟩
  · exact ⟨0, 0, 0, 0, false, rfl⟩
  · exact ⟨c, a, b, n, true, rfl⟩
theorem decodes_short (A : Option Addr) (len cap : Nat) (l : List UInt8) (at_ : Int) (w : World) (hr : RdB w A len cap l) (hl : len ≤ 3000) :
    Calls Try.prog 3 #[.slice A len cap, .int .i64 at_] w fun e w' => e = .returned (.bool true) ∧ Below w.heap.size w w' := by
  obtain ⟨c, a, b, n, F, hD⟩ := decV_form (decP l at_)
  have HD : ∀ W A cap, RdB W A len cap l → Calls Try.prog 10 #[.slice A len cap, .int .i64 at_] W fun e w' => e = .returned (.tuple #[.agg #[.int .i64 c, .int .i64 a, .int .i64 b, .int .i64 n], .bool F]) ∧ Below W.heap.size W w' := fun W A cap h => by
    have := dec_any h at_
    rw [hD] at this
    exact this
  have HRD : ∀ W A cap, RdB W A len cap l → Calls Try.prog 11 #[.slice A len cap, .int .i64 at_] W fun e w' => e = .returned (.tuple #[.agg #[.int .i64 c, .int .i64 a, .int .i64 b, .int .i64 n], .bool F]) ∧ Below W.heap.size W w' := fun W A cap h => by
    have := rdec_any h at_
    rw [hD] at this
    exact this
  have HD' := Lib.hid HD
  have HRD' := Lib.hid HRD
  have HR := Lib.hid hr
  have HL := Lib.hid hr.hlen
  have hcap := hr.hle
  clear HD HRD hr hD
  go_enter Try.func3, Try.ntmps3
  go_wp2_with fail
  refine (alive_any _).mono ?_
  rintro e w1 ⟨rfl, hb1⟩
  have HB1 := Lib.hid hb1
  have hz1 := hb1.size
  have HSRC := Lib.hid (HR.out.below hb1).src
  clear hb1
  go_wp2_with (at_builtin; refine wpl_own rfl _ _ 22 rfl Try.underlying22 info_u8 rfl (by omega) w.heap.size rfl (World.ownsRow_nil _ _ _ _) rfl (by rw [List.length_map, Nat.mul_one]; exact HL.out.symm) HSRC.out (bV_one l) (by simp only [maxLen]; omega) (by omega) hz1 ?_; intro v2 w2 ho2 hg2 hb2; refine stop_here ?_)
  have HO2 := Lib.hid ho2
  have HB2 := Lib.hid (HB1.out.trans hb2)
  have hz2 := HB2.out.size
  clear ho2 hg2 hb2
  refine go_on ?_
  go_wp2_with (at_builtin; refine wpl_lies rfl _ _ 22 rfl Try.underlying22 info_u8 rfl (by omega) w.heap.size rfl (HO2.out.alloc _) rfl rfl (fun _ => ⟨_, rfl, cells_new_at _ _ _ _ (by simp)⟩) (by simp [Value.oneCell']) (by omega) (by simp only [maxLen]; omega) (by omega) (by simp; omega) ?_; intro g k w3 ho3 hg3 hb3 hgg hlt3; refine stop_here ?_)
  have HO3 := Lib.hid (own_eq ho3 (show 0 + len + 1 = len + 1 by omega) (show _ = (l ++ [167]).map bV by rw [List.map_append]; rfl))
  have HB3 := Lib.hid ((HB2.out.alloc hz2 _).trans hb3)
  have hz3 := HB3.out.size
  clear ho3 hg3 hb3 hgg
  rw [show 0 + len + 1 = len + 1 by omega] at *
  refine go_on ?_
  have hk3 := (rdB_own HO3.out).hle
  have HRF := Lib.hid (((rdB_own HO3.out).take len (by omega)))
  rw [show List.take len (l ++ [(167 : UInt8)]) = l by rw [HL.out]; simp] at HRF
  go_wp2_with fail
  refine (HD'.out _ _ _ HRF.out).mono ?_
  rintro e w4 ⟨rfl, hb4⟩
  have HB4 := Lib.hid (HB3.out.trans (hb4.mono hz3))
  have HX4 := Lib.hid hb4
  have hz4 := HB4.out.size
  clear hb4
  go_wp2_with fail
  refine (HRD'.out _ _ _ ((HR.out.below HB4.out).alloc _)).mono ?_
  rintro e w5 ⟨rfl, hb5⟩
  have HB5 := Lib.hid ((HB4.out.alloc hz4 _).trans (hb5.mono (by simp; omega)))
  have HX5 := Lib.hid ((HX4.out.alloc HX4.out.size _).trans (hb5.mono (by have := HX4.out.size; simp; omega)))
  have hz5 := HB5.out.size
  have d0 := hb5.cell (p := ⟨w4.heap.size, 0, none⟩) (by simp)
  have d1 := hb5.cell (p := ⟨w4.heap.size, 1, none⟩) (by simp)
  have d2 := hb5.cell (p := ⟨w4.heap.size, 2, none⟩) (by simp)
  have d3 := hb5.cell (p := ⟨w4.heap.size, 3, none⟩) (by simp)
  simp [go_sem] at d0 d1 d2 d3
  have hz45 := hb5.size
  simp only [World.size_alloc] at hz45
  clear hb5
  obtain ⟨z1, z2, z3, z4, z5, z6, z7, z8, z9, z10, z11, z12⟩ := far w4.heap.size w5.heap.size (by omega)
  have hgl := (HO3.out.lt g rfl).2
  have hg5 : g < w5.heap.size := by have := HX5.out.size; omega
  obtain ⟨u1, u2, u3, u4, u5, u6, u7, u8, u9, u10, u11, u12⟩ := far g w5.heap.size hg5
  have f1 := HX5.out.cell (p := ⟨g, len, none⟩) hgl
  rw [HO3.out.cellAt len (by omega), bV_get _ _ (by rw [List.length_append, ← HL.out]; simp)] at f1
  rw [show byt (l ++ [167]) len = 167 by unfold byt; rw [HL.out]; simp] at f1
  go_wp2_with fail
  have hcv1 : ∀ (T : Obj) q, (convert 22 9 (.slice (some ⟨g, 0, none⟩) len k)).run Try.prog ((w5.alloc T).drewN q) = .ok (.string ⟨l.toArray⟩) ((w5.alloc T).drewN q) := fun T q => (((HRF.out.below HX5.out).alloc T).drewN q).str
  have hcv2 : ∀ (T : Obj) q, (convert 22 9 (.slice A len cap)).run Try.prog ((w5.alloc T).drewN q) = .ok (.string ⟨l.toArray⟩) ((w5.alloc T).drewN q) := fun T q => (((HR.out.below HB5.out).alloc T).drewN q).str
  go_quiet (fail)
  go_wp2_with fail
  go_ret
  exact ⟨rfl, below_drewN (HB5.out.alloc hz5 _) _⟩
theorem decodes_any (A : Option Addr) (len cap : Nat) (l : List UInt8) (at_ : Int) (w : World) (hr : RdB w A len cap l) :
    Calls Try.prog 3 #[.slice A len cap, .int .i64 at_] w fun e w' => e = .returned (.bool true) ∧ Below w.heap.size w w' := by
  by_cases hl : len ≤ 3000
  · exact decodes_short A len cap l at_ w hr hl
  · exact decodes_long A len cap at_ w (by omega) hr.hmax
end Go.Proofs.Ytgicbgeblgfnfaa
