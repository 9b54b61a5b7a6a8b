/-
  turnstilelaw6.OpsEncodes answers true at every argument, and turns nothing that was there.
-/
import Derived.Test.YtgicbgeblgfnfaaAlive
import Derived.Test.YtgicbgeblgfnfaaREncP
import Derived.Test.YtgicbgeblgfnfaaRowsK
set_option maxRecDepth 100000
set_option maxHeartbeats 4000000
set_option linter.unusedSimpArgs false
set_option linter.unusedVariables false
namespace Go.Proofs.Ytgicbgeblgfnfaa
open Go Go.RowKit Lib
theorem encR_rd {W w' : World} {e : Ending} {d : Option (List UInt8)} (h : EncR W w' e d) : ∃ A cap, e = .returned (.tuple #[.slice A (d.getD []).length cap, .bool d.isSome]) ∧ RdB w' A (d.getD []).length cap (d.getD []) := by
  rcases d with _ | l
  · exact ⟨none, 0, h, rfl, Nat.le_refl _, by simp, fun h0 => absurd h0 (by simp)⟩
  · obtain ⟨g, cap, he, ho⟩ := h
    exact ⟨_, _, he, rdB_own ho⟩
theorem encR_own {W w' : World} {e : Ending} {d : Option (List UInt8)} (h : EncR W w' e d) : ∃ A cap n, ∃ xs : List Int, ∃ F, e = .returned (.tuple #[.slice A n cap, .bool F]) ∧ w'.ownsRow W.heap.size 5 1 (.slice A n cap) n (xs.map (Value.int .u8)) := by
  rcases d with _ | l
  · exact ⟨none, 0, 0, [], false, h, World.ownsRow_nil _ _ _ _⟩
  · obtain ⟨g, cap, he, ho⟩ := h
    refine ⟨_, _, _, l.map (fun x => (x.toNat : Int)), true, he, own_eq ho rfl ?_⟩
    rw [List.map_map]
    rfl
theorem own_max {w : World} {base : Nat} {e : TypeId} {size n cap : Nat} {A : Option Addr} {xs : List Value} (h : w.ownsRow base e size (.slice A n cap) n xs) : n ≤ 9223372036854775807 := by
  rcases h.2 with ⟨_, h0⟩ | ⟨g, cap', cur, hv, _, _, h1, h2, _⟩
  · omega
  · unfold maxLen at h2
    omega
theorem encodes_any (c a b n c' a' b' n' : Int) (w : World) :
    Calls Try.prog 6 #[.agg #[.int .i64 c, .int .i64 a, .int .i64 b, .int .i64 n], .agg #[.int .i64 c', .int .i64 a', .int .i64 b', .int .i64 n']] w fun e w' => e = .returned (.bool true) ∧ Below w.heap.size w w' := by
  obtain ⟨L, F, hL⟩ : ∃ L F, L = (encP c a b).getD [] ∧ F = (encP c a b).isSome := ⟨_, _, rfl, rfl⟩
  have HE : ∀ W, Calls Try.prog 16 #[.agg #[.int .i64 c, .int .i64 a, .int .i64 b, .int .i64 n]] W fun e w' => (∃ A cap, e = .returned (.tuple #[.slice A L.length cap, .bool F]) ∧ RdB w' A L.length cap L) ∧ Below W.heap.size W w' := fun W => by
    rw [hL.1, hL.2]
    exact (enc_any c a b n W).mono fun e w' h => ⟨encR_rd h.1, h.2⟩
  have HRE : ∀ W, Calls Try.prog 17 #[.agg #[.int .i64 c, .int .i64 a, .int .i64 b, .int .i64 n]] W fun e w' => (∃ A cap, e = .returned (.tuple #[.slice A L.length cap, .bool F]) ∧ RdB w' A L.length cap L) ∧ Below W.heap.size W w' := fun W => by
    rw [hL.1, hL.2]
    exact (renc_any c a b n W).mono fun e w' h => ⟨encR_rd h.1, h.2⟩
  have HO : ∀ W, Calls Try.prog 16 #[.agg #[.int .i64 c', .int .i64 a', .int .i64 b', .int .i64 n']] W fun e w' => (∃ A cap m, ∃ xs : List Int, ∃ F, e = .returned (.tuple #[.slice A m cap, .bool F]) ∧ w'.ownsRow W.heap.size 5 1 (.slice A m cap) m (xs.map (Value.int .u8))) ∧ Below W.heap.size W w' := fun W =>
    (enc_any c' a' b' n' W).mono fun e w' h => ⟨encR_own h.1, h.2⟩
  have HE' := Lib.hid HE
  have HRE' := Lib.hid HRE
  have HO' := Lib.hid HO
  clear HE HRE HO hL
  go_enter Try.func6, Try.ntmps6
  go_wp2_with fail
  refine (alive_any _).mono ?_
  rintro e w1 ⟨rfl, hb1⟩
  have HB1 := Lib.hid ((((Below.refl w.heap.size w).alloc (Nat.le_refl _) _).alloc (by simp) _).trans (hb1.mono (by simp; omega)))
  have d0 := hb1.cell (p := ⟨w.heap.size, 0, none⟩) (by simp; omega)
  have d1 := hb1.cell (p := ⟨w.heap.size, 1, none⟩) (by simp; omega)
  have d2 := hb1.cell (p := ⟨w.heap.size, 2, none⟩) (by simp; omega)
  have d3 := hb1.cell (p := ⟨w.heap.size, 3, none⟩) (by simp; omega)
  have e0 := hb1.cell (p := ⟨w.heap.size + 1, 0, none⟩) (by simp)
  have e1 := hb1.cell (p := ⟨w.heap.size + 1, 1, none⟩) (by simp)
  have e2 := hb1.cell (p := ⟨w.heap.size + 1, 2, none⟩) (by simp)
  have e3 := hb1.cell (p := ⟨w.heap.size + 1, 3, none⟩) (by simp)
  simp [go_sem] at d0 d1 d2 d3 e0 e1 e2 e3
  have hz1 := hb1.size
  simp only [World.size_alloc] at hz1
  clear hb1
  go_wp2_with fail
  refine (HE'.out _).mono ?_
  rintro e w2 ⟨⟨A2, k2, rfl, hr2⟩, hb2⟩
  have HB2 := Lib.hid (HB1.out.trans (hb2.mono (by omega)))
  have HR2 := Lib.hid hr2
  have hz2 := hb2.size
  have d0 := (hb2.cell (p := ⟨w.heap.size, 0, none⟩) (by show w.heap.size < _; omega)).trans d0
  have d1 := (hb2.cell (p := ⟨w.heap.size, 1, none⟩) (by show w.heap.size < _; omega)).trans d1
  have d2 := (hb2.cell (p := ⟨w.heap.size, 2, none⟩) (by show w.heap.size < _; omega)).trans d2
  have d3 := (hb2.cell (p := ⟨w.heap.size, 3, none⟩) (by show w.heap.size < _; omega)).trans d3
  have e0 := (hb2.cell (p := ⟨w.heap.size + 1, 0, none⟩) (by show w.heap.size + 1 < _; omega)).trans e0
  have e1 := (hb2.cell (p := ⟨w.heap.size + 1, 1, none⟩) (by show w.heap.size + 1 < _; omega)).trans e1
  have e2 := (hb2.cell (p := ⟨w.heap.size + 1, 2, none⟩) (by show w.heap.size + 1 < _; omega)).trans e2
  have e3 := (hb2.cell (p := ⟨w.heap.size + 1, 3, none⟩) (by show w.heap.size + 1 < _; omega)).trans e3
  have hk2 := hr2.hle
  clear hb2 hr2
  go_wp2_with fail
  refine (HO'.out _).mono ?_
  rintro e w3 ⟨⟨A3, k3, m, xs, F3, rfl, ho3⟩, hb3⟩
  have HX3 := Lib.hid hb3
  have HO3 := Lib.hid ho3
  have hz3 := hb3.size
  have hm3 := own_max ho3
  clear hb3 ho3 e0 e1 e2 e3
  go_wp2_with fail
  go_loopw [10] (fun i wr => ∃ j : Nat, i = .int .i64 j ∧ j ≤ m ∧ Hid (Below w2.heap.size w2 wr) ∧ Hid (∃ ys : List Int, wr.ownsRow w2.heap.size 5 1 (.slice A3 m k3) m (ys.map (Value.int .u8)))) (fun i _ => m - (intOf i).toNat)
  case atStart => exact ⟨0, rfl, by omega, (by first | exact HX3 | exact HX3.out), (by first | exact Lib.hid ⟨xs, HO3.out⟩ | exact ⟨xs, HO3.out⟩)⟩
  case round =>
    obtain ⟨j, rfl, hj, HX, HY⟩ := hrel
    have hzx := HX.out.size
    by_cases hlt : j < m
    · obtain ⟨ys, hy⟩ := HY.out
      obtain ⟨g, cp, he3, hg0, hg1⟩ := hy.form (by omega)
      injection he3 with he3 _ hcp
      subst he3
      subst hcp
      have hyl : ys.length = m := by
        have := hy.1
        simpa using this
      have c0 := hy.cellAt j (by omega)
      rw [List.getElem?_map, List.getElem?_eq_getElem (by omega)] at c0
      simp only [Option.map_some] at c0
      obtain ⟨q, hq⟩ : ∃ q, q = ys[j]'(by omega) := ⟨_, rfl⟩
      rw [← hq] at c0
      have f0 := hy.frozenAt j
      have HYS := Lib.hid (fun u => (hy.stored j (Value.int .u8 u)).1)
      clear hq hy
      go_wp2_with fail
      go_roundw
      case rel => exact ⟨j + 1, by go_num, by omega, Lib.hid (HX.out.setCell hg0 _), Lib.hid ⟨_, own_eq (HYS.out _) rfl List.map_set.symm⟩⟩
      case measure => simp [intOf]; omega
    · have d0 := (HX.out.cell (p := ⟨w.heap.size, 0, none⟩) (by show w.heap.size < _; omega)).trans d0
      have d1 := (HX.out.cell (p := ⟨w.heap.size, 1, none⟩) (by show w.heap.size < _; omega)).trans d1
      have d2 := (HX.out.cell (p := ⟨w.heap.size, 2, none⟩) (by show w.heap.size < _; omega)).trans d2
      have d3 := (HX.out.cell (p := ⟨w.heap.size, 3, none⟩) (by show w.heap.size < _; omega)).trans d3
      go_wp2_with fail
      refine (HRE'.out _).mono ?_
      rintro e w5 ⟨⟨A5, k5, rfl, hr5⟩, hb5⟩
      have hcv1 := ((HR2.out.below HX.out).below hb5).str
      have hcv2 := hr5.str
      have HB5 := Lib.hid (HB2.out.trans ((HX.out.trans (hb5.mono hzx)).mono HB2.out.size))
      clear hb5 hr5
      go_wp2_with fail
      go_ret
      exact ⟨rfl, HB5.out⟩
end Go.Proofs.Ytgicbgeblgfnfaa
