/-
  turnstilelaw6.OpsRows answers true at every argument, and turns nothing that was there.
-/
import Derived.Test.YtgicbgeblgfnfaaAlive
import Derived.Test.YtgicbgeblgfnfaaRowsK
import Derived.Test.YtgicbgeblgfnfaaStill
set_option maxRecDepth 100000
set_option maxHeartbeats 4000000
set_option linter.unusedSimpArgs false
set_option linter.unusedVariables false
namespace Go.Proofs.Ytgicbgeblgfnfaa
open Go Go.RowKit Lib
theorem own_drew {w : World} {base : Nat} {e : TypeId} {size n : Nat} {v : Value} {xs : List Value} (h : w.ownsRow base e size v n xs) (q : Nat) : (w.drewN q).ownsRow base e size v n xs := own_heap h fun _ _ => rfl
theorem own_form {w : World} {base : Nat} {e : TypeId} {size n : Nat} {v : Value} {xs : List Value} (h : w.ownsRow base e size v n xs) : ∃ A cap, v = .slice A n cap := by
  rcases Nat.eq_zero_or_pos n with h0 | h0
  · rcases h.2 with ⟨rfl, _⟩ | ⟨g, cap, cur, rfl, _⟩
    · exact ⟨none, 0, by rw [h0]⟩
    · exact ⟨_, _, rfl⟩
  · obtain ⟨g, cap, rfl, _⟩ := h.form h0
    exact ⟨_, _, rfl⟩
theorem rows_long (A : Option Addr) (len cap : Nat) (w : World) (hl : 100 < len) (hm : len ≤ 9223372036854775807) :
    Calls Try.prog 8 #[.slice A len cap] w fun e w' => e = .returned (.bool true) ∧ Below w.heap.size w w' := by
  go_enter Try.func8, Try.ntmps8
  go_wp2_with fail
  refine (alive_any _).mono ?_
  rintro e w1 ⟨rfl, hb1⟩
  have HB1 := Lib.hid hb1
  clear hb1
  go_wp2_with fail
  go_ret
  exact ⟨rfl, HB1.out⟩
theorem rows_short (A : Option Addr) (len cap : Nat) (l : List OpD) (w : World) (hr : RdO w A len cap l) (hl : len ≤ 100) :
    Calls Try.prog 8 #[.slice A len cap] w fun e w' => e = .returned (.bool true) ∧ Below w.heap.size w w' := by
  have HR := Lib.hid hr
  have HL := Lib.hid hr.hlen
  have hcap := hr.hle
  clear hr
  go_enter Try.func8, Try.ntmps8
  go_wp2_with fail
  refine (alive_any _).mono ?_
  rintro e w1 ⟨rfl, hb1⟩
  have HB1 := Lib.hid hb1
  clear hb1
  go_wp2_with fail
  go_loopw [4, 5, 6] (fun b wn i wr => ∃ k : Nat, i = .int .i64 k ∧ k ≤ len ∧ Hid (wr.ownsRow w.heap.size 5 1 b (byts (encs (l.take k))).length ((byts (encs (l.take k))).map bV)) ∧ Hid (wr.ownsRow w.heap.size 25 4 wn (encs (l.take k)).length (opCells (encs (l.take k)))) ∧ Hid (∀ g, b.ownBlock = some g → wn.ownBlock ≠ some g) ∧ Hid (Below w.heap.size w wr)) (fun _ _ i _ => len - (intOf i).toNat)
  case atStart => exact ⟨0, rfl, by omega, (by first | exact World.ownsRow_nil _ _ _ _ | exact Lib.hid (World.ownsRow_nil _ _ _ _)), (by first | exact World.ownsRow_nil _ _ _ _ | exact Lib.hid (World.ownsRow_nil _ _ _ _)), Lib.hid (fun g h => by simp [Value.ownBlock] at h), (by first | exact HB1 | exact HB1.out)⟩
  case round =>
    obtain ⟨k, rfl, hk, HO, HP, HN, HB⟩ := hrel
    have hzr := HB.out.size
    by_cases hlt : k < len
    · obtain ⟨b0, off, rfl, hb0, hc⟩ := HR.out.hat (by omega)
      obtain ⟨c, a, b', n, ho⟩ : ∃ c a b' n, l.getD k op0 = (c, a, b', n) := ⟨_, _, _, _, rfl⟩
      have hck := hc k hlt
      rw [ho] at hck
      have x0 := (HB.out.cell (p := ⟨b0, off + k * 4, none⟩) hb0).trans hck.1
      have x1 := (HB.out.cell (p := ⟨b0, off + (k * 4 + 1), none⟩) hb0).trans hck.2.1
      have x2 := (HB.out.cell (p := ⟨b0, off + (k * 4 + 2), none⟩) hb0).trans hck.2.2.1
      have x3 := (HB.out.cell (p := ⟨b0, off + (k * 4 + 3), none⟩) hb0).trans hck.2.2.2
      simp only [← Nat.add_assoc] at x1 x2 x3
      simp only at x0 x1 x2 x3
      have HC := Lib.hid hck
      clear hc hck
      rcases hE : encP c a b' with _ | bs
      · have HE : ∀ W, Calls Try.prog 16 #[.agg #[.int .i64 c, .int .i64 a, .int .i64 b', .int .i64 n]] W fun e w' => e = .returned (.tuple #[.slice none 0 0, .bool false]) ∧ Below W.heap.size W w' := fun W => by
          have := enc_any c a b' n W
          rw [hE] at this
          exact this
        have HE' := Lib.hid HE
        have HS := Lib.hid (encs_none (l := l) (k := k) (by rw [← HL.out]; exact hlt) (by rw [ho]; exact hE))
        clear HE hE ho
        go_wp2_with (go_at_call 16; refine (HE'.out _).mono ?_; rintro e w3 ⟨rfl, hb3⟩; refine stop_here ?_)
        have HB3 := Lib.hid (HB.out.trans (hb3.mono hzr))
        have HO3 := Lib.hid (own_heap HO.out fun q hq => hb3.block q (HO.out.lt q hq).2)
        have HP3 := Lib.hid (own_heap HP.out fun q hq => hb3.block q (HP.out.lt q hq).2)
        clear hb3 x0 x1 x2 x3
        refine go_on ?_
        go_wp2_with fail
        go_roundw
        case rel => exact ⟨k + 1, by go_num, by omega, by rw [HS.out]; exact HO3, by rw [HS.out]; exact HP3, HN, HB3⟩
        case measure => simp [intOf]; omega
      · have HE : ∀ W, Calls Try.prog 16 #[.agg #[.int .i64 c, .int .i64 a, .int .i64 b', .int .i64 n]] W fun e w' => (∃ g k, e = .returned (.tuple #[.slice (some ⟨g, 0, none⟩) bs.length k, .bool true]) ∧ w'.ownsRow W.heap.size 5 1 (.slice (some ⟨g, 0, none⟩) bs.length k) bs.length (bs.map bV)) ∧ Below W.heap.size W w' := fun W => by
          have := enc_any c a b' n W
          rw [hE] at this
          exact this
        have HE' := Lib.hid HE
        have HS := Lib.hid (encs_some (l := l) (k := k) (by rw [← HL.out]; exact hlt) (by rw [ho]; exact hE))
        rw [ho] at HS
        have hbl := encP_long hE
        have hnb := encs_bytes (l.take k)
        have hne := encs_length (l.take k)
        rw [List.length_take] at hnb hne
        clear HE hE ho
        go_wp2_with (go_at_call 16; refine (HE'.out _).mono ?_; rintro e w3 ⟨⟨g, kc, rfl, hoc⟩, hb3⟩; refine stop_here ?_)
        have HB3 := Lib.hid (HB.out.trans (hb3.mono hzr))
        have hz3 := HB3.out.size
        have HO3 := Lib.hid (own_heap HO.out fun q hq => hb3.block q (HO.out.lt q hq).2)
        have HP3 := Lib.hid (own_heap HP.out fun q hq => hb3.block q (HP.out.lt q hq).2)
        have HSRC := Lib.hid (rdB_own hoc).src
        clear hb3 x0 x1 x2 x3 hoc
        refine go_on ?_
        go_wp2_with (at_builtin; refine wpl_lies rfl _ _ 22 rfl Try.underlying22 info_u8 rfl (by omega) w.heap.size rfl HO3.out rfl (by rw [List.length_map, Nat.mul_one]) HSRC.out (bV_one bs) (by omega) (by simp only [maxLen]; omega) (by omega) hz3 ?_; intro g4 k4 w4 ho4 hg4 hb4 hgg4 hlt4; refine stop_here ?_)
        have HB4 := Lib.hid (HB3.out.trans hb4)
        have hz4 := HB4.out.size
        have HO4 := Lib.hid ho4
        have HP4 := Lib.hid (own_heap HP3.out fun q hq => hg4.block q (HP3.out.lt q hq).2 (fun e => HN.out q e.symm hq))
        have HN4 : ∀ q, u5.ownBlock = some q → q ≠ g4 := fun q hq e => by
          subst e
          rcases hgg4 with h | h
          · exact HN.out _ h hq
          · have := (HP3.out.lt _ hq).2
            omega
        have HN4 := Lib.hid HN4
        have hz34 := hg4.size
        clear ho4 hg4 hb4 hgg4
        have x0 := (HB4.out.cell (p := ⟨b0, off + k * 4, none⟩) hb0).trans HC.out.1
        have x1 := (HB4.out.cell (p := ⟨b0, off + (k * 4 + 1), none⟩) hb0).trans HC.out.2.1
        have x2 := (HB4.out.cell (p := ⟨b0, off + (k * 4 + 2), none⟩) hb0).trans HC.out.2.2.1
        simp only [← Nat.add_assoc] at x1 x2
        refine go_on ?_
        go_wp2_with fail
        refine wp_region_float 19 [0] (by kernel_rfl) (by kernel_rfl) (fun c a w d v h => by cases d <;> exact h) ?_
        simp only [List.take_succ_cons, List.take_zero, List.drop_succ_cons, List.drop_zero]
        repeat go_big_quiet_step (fail)
        refine wpQuiet_nil ?_
        go_wp2_with (at_builtin; refine wpl_lies rfl _ _ 38 rfl Try.underlying38 info_op rfl (by omega) w.heap.size rfl ((own_drew HP4.out 1).alloc _) rfl rfl (fun _ => ⟨_, rfl, cells_new_at _ _ _ _ (by simp)⟩) (by simp [Value.oneCell']) (by omega) (by simp only [maxLen]; omega) (by omega) (by simp; omega) ?_; intro g5 k5 w5 ho5 hg5 hb5 hgg5 hlt5; refine stop_here ?_)
        have hz5 := hb5.size
        have hzd : (w4.drewN 1).heap.size = w4.heap.size := rfl
        simp only [World.size_alloc, hzd] at hz5 hgg5
        have HB5 := Lib.hid (((below_drewN HB4.out 1).alloc (by simp; omega) _).trans hb5)
        have HP5 := Lib.hid ho5
        have HO5 := Lib.hid (own_heap ((own_drew HO4.out 1).alloc _) fun q hq => hg5.block q (by simp; have := (HO4.out.lt q hq).2; omega) (fun e => by
          have e2 : u5.ownBlock = some q := e.symm
          injection hq with hq
          exact HN4.out q e2 hq.symm))
        have HN5 : ∀ q, (Value.slice (some ⟨g4, 0, none⟩) ((byts (encs (l.take k))).length + bs.length) k4).ownBlock = some q → (Value.slice (some ⟨g5, 0, none⟩) ((encs (l.take k)).length + 1) k5).ownBlock ≠ some q := fun q hq e => by
          have hq : g4 = q := by simpa [Value.ownBlock] using hq
          have e : g5 = q := by simpa [Value.ownBlock] using e
          rcases hgg5 with h | h
          · exact HN4.out _ h (by omega)
          · omega
        have HN5 := Lib.hid HN5
        clear ho5 hg5 hb5 hgg5 x0 x1 x2
        refine go_on ?_
        go_wp2_with fail
        go_roundw
        case rel =>
          refine ⟨k + 1, by go_num, by omega, ?_, ?_, HN5, HB5⟩
          · rw [HS.out]
            refine Lib.hid (own_eq HO5.out ?_ ?_)
            · simp [byts]
            · simp [byts]
          · rw [HS.out]
            refine Lib.hid (own_eq HP5.out ?_ ?_)
            · simp
            · simp [opCells]
        case measure => simp [intOf]; omega
    · have ht : l.take k = l := List.take_of_length_le (by rw [← HL.out]; omega)
      rw [ht] at HO HP
      obtain ⟨A4, cap4, rfl, hrd⟩ := own_rd HO.out
      obtain ⟨A5, cap5, rfl⟩ := own_form HP.out
      have HRD := Lib.hid hrd
      have hcb := encs_bytes l
      rw [← HL.out] at hcb
      have hcb2 : (byts (encs l)).length ≤ 500 := by omega
      have hce := encs_length l
      rw [← HL.out] at hce
      clear hrd HO HN ht hcb
      go_wp2_with fail
      go_loopw [9, 10] (fun at_ i wr2 => ∃ j : Nat, i = .int .i64 j ∧ j ≤ (encs l).length ∧ at_ = .int .i64 ((byts ((encs l).take j)).length : Nat) ∧ Hid (Below wr.heap.size wr wr2)) (fun _ i _ => (encs l).length - (intOf i).toNat)
      case atStart => exact ⟨0, rfl, by omega, rfl, (by first | exact Below.refl _ _ | exact Lib.hid (Below.refl _ _))⟩
      case round =>
        obtain ⟨j, rfl, hj, rfl, HB2⟩ := hrel
        have hz2 := HB2.out.size
        by_cases hlj : j < (encs l).length
        · obtain ⟨x, hx⟩ : ∃ x, (encs l)[j]? = some x := ⟨_, List.getElem?_eq_getElem hlj⟩
          have hd := dec_nth hx
          have hm := encs_mem (List.mem_of_getElem? hx)
          obtain ⟨⟨c, a, b', n⟩, bs⟩ := x
          simp only at hm hd
          obtain ⟨hen, rfl⟩ := hm
          have hsp := byts_split _ j _ hx
          have hsl : (byts ((encs l).take j)).length + bs.length ≤ 500 := by
            have := congrArg List.length hsp.1
            simp only [List.length_append] at this
            omega
          have HD : ∀ W, RdB W A4 (byts (encs l)).length cap4 (byts (encs l)) → Calls Try.prog 10 #[.slice A4 (byts (encs l)).length cap4, .int .i64 ((byts ((encs l).take j)).length : Nat)] W fun e w' => e = .returned (.tuple #[.agg #[.int .i64 c, .int .i64 a, .int .i64 b', .int .i64 bs.length], .bool true]) ∧ Below W.heap.size W w' := fun W h => by
            have := dec_any h ((byts ((encs l).take j)).length : Nat)
            rw [hd] at this
            exact this
          have HD' := Lib.hid HD
          have HSP := Lib.hid hsp
          have HX := Lib.hid (opCells_get _ _ _ hx)
          clear HD hd hen hx hsp
          obtain ⟨g5, cp, he5, _, hg5⟩ := HP.out.form (by omega)
          injection he5 with he5 _ hcp
          subst he5
          subst hcp
          go_wp2_with (go_at_call 10; refine (HD'.out _ (HRD.out.below HB2.out)).mono ?_; rintro e w3 ⟨rfl, hb3⟩; refine stop_here ?_)
          have HB3 := Lib.hid (HB2.out.trans (hb3.mono hz2))
          have hz3 := HB3.out.size
          have HP3 := Lib.hid (own_heap HP.out fun q hq => HB3.out.block q (HP.out.lt q hq).2)
          have hw3 := HB.out.size
          clear hb3
          have q0 := (HP3.out.cellAt (j * 4) (by omega)).trans HX.out.1
          have q1 := (HP3.out.cellAt (j * 4 + 1) (by omega)).trans HX.out.2.1
          have q2 := (HP3.out.cellAt (j * 4 + 2) (by omega)).trans HX.out.2.2.1
          have q3 := (HP3.out.cellAt (j * 4 + 3) (by omega)).trans HX.out.2.2.2
          obtain ⟨z1, z2, z3, z4, z5, z6, z7, z8, z9, z10, z11, z12⟩ := far g5 w3.heap.size (by omega)
          refine go_on ?_
          go_wp2_with fail
          go_quiet (fail)
          go_wp2_with fail
          go_roundw
          case rel =>
            refine ⟨j + 1, by go_num, by omega, ?_, Lib.hid (below_drewN (HB3.out.alloc hz3 _) _)⟩
            rw [HSP.out.2, List.length_append]
            first | rfl | (congr 1; omega) | (simp; done)
          case measure => simp [intOf]; omega
        · have ht : (encs l).take j = encs l := List.take_of_length_le (by omega)
          have HD : ∀ W, RdB W A4 (byts (encs l)).length cap4 (byts (encs l)) → Calls Try.prog 10 #[.slice A4 (byts (encs l)).length cap4, .int .i64 (byts (encs l)).length] W fun e w' => e = .returned (.tuple #[.agg #[.int .i64 0, .int .i64 0, .int .i64 0, .int .i64 0], .bool false]) ∧ Below W.heap.size W w' := fun W h => by
            have := dec_any h ((byts (encs l)).length : Nat)
            rw [dec_end] at this
            exact this
          have HD' := Lib.hid HD
          clear HD
          rw [ht]
          go_wp2_with (go_at_call 10; refine (HD'.out _ (HRD.out.below HB2.out)).mono ?_; rintro e w3 ⟨rfl, hb3⟩; refine stop_here ?_)
          have HB3 := Lib.hid (HB.out.trans ((HB2.out.trans (hb3.mono hz2)).mono hzr))
          have hz3 := HB3.out.size
          clear hb3
          refine go_on ?_
          go_wp2_with fail
          go_ret
          exact ⟨rfl, HB3.out.alloc hz3 _⟩
theorem rows_any (A : Option Addr) (len cap : Nat) (l : List OpD) (w : World) (hr : RdO w A len cap l) :
    Calls Try.prog 8 #[.slice A len cap] w fun e w' => e = .returned (.bool true) ∧ Below w.heap.size w w' := by
  by_cases hl : len ≤ 100
  · exact rows_short A len cap l w hr hl
  · exact rows_long A len cap w (by omega) hr.hmax
end Go.Proofs.Ytgicbgeblgfnfaa
