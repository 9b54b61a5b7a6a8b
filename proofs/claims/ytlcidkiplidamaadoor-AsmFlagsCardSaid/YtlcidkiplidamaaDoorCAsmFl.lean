/-
  AsmFlags: each flag's word sets its flag, whatever their order; one that stands twice is refused.
-/
import Derived.Test.YtlcidkiplidamaaDoorCAsmAl
import Derived.Test.YtlcidkiplidamaaDoorB30
set_option linter.unusedSimpArgs false
set_option linter.unusedVariables false
set_option maxRecDepth 100000
set_option maxHeartbeats 8000000
namespace Go.Proofs.YtlcidkiplidamaaDoor
open Go Go.RowKit Lib Go.Maps
def FlRes (n : Nat) (b c : Bool) (r : Except (Nat × Int) ClassV) : Prop := aAsm checkF (bytesB (flText n b c)) = r ∧ match r with
  | .error (l, e) => decide (c = true ∧ (flS n b 3).2.2 ≠ []) = true ∧ e = 60 ∧ l = 1
  | .ok k => decide (c = true ∧ (flS n b 3).2.2 ≠ []) = false ∧ k.acc = (flS n b 3).2.1 ∧ k.this = 2 ∧ k.sup = 4
theorem flRes (n : Nat) (hn : n < 8) (b c : Bool) : ∃ r, FlRes n b c r := by
  have h := flags_plain n hn b c
  unfold flOk at h
  refine ⟨_, rfl, ?_⟩
  cases hr : aAsm checkF (bytesB (flText n b c)) with
  | error p =>
    rw [hr] at h
    obtain ⟨l, e⟩ := p
    simp only [Bool.and_eq_true, decide_eq_true_eq] at h
    exact ⟨by simpa using h.1.1, h.1.2, h.2⟩
  | ok k =>
    rw [hr] at h
    simp only [Bool.and_eq_true, Bool.not_eq_true', decide_eq_true_eq] at h
    exact ⟨h.1.1.1, h.1.1.2, h.1.2, h.2⟩
def FlDone (w : World) (n : Nat) (b c : Bool) (e : Ending) (w' : World) : Prop := Below w.heap.size w w' ∧
  ((decide (c = true ∧ (flS n b 3).2.2 ≠ []) = true ∧ e = .returned (.tuple #[.agg zeroA.toArray, .int .i64 1, .int .i64 60])) ∨
   (decide (c = true ∧ (flS n b 3).2.2 ≠ []) = false ∧ ∃ (v x y : Int) (A1 A2 A3 A4 : Option Addr) (n1 k1 n2 k2 n3 k3 n4 k4 : Nat), v = (flS n b 3).2.1 ∧ e = .returned (.tuple #[.agg #[.int .i64 x, .int .i64 y, .slice A1 n1 k1, .int .i64 v, .int .i64 2, .int .i64 4, .slice A2 n2 k2, .slice A3 n3 k3, .slice A4 n4 k4], .int .i64 0, .int .i64 0])))
theorem flAsm (n : Nat) (hn : n < 8) (b c : Bool) (mx : Int) (w : World) (hmx : w.cell? ⟨Tryd.maxB, 0, none⟩ = some (.int .i64 mx)) (hz : (flText n b c).length ≤ 65536) :
    Calls Tryd.prog 7 #[.string (bytesB (flText n b c))] w (FlDone w n b c) := by
  have hsz : (bytesB (flText n b c)).size ≤ 65536 := by
    have : (bytesB (flText n b c)).size = (flText n b c).length := by simp [bytesB, ByteArray.size]
    omega
  obtain ⟨r, h1, h2⟩ := flRes n hn b c
  refine (asm_all (bytesB (flText n b c)) mx w hmx (by omega) (fun s hs => .inr (Nat.le_trans (line_le hs) hsz))).mono ?_
  intro e w' hq
  rw [h1] at hq
  cases r with
  | error p =>
    obtain ⟨l, er⟩ := p
    obtain ⟨h3, rfl, rfl⟩ := h2
    exact ⟨hq.1, .inl ⟨h3, hq.2⟩⟩
  | ok k =>
    obtain ⟨h3, h4, h5, h6⟩ := h2
    obtain ⟨hb, ρ, B, kb, σ, V, hB, hσ, hsm, hk, he⟩ := hq
    obtain ⟨A1, k1, e1⟩ := own_slice hk.pool.1
    obtain ⟨A2, k2, e2⟩ := own_slice hk.ifs.1
    obtain ⟨A3, k3, e3⟩ := own_slice hk.flds.1
    obtain ⟨ms, m1, m2, m3⟩ := hk.mths
    obtain ⟨A4, k4, e4⟩ := own_slice m2.1
    refine ⟨hb, .inr ⟨h3, k.acc, k.minor, k.major, A1, A2, A3, A4, σ.c.pool.length, k1, σ.c.ifs.length, k2, σ.c.flds.length, k3, ms.length, k4, h4, ?_⟩⟩
    rw [he, e1, e2, e3, e4]
    unfold ClassV.cells
    rw [h5, h6]
theorem calls_cast {P : Program} {f : FuncId} {args args' : Array Value} {w : World} {R : Ending → World → Prop} (h : args' = args) (hc : Calls P f args w R) : Calls P f args' w R := h ▸ hc
theorem lawFlags_any (a : Int) (b c : Bool) (mx : Int) (w : World) (ha : (Lit.int .i64 a).wf = true) (hmx : w.cell? ⟨Tryd.maxB, 0, none⟩ = some (.int .i64 mx)) :
    Calls Tryd.prog 5 #[.int .i64 a, .bool b, .bool c] w fun e w' => e = .returned (.bool true) ∧ Below w.heap.size w w' := by
  have HAL := Lib.hid (alive_asm mx w hmx)
  have hxw : Tryd.maxB < w.heap.size := World.block_lt_of_cell? _ _ hmx
  have HMX := Lib.hid hmx
  clear hmx ha
  rcases Int.lt_or_le a 0 with h1 | h1
  · go_enter Tryd.func5, Tryd.ntmps5
    go_wp2_with (go_at_call 6; refine HAL.out.mono ?_; rintro e w1 ⟨rfl, hb1⟩)
    go_ret
    exact ⟨rfl, hb1⟩
  rcases Int.lt_or_le 7 a with h2 | h2
  · go_enter Tryd.func5, Tryd.ntmps5
    go_wp2_with (go_at_call 6; refine HAL.out.mono ?_; rintro e w1 ⟨rfl, hb1⟩)
    go_ret
    exact ⟨rfl, hb1⟩
  obtain ⟨n, rfl⟩ := Int.eq_ofNat_of_zero_le h1
  have hn : n < 8 := by omega
  have HFL := Lib.hid (fun (W : World) (h : W.cell? ⟨Tryd.maxB, 0, none⟩ = some (.int .i64 mx)) (hz : (flText n b c).length ≤ 65536) => flAsm n hn b c mx W h hz)
  clear h1 h2
  obtain rfl | rfl | rfl | rfl | rfl | rfl | rfl | rfl : n = 0 ∨ n = 1 ∨ n = 2 ∨ n = 3 ∨ n = 4 ∨ n = 5 ∨ n = 6 ∨ n = 7 := by omega
  all_goals cases b <;> cases c
  all_goals clear hn
  have q0 : bits .and .i64 0 1 = 0 := by kernel_rfl
  all_goals
    have q1 : bits .and .i64 1 1 = 1 := by kernel_rfl
    have q2 : bits .and .i64 2 1 = 0 := by kernel_rfl
    have q3 : bits .and .i64 3 1 = 1 := by kernel_rfl
    have q4 : bits .and .i64 4 1 = 0 := by kernel_rfl
    have q5 : bits .and .i64 5 1 = 1 := by kernel_rfl
    have q6 : bits .and .i64 6 1 = 0 := by kernel_rfl
    have q7 : bits .and .i64 7 1 = 1 := by kernel_rfl
  all_goals
    go_enter Tryd.func5, Tryd.ntmps5
    go_wp2_with (go_at_call 6; refine stop_here ?_)
    refine go_on ?_
    refine HAL.out.mono ?_
    rintro e w1 ⟨rfl, hb1⟩
    have HB1 := Lib.hid hb1
    have hz1 := hb1.size
    clear hb1
    go_wp2_with fail
    refine wp_loop_rounds 4 ?_
    rw [rounds_succ]
    go_wp2_with fail
    rw [rounds_succ]
    go_wp2_with fail
    rw [rounds_succ]
    go_wp2_with fail
    rw [rounds_succ]
    go_wp2_with (go_at_call 7; refine stop_here ?_)
    refine go_on ?_
    have HB2 := Lib.hid ((HB1.out.alloc hz1 (.cells #[.string ⟨#[112, 117, 98, 108, 105, 99]⟩, .string ⟨#[102, 105, 110, 97, 108]⟩, .string ⟨#[115, 117, 112, 101, 114]⟩] 9)).alloc (by simp; omega) (.cells #[.int .i64 1, .int .i64 16, .int .i64 32] 3))
    refine (calls_cast (by kernel_rfl) (HFL.out _ ((HB2.out.cell (p := ⟨Tryd.maxB, 0, none⟩) hxw).trans HMX.out) (by decide))).mono ?_
    rintro e w5 ⟨hb5, ⟨hd, he⟩ | ⟨hd, v, x, y, A1, A2, A3, A4, n1, k1, n2, k2, n3, k3, n4, k4, hv, he⟩⟩
    · first
        | (exfalso; revert hd; decide)
        | (have HB5 := Lib.hid (HB2.out.trans (hb5.mono (by simp; omega)))
           have hz5 := HB5.out.size
           have hzz : Value.agg zeroA.toArray = .agg #[.int .i64 0, .int .i64 0, .slice none 0 0, .int .i64 0, .int .i64 0, .int .i64 0, .slice none 0 0, .slice none 0 0, .slice none 0 0] := rfl
           rw [he, hzz]
           clear hb5 he hzz hd HFL
           go_wp2_with (go_at_call 8; refine (num_any _ _).mono ?_; rintro e w9 ⟨rfl, rfl⟩)
           go_ret
           exact ⟨rfl, HB5.out.alloc (by omega) _⟩)
    · first
        | (exfalso; revert hd; decide)
        | (have HB5 := Lib.hid (HB2.out.trans (hb5.mono (by simp; omega)))
           have hz5 := HB5.out.size
           have XZ := Lib.hid (show Bx (w5.alloc (.cells #[.int .i64 0, .int .i64 0, .slice none 0 0, .int .i64 0, .int .i64 0, .int .i64 0, .slice none 0 0, .slice none 0 0, .slice none 0 0] 29)) w5.heap.size zeroA 29 from bx_new w5 zeroA 29)
           have HV := Lib.hid hv
           rw [he]
           clear hb5 he hd HFL hv
           go_wp2_with (refine wpList_store_row rfl _ _ _ rfl w5.heap.size _ rfl rfl _ _ XZ.out (by kernel_rfl) rfl (by simp [Value.oneCell']) ?_; refine stop_here ?_)
           refine go_on ?_
           have XA := XZ.out.row [.int .i64 x, .int .i64 y, .slice A1 n1 k1, .int .i64 v, .int .i64 2, .int .i64 4, .slice A2 n2 k2, .slice A3 n3 k3, .slice A4 n4 k4]
           have hb6 : Below w.heap.size w ((w5.alloc (.cells #[.int .i64 0, .int .i64 0, .slice none 0 0, .int .i64 0, .int .i64 0, .int .i64 0, .slice none 0 0, .slice none 0 0, .slice none 0 0] 29)).setRow w5.heap.size #[.int .i64 x, .int .i64 y, .slice A1 n1 k1, .int .i64 v, .int .i64 2, .int .i64 4, .slice A2 n2 k2, .slice A3 n3 k3, .slice A4 n4 k4]) := below_rowA (HB5.out.alloc (by omega) _) _ _ (by omega)
           simp only [List.toArray] at XA
           generalize ((w5.alloc (.cells #[.int .i64 0, .int .i64 0, .slice none 0 0, .int .i64 0, .int .i64 0, .int .i64 0, .slice none 0 0, .slice none 0 0, .slice none 0 0] 29)).setRow w5.heap.size #[.int .i64 x, .int .i64 y, .slice A1 n1 k1, .int .i64 v, .int .i64 2, .int .i64 4, .slice A2 n2 k2, .slice A3 n3 k3, .slice A4 n4 k4]) = w6 at *
           have hv2 := HV.out
           simp [flS, flN] at hv2
           have c3 := XA.cell 3 rfl
           rw [hv2] at c3
           clear HV
           have c4 := XA.cell 4 rfl
           have c5 := XA.cell 5 rfl
           go_wp2_with (go_at_call 8; refine (num_any _ _).mono ?_; rintro e w9 ⟨rfl, rfl⟩)
           go_ret
           exact ⟨by first | rfl | simp_all, hb6⟩)
end Go.Proofs.YtlcidkiplidamaaDoor
