/-
  LoadTwo, walked.
-/
import Derived.Test.YtdbniocnjhfhdaaGreatDoorB27
import Derived.Test.YtdbniocnjhfhdaaGreatDoorB16
set_option linter.unusedSimpArgs false
set_option linter.unusedVariables false
set_option maxRecDepth 100000
set_option maxHeartbeats 4000000
namespace Go.Proofs.YtdbniocnjhfhdaaGreatDoor
open Go Go.RowKit Lib
theorem DfAt.low {B : Nat} {w w' : World} {b o : Nat} {d : DfD} (h : DfAt w b o d) (hb : Below B w w') (hl : b < B) (hB : B = w.heap.size) : DfAt w' b o d := by
  obtain ⟨A, n, c, h1, h2⟩ := h.by'
  subst hB
  exact ⟨(hb.cell (p := ⟨b, o, none⟩) hl).trans h.nm, ⟨A, n, c, (hb.cell (p := ⟨b, o + 1, none⟩) hl).trans h1, h2.below hb⟩, (hb.cell (p := ⟨b, o + 2, none⟩) hl).trans h.ld, h.ns⟩
theorem RdDf.below {w w' : World} {A : Option Addr} {n c : Nat} {l : List DfD} (h : RdDf w A n c l) (hb : Below w.heap.size w w') : RdDf w' A n c l :=
  ⟨h.hlen, h.hle, h.hmax, fun h0 => by
    obtain ⟨b, off, e, hlt, hc⟩ := h.hat h0
    exact ⟨b, off, e, Nat.lt_of_lt_of_le hlt hb.size, fun i hi => (hc i hi).low hb hlt rfl⟩⟩
/-- Whether there is much: whatever it answers. -/
def MuchP (w : World) (e : Ending) (w' : World) : Prop := ∃ b, e = .returned (.bool b) ∧ Below w.heap.size w w'
theorem much_any (A : Option Addr) (len cap : Nat) (l : List DfD) (w : World) (h : RdDf w A len cap l) : Calls Tryz.prog 11 #[.slice A len cap] w (MuchP w) := by
  have HD := Lib.hid h
  have hmx := h.hmax
  have hle := h.hle
  clear h
  go_enter Tryz.func11, Tryz.ntmps11
  go_wp2_with fail
  go_loopw [3, 4] (fun n i wr => ∃ (k : Nat) (N : Int), k ≤ len ∧ i = .int .i64 k ∧ n = .int .i64 N ∧ Hid (Below w.heap.size w wr)) (fun _ i _ => len - (RowKit.intOf i).toNat)
  case atStart => exact ⟨0, 0, by omega, rfl, rfl, Lib.hid (Below.refl _ _)⟩
  case round =>
    obtain ⟨k, N, hk, rfl, rfl, HBr⟩ := hrel
    by_cases hlt : k < len
    · by_cases hN : N ≤ 80000
      · have dN : decide (N ≤ 80000) = true := decide_eq_true hN
        obtain ⟨b, off, hA, hbl, hat⟩ := (HD.out.below HBr.out).hat (by omega)
        subst hA
        obtain ⟨A', n', c', c1, hrb⟩ := (hat k hlt).by'
        have c0 := (hat k hlt).nm
        generalize l.getD k df0 = d at *
        have HB2 := Lib.hid (fun m => HBr.out.trans ((below_drewN (Below.refl wr.heap.size wr) m).mono HBr.out.size))
        have hi1 : (0 : Int) ≤ (k : Int) := by omega
        have hi2 : (k : Int) < (len : Int) := by omega
        clear hat hrb HBr
        go_wp2_with fail
        go_quiet (fail)
        all_goals go_wp2_with fail
        all_goals
          go_roundw
          case rel => exact ⟨k + 1, _, by omega, by go_num, rfl, Lib.hid (HB2.out _)⟩
          case measure => simp [RowKit.intOf]; omega
      · have dN : decide (N ≤ 80000) = false := decide_eq_false hN
        have dM : decide (80000 < N) = true := decide_eq_true (by omega)
        clear hN
        go_wp2_with fail
        go_ret
        exact ⟨_, rfl, HBr.out⟩
    · by_cases hN : N ≤ 80000
      · have dN : decide (N ≤ 80000) = true := decide_eq_true hN
        have dM : decide (80000 < N) = false := decide_eq_false (by omega)
        clear hN
        go_wp2_with fail
        go_ret
        exact ⟨_, rfl, HBr.out⟩
      · have dN : decide (N ≤ 80000) = false := decide_eq_false hN
        have dM : decide (80000 < N) = true := decide_eq_true (by omega)
        clear hN
        go_wp2_with fail
        go_ret
        exact ⟨_, rfl, HBr.out⟩
theorem Tri.types {B lx ly lz : Nat} {σx σy σz : St} {W : World} (h : Tri B lx ly lz σx σy σz W) : Calls Tryz.prog 14 #[.pointer (some ⟨lx, 0, none⟩)] W fun e W' => ∃ A cap, e = .returned (.slice A σx.ts.length cap) ∧ Below W.heap.size W W' := by
  obtain ⟨Lx, Ly, Lz, vx, vy, vz, rfl, rfl, rfl, h1, r⟩ := h
  obtain ⟨ts, k1, k2, k3⟩ := h1.all
  have hl := k3.len (by rw [h1.len]; exact h1.le)
  rw [List.length_map] at hl
  refine (ltypes_any k2 (by omega) (by omega)).mono ?_
  rintro e W' ⟨ov, ts', rfl, ho, hk, hb⟩
  obtain ⟨A, cap, rfl⟩ := own_slice ho
  exact ⟨A, cap, by rw [← k1, List.length_map], hb⟩
theorem ltwo_any (A0 : Option Addr) (len0 cap0 : Nat) (l0 : List DfD) (A1 : Option Addr) (len1 cap1 : Nat) (l1 : List DfD) (w : World) (hgl : GlB w) (h0 : RdDf w A0 len0 cap0 l0) (h1 : RdDf w A1 len1 cap1 l1) :
    Calls Tryz.prog 7 #[.slice A0 len0 cap0, .slice A1 len1 cap1] w fun e w' => e = .returned (.bool true) ∧ Below w.heap.size w w' := by
  have hB := glB_pos hgl
  have HA := Lib.hid (alive_all w hgl)
  have HG := Lib.hid hgl
  have H0 := Lib.hid h0
  have H1 := Lib.hid h1
  have hm0 := h0.hmax
  have hm1 := h1.hmax
  have hc0 := h0.hle
  have hc1 := h1.hle
  clear hgl h0 h1
  go_enter Tryz.func7, Tryz.ntmps7
  go_wp2_with (first
    | (go_at_call 10; refine HA.out.mono ?_; rintro e w1 ⟨rfl, hb1⟩; have B1 := Lib.hid hb1; clear hb1)
    | (go_at_call 11; refine stop_here ?_))
  refine go_on ?_
  refine (much_any A0 len0 cap0 l0 _ (H0.out.below B1.out)).mono ?_
  rintro e w2 ⟨b0, rfl, hb⟩
  have B2 := Lib.hid (B1.out.trans (hb.mono B1.out.size))
  clear hb
  cases b0 with
  | true =>
    go_wp2_with fail
    go_ret
    exact ⟨rfl, B2.out⟩
  | false =>
  go_wp2_with (go_at_call 11; refine stop_here ?_)
  refine go_on ?_
  refine (much_any A1 len1 cap1 l1 _ (H1.out.below B2.out)).mono ?_
  rintro e w3 ⟨b1, rfl, hb⟩
  have B3 := Lib.hid (B2.out.trans (hb.mono B2.out.size))
  clear hb
  cases b1 with
  | true =>
    go_wp2_with fail
    go_ret
    exact ⟨rfl, B3.out⟩
  | false =>
  go_wp2_with (go_at_call 12; refine stop_here ?_)
  refine go_on ?_
  refine (At1.new w3 [] (by simp)).mono ?_
  rintro e w4 ⟨Lx, vx, rfl, hx1, hx2, hb⟩
  have X4 := Lib.hid hx2
  have B4 := Lib.hid (B3.out.trans (hb.mono B3.out.size))
  clear hx2 hb hx1
  go_wp2_with (go_at_call 12; refine stop_here ?_)
  refine go_on ?_
  refine (At1.new w4 (Lx.mine vx) (fun g hg => (X4.out.mine g hg).2)).mono ?_
  rintro e w5 ⟨Ly, vy, rfl, hy1, hy2, hb⟩
  have X5 := Lib.hid (X4.out.andNew hb hy2)
  have Y5 := Lib.hid hy2
  have HY := Lib.hid (show Far Ly Lx vx from fun g hg => by rw [hy1]; exact LPos.mine_of hg)
  have B5 := Lib.hid (B4.out.trans (hb.mono B4.out.size))
  clear hy2 hb hy1 X4
  go_wp2_with (go_at_call 12; refine stop_here ?_)
  refine go_on ?_
  refine (At1.new w5 (Lx.mine vx ++ Ly.mine vy) (fun g hg => by
    rcases List.mem_append.1 hg with hg | hg
    · exact (X5.out.1.mine g hg).2
    · exact (Y5.out.mine g hg).2)).mono ?_
  rintro e w6 ⟨Lz, vz, rfl, hz1, hz2, hb⟩
  have hT : Tri w.heap.size Lx.lb Ly.lb Lz.lb St.new St.new St.new w6 := by
    obtain ⟨x1, x2⟩ := X5.out.1.andNew hb hz2
    obtain ⟨y1, y2⟩ := Y5.out.andNew hb hz2
    refine ⟨(Lx.and (Ly.mine vy)).and (Lz.mine vz), Ly.and (Lz.mine vz), Lz, vx, vy, vz, rfl, rfl, rfl, x1.lower (by have := B3.out.size; omega), y1.lower B4.out.size, hz2.lower B5.out.size, ?_, x2, ?_, y2, fun g hg => ?_, fun g hg => ?_⟩
    · exact fun g hg => List.mem_append.2 (.inr (X5.out.2 g hg))
    · exact fun g hg => List.mem_append.2 (.inr (HY.out g hg))
    · rw [hz1]; exact List.mem_append.2 (.inl (LPos.mine_of hg))
    · rw [hz1]; exact List.mem_append.2 (.inr (LPos.mine_of hg))
  have T6 := Lib.hid hT
  have B6 := Lib.hid (B5.out.trans (hb.mono B5.out.size))
  clear hT hz2 hb hz1 X5 Y5 HY B1 B2 B3 B4 B5 HA
  obtain ⟨lx, hlx⟩ : ∃ q, Lx.lb = q := ⟨_, rfl⟩
  obtain ⟨ly, hly⟩ : ∃ q, Ly.lb = q := ⟨_, rfl⟩
  obtain ⟨lz, hlz⟩ : ∃ q, Lz.lb = q := ⟨_, rfl⟩
  rw [hlx, hly, hlz] at T6
  rw [hlx, hly, hlz]
  clear hlx hly hlz
  go_wp2_with fail
  go_loopw [10] (fun i wr => ∃ (k : Nat) (σ τ : St), i = .int .i64 k ∧ (k ≤ len0 ∨ k ≤ len1) ∧ Hid (Tri w.heap.size lx ly lz σ τ σ wr) ∧ Hid (Below w.heap.size w wr)) (fun i _ => max len0 len1 - (RowKit.intOf i).toNat)
  case atStart => exact ⟨0, _, _, rfl, by omega, T6, B6⟩
  case round =>
    obtain ⟨wr1, hwr⟩ : ∃ W, W = wr := ⟨_, rfl⟩
    subst hwr
    obtain ⟨k, σ, τ, rfl, hk, HTr, HBr⟩ := hrel
    clear T6 B6
    by_cases hk0 : k < len0
    · by_cases hk1 : k < len1
      · obtain ⟨b1, off1, hA1, hbl1, hat1⟩ := H1.out.hat (by omega)
        subst hA1
        have HD1 := Lib.hid (hat1 k (by omega))
        generalize l1.getD k df0 = d1 at *
        clear hat1
        obtain ⟨A'1, n'1, c'1, hc11, hrb1⟩ := HD1.out.by'
        have HC1 := Lib.hid (show DfC w b1 (off1 + k * 3) d1 A'1 n'1 c'1 from ⟨HD1.out.nm, hc11, HD1.out.ld⟩)
        have HR1 := Lib.hid hrb1
        have HAB1 := Lib.hid (show ∀ a, A'1 = some a → 0 < d1.bytes.length → a.block < w.heap.size from fun a ha h0 => by
          obtain ⟨bq, oq, eq, hq, _⟩ := hrb1.hat (by rw [hrb1.hlen]; exact h0)
          rw [ha] at eq
          injection eq with eq
          subst eq
          exact hq)
        have hns1 := HD1.out.ns
        clear hc11 hrb1 HD1
        have u0 := (HC1.out.low HBr.out hbl1).nm
        have u2 := (HC1.out.low HBr.out hbl1).ld
        obtain ⟨ld1, hld1⟩ : ∃ v, d1.load = v := ⟨_, rfl⟩
        rw [hld1] at u2
        clear hld1
        cases ld1 with
        | true =>
          go_wp2_with (go_at_call 13; refine stop_here ?_)
          refine go_on ?_
          refine (HTr.out.rot.load d1.name hns1 hB (HG.out.below HBr.out hB)).mono ?_
          rintro e w7 ⟨rfl, hT7, hb7⟩
          have T7 := Lib.hid hT7.rot.rot
          have B7 := Lib.hid (HBr.out.trans hb7)
          clear hT7 hb7 u0 u2
          obtain ⟨b0, off0, hA0, hbl0, hat0⟩ := H0.out.hat (by omega)
          subst hA0
          have HD0 := Lib.hid (hat0 k (by omega))
          generalize l0.getD k df0 = d0 at *
          clear hat0
          obtain ⟨A'0, n'0, c'0, hc10, hrb0⟩ := HD0.out.by'
          have HC0 := Lib.hid (show DfC w b0 (off0 + k * 3) d0 A'0 n'0 c'0 from ⟨HD0.out.nm, hc10, HD0.out.ld⟩)
          have HR0 := Lib.hid hrb0
          have HAB0 := Lib.hid (show ∀ a, A'0 = some a → 0 < d0.bytes.length → a.block < w.heap.size from fun a ha h0 => by
            obtain ⟨bq, oq, eq, hq, _⟩ := hrb0.hat (by rw [hrb0.hlen]; exact h0)
            rw [ha] at eq
            injection eq with eq
            subst eq
            exact hq)
          have hns0 := HD0.out.ns
          clear hc10 hrb0 HD0
          have u0 := (HC0.out.low B7.out hbl0).nm
          have u2 := (HC0.out.low B7.out hbl0).ld
          obtain ⟨ld0, hld0⟩ : ∃ v, d0.load = v := ⟨_, rfl⟩
          rw [hld0] at u2
          clear hld0
          obtain ⟨x1, x2, x3, x4, x5, x6, x7, x8, x9, x10, x11, x12⟩ := far b0 w.heap.size hbl0
          cases ld0 with
          | true =>
            go_wp2_with fail
            refine region_xzload _ b0 off0 len0 cap0 k d0 A'0 n'0 c'0 w.heap.size lx ly lz σ (τ.load d1.name) σ _ _ rfl rfl rfl rfl rfl (by omega) hc0 hm0 (HC0.out.low B7.out hbl0) (rdB_low HR0.out B7.out HAB0.out) hns0 T7.out hB hbl0 HAB0.out (HG.out.below B7.out hB) ?_ ?_
            · exact fun _ _ _ _ _ h => h
            intro bb W9 hzb hdb hkb hev hbw
            have e90 := hev.1
            rw [show (!((σ.says d0.name).toList == (σ.says d0.name).toList)) = false by simp] at e90
            have T9 := Lib.hid hev.2
            have B9 := Lib.hid (B7.out.trans hbw)
            have hbe := act_chain _ bb 76 15 (hk := hkb) (hsz := by rw [hzb]; kernel_rfl) (hd := hdb) (hln := by show 91 ≤ 125; decide) (hn := by decide)
            rw [show List.range 15 = [0, 1, 2, 3, 4, 5, 6, 7, 8, 9, 10, 11, 12, 13, 14] from rfl] at hbe
            simp only [List.take_succ_cons, List.take_zero, List.drop_succ_cons, List.drop_zero, List.map_cons, List.map_nil, List.cons_append, List.nil_append, Nat.reduceAdd] at hbe
            rw [e90] at hbe
            rw [hbe]
            clear hbe hkb hzb hdb
            clear hev hbw e90
            go_wp2_with fail
            go_roundw
            case rel => exact ⟨k + 1, _, _, by go_num, by omega, T9, B9⟩
            case measure => simp [RowKit.intOf]; omega
          | false =>
            go_wp2_with fail
            refine region_xzdef _ b0 off0 len0 cap0 k d0 A'0 n'0 c'0 w.heap.size lx ly lz σ (τ.load d1.name) σ _ _ rfl rfl rfl rfl rfl (by omega) hc0 hm0 (HC0.out.low B7.out hbl0) (rdB_low HR0.out B7.out HAB0.out) hns0 T7.out hB hbl0 HAB0.out (HG.out.below B7.out hB) ?_ ?_
            · exact fun _ _ _ _ _ h => h
            intro bb W9 hzb hdb hkb hev hbw
            have e117 := hev.1
            rw [show (σ.defE d0.name d0.bytes != σ.defE d0.name d0.bytes) = false by simp] at e117
            have T9 := Lib.hid hev.2
            have B9 := Lib.hid (B7.out.trans hbw)
            have hbe := act_chain _ bb 91 27 (hk := hkb) (hsz := by rw [hzb]; kernel_rfl) (hd := hdb) (hln := by show 118 ≤ 125; decide) (hn := by decide)
            rw [show List.range 27 = [0, 1, 2, 3, 4, 5, 6, 7, 8, 9, 10, 11, 12, 13, 14, 15, 16, 17, 18, 19, 20, 21, 22, 23, 24, 25, 26] from rfl] at hbe
            simp only [List.take_succ_cons, List.take_zero, List.drop_succ_cons, List.drop_zero, List.map_cons, List.map_nil, List.cons_append, List.nil_append, Nat.reduceAdd] at hbe
            rw [e117] at hbe
            rw [hbe]
            clear hbe hkb hzb hdb
            clear hev hbw e117
            go_wp2_with fail
            go_roundw
            case rel => exact ⟨k + 1, _, _, by go_num, by omega, T9, B9⟩
            case measure => simp [RowKit.intOf]; omega
        | false =>
          go_wp2_with fail
          refine region_ydef _ b1 off1 len1 cap1 k d1 A'1 n'1 c'1 w.heap.size lx ly lz σ τ σ _ _ rfl rfl rfl rfl (by omega) hc1 hm1 (HC1.out.low HBr.out hbl1) (rdB_low HR1.out HBr.out HAB1.out) hns1 HTr.out hB hbl1 HAB1.out (HG.out.below HBr.out hB) ?_ ?_
          · exact fun _ _ _ _ _ h => h
          intro bb W7 hzb hdb hkb hev hbw
          have T7 := Lib.hid hev
          have B7 := Lib.hid (HBr.out.trans hbw)
          have hbe := act_chain _ bb 55 12 (hk := hkb) (hsz := by rw [hzb]; kernel_rfl) (hd := hdb) (hln := by show 67 ≤ 125; decide) (hn := by decide)
          rw [show List.range 12 = [0, 1, 2, 3, 4, 5, 6, 7, 8, 9, 10, 11] from rfl] at hbe
          simp only [List.take_succ_cons, List.take_zero, List.drop_succ_cons, List.drop_zero, List.map_cons, List.map_nil, List.cons_append, List.nil_append, Nat.reduceAdd] at hbe
          rw [hbe]
          clear hbe hkb hzb hdb
          clear hev hbw u0 u2
          obtain ⟨b0, off0, hA0, hbl0, hat0⟩ := H0.out.hat (by omega)
          subst hA0
          have HD0 := Lib.hid (hat0 k (by omega))
          generalize l0.getD k df0 = d0 at *
          clear hat0
          obtain ⟨A'0, n'0, c'0, hc10, hrb0⟩ := HD0.out.by'
          have HC0 := Lib.hid (show DfC w b0 (off0 + k * 3) d0 A'0 n'0 c'0 from ⟨HD0.out.nm, hc10, HD0.out.ld⟩)
          have HR0 := Lib.hid hrb0
          have HAB0 := Lib.hid (show ∀ a, A'0 = some a → 0 < d0.bytes.length → a.block < w.heap.size from fun a ha h0 => by
            obtain ⟨bq, oq, eq, hq, _⟩ := hrb0.hat (by rw [hrb0.hlen]; exact h0)
            rw [ha] at eq
            injection eq with eq
            subst eq
            exact hq)
          have hns0 := HD0.out.ns
          clear hc10 hrb0 HD0
          have u0 := (HC0.out.low B7.out hbl0).nm
          have u2 := (HC0.out.low B7.out hbl0).ld
          obtain ⟨ld0, hld0⟩ : ∃ v, d0.load = v := ⟨_, rfl⟩
          rw [hld0] at u2
          clear hld0
          obtain ⟨x1, x2, x3, x4, x5, x6, x7, x8, x9, x10, x11, x12⟩ := far b0 w.heap.size hbl0
          cases ld0 with
          | true =>
            go_wp2_with fail
            refine region_xzload _ b0 off0 len0 cap0 k d0 A'0 n'0 c'0 w.heap.size lx ly lz σ (τ.define d1.name d1.bytes) σ _ _ rfl rfl rfl rfl rfl (by omega) hc0 hm0 (HC0.out.low B7.out hbl0) (rdB_low HR0.out B7.out HAB0.out) hns0 T7.out hB hbl0 HAB0.out (HG.out.below B7.out hB) ?_ ?_
            · exact fun _ _ _ _ _ h => h
            intro bb W9 hzb hdb hkb hev hbw
            have e90 := hev.1
            rw [show (!((σ.says d0.name).toList == (σ.says d0.name).toList)) = false by simp] at e90
            have T9 := Lib.hid hev.2
            have B9 := Lib.hid (B7.out.trans hbw)
            have hbe := act_chain _ bb 76 15 (hk := hkb) (hsz := by rw [hzb]; kernel_rfl) (hd := hdb) (hln := by show 91 ≤ 125; decide) (hn := by decide)
            rw [show List.range 15 = [0, 1, 2, 3, 4, 5, 6, 7, 8, 9, 10, 11, 12, 13, 14] from rfl] at hbe
            simp only [List.take_succ_cons, List.take_zero, List.drop_succ_cons, List.drop_zero, List.map_cons, List.map_nil, List.cons_append, List.nil_append, Nat.reduceAdd] at hbe
            rw [e90] at hbe
            rw [hbe]
            clear hbe hkb hzb hdb
            clear hev hbw e90
            go_wp2_with fail
            go_roundw
            case rel => exact ⟨k + 1, _, _, by go_num, by omega, T9, B9⟩
            case measure => simp [RowKit.intOf]; omega
          | false =>
            go_wp2_with fail
            refine region_xzdef _ b0 off0 len0 cap0 k d0 A'0 n'0 c'0 w.heap.size lx ly lz σ (τ.define d1.name d1.bytes) σ _ _ rfl rfl rfl rfl rfl (by omega) hc0 hm0 (HC0.out.low B7.out hbl0) (rdB_low HR0.out B7.out HAB0.out) hns0 T7.out hB hbl0 HAB0.out (HG.out.below B7.out hB) ?_ ?_
            · exact fun _ _ _ _ _ h => h
            intro bb W9 hzb hdb hkb hev hbw
            have e117 := hev.1
            rw [show (σ.defE d0.name d0.bytes != σ.defE d0.name d0.bytes) = false by simp] at e117
            have T9 := Lib.hid hev.2
            have B9 := Lib.hid (B7.out.trans hbw)
            have hbe := act_chain _ bb 91 27 (hk := hkb) (hsz := by rw [hzb]; kernel_rfl) (hd := hdb) (hln := by show 118 ≤ 125; decide) (hn := by decide)
            rw [show List.range 27 = [0, 1, 2, 3, 4, 5, 6, 7, 8, 9, 10, 11, 12, 13, 14, 15, 16, 17, 18, 19, 20, 21, 22, 23, 24, 25, 26] from rfl] at hbe
            simp only [List.take_succ_cons, List.take_zero, List.drop_succ_cons, List.drop_zero, List.map_cons, List.map_nil, List.cons_append, List.nil_append, Nat.reduceAdd] at hbe
            rw [e117] at hbe
            rw [hbe]
            clear hbe hkb hzb hdb
            clear hev hbw e117
            go_wp2_with fail
            go_roundw
            case rel => exact ⟨k + 1, _, _, by go_num, by omega, T9, B9⟩
            case measure => simp [RowKit.intOf]; omega
      · obtain ⟨b0, off0, hA0, hbl0, hat0⟩ := H0.out.hat (by omega)
        subst hA0
        have HD0 := Lib.hid (hat0 k (by omega))
        generalize l0.getD k df0 = d0 at *
        clear hat0
        obtain ⟨A'0, n'0, c'0, hc10, hrb0⟩ := HD0.out.by'
        have HC0 := Lib.hid (show DfC w b0 (off0 + k * 3) d0 A'0 n'0 c'0 from ⟨HD0.out.nm, hc10, HD0.out.ld⟩)
        have HR0 := Lib.hid hrb0
        have HAB0 := Lib.hid (show ∀ a, A'0 = some a → 0 < d0.bytes.length → a.block < w.heap.size from fun a ha h0 => by
          obtain ⟨bq, oq, eq, hq, _⟩ := hrb0.hat (by rw [hrb0.hlen]; exact h0)
          rw [ha] at eq
          injection eq with eq
          subst eq
          exact hq)
        have hns0 := HD0.out.ns
        clear hc10 hrb0 HD0
        have u0 := (HC0.out.low HBr.out hbl0).nm
        have u2 := (HC0.out.low HBr.out hbl0).ld
        obtain ⟨ld0, hld0⟩ : ∃ v, d0.load = v := ⟨_, rfl⟩
        rw [hld0] at u2
        clear hld0
        obtain ⟨x1, x2, x3, x4, x5, x6, x7, x8, x9, x10, x11, x12⟩ := far b0 w.heap.size hbl0
        cases ld0 with
        | true =>
          go_wp2_with fail
          refine region_xzload _ b0 off0 len0 cap0 k d0 A'0 n'0 c'0 w.heap.size lx ly lz σ τ σ _ _ rfl rfl rfl rfl rfl (by omega) hc0 hm0 (HC0.out.low HBr.out hbl0) (rdB_low HR0.out HBr.out HAB0.out) hns0 HTr.out hB hbl0 HAB0.out (HG.out.below HBr.out hB) ?_ ?_
          · exact fun _ _ _ _ _ h => h
          intro bb W9 hzb hdb hkb hev hbw
          have e90 := hev.1
          rw [show (!((σ.says d0.name).toList == (σ.says d0.name).toList)) = false by simp] at e90
          have T9 := Lib.hid hev.2
          have B9 := Lib.hid (HBr.out.trans hbw)
          have hbe := act_chain _ bb 76 15 (hk := hkb) (hsz := by rw [hzb]; kernel_rfl) (hd := hdb) (hln := by show 91 ≤ 125; decide) (hn := by decide)
          rw [show List.range 15 = [0, 1, 2, 3, 4, 5, 6, 7, 8, 9, 10, 11, 12, 13, 14] from rfl] at hbe
          simp only [List.take_succ_cons, List.take_zero, List.drop_succ_cons, List.drop_zero, List.map_cons, List.map_nil, List.cons_append, List.nil_append, Nat.reduceAdd] at hbe
          rw [e90] at hbe
          rw [hbe]
          clear hbe hkb hzb hdb
          clear hev hbw e90
          go_wp2_with fail
          go_roundw
          case rel => exact ⟨k + 1, _, _, by go_num, by omega, T9, B9⟩
          case measure => simp [RowKit.intOf]; omega
        | false =>
          go_wp2_with fail
          refine region_xzdef _ b0 off0 len0 cap0 k d0 A'0 n'0 c'0 w.heap.size lx ly lz σ τ σ _ _ rfl rfl rfl rfl rfl (by omega) hc0 hm0 (HC0.out.low HBr.out hbl0) (rdB_low HR0.out HBr.out HAB0.out) hns0 HTr.out hB hbl0 HAB0.out (HG.out.below HBr.out hB) ?_ ?_
          · exact fun _ _ _ _ _ h => h
          intro bb W9 hzb hdb hkb hev hbw
          have e117 := hev.1
          rw [show (σ.defE d0.name d0.bytes != σ.defE d0.name d0.bytes) = false by simp] at e117
          have T9 := Lib.hid hev.2
          have B9 := Lib.hid (HBr.out.trans hbw)
          have hbe := act_chain _ bb 91 27 (hk := hkb) (hsz := by rw [hzb]; kernel_rfl) (hd := hdb) (hln := by show 118 ≤ 125; decide) (hn := by decide)
          rw [show List.range 27 = [0, 1, 2, 3, 4, 5, 6, 7, 8, 9, 10, 11, 12, 13, 14, 15, 16, 17, 18, 19, 20, 21, 22, 23, 24, 25, 26] from rfl] at hbe
          simp only [List.take_succ_cons, List.take_zero, List.drop_succ_cons, List.drop_zero, List.map_cons, List.map_nil, List.cons_append, List.nil_append, Nat.reduceAdd] at hbe
          rw [e117] at hbe
          rw [hbe]
          clear hbe hkb hzb hdb
          clear hev hbw e117
          go_wp2_with fail
          go_roundw
          case rel => exact ⟨k + 1, _, _, by go_num, by omega, T9, B9⟩
          case measure => simp [RowKit.intOf]; omega
    · by_cases hk1 : k < len1
      · obtain ⟨b1, off1, hA1, hbl1, hat1⟩ := H1.out.hat (by omega)
        subst hA1
        have HD1 := Lib.hid (hat1 k (by omega))
        generalize l1.getD k df0 = d1 at *
        clear hat1
        obtain ⟨A'1, n'1, c'1, hc11, hrb1⟩ := HD1.out.by'
        have HC1 := Lib.hid (show DfC w b1 (off1 + k * 3) d1 A'1 n'1 c'1 from ⟨HD1.out.nm, hc11, HD1.out.ld⟩)
        have HR1 := Lib.hid hrb1
        have HAB1 := Lib.hid (show ∀ a, A'1 = some a → 0 < d1.bytes.length → a.block < w.heap.size from fun a ha h0 => by
          obtain ⟨bq, oq, eq, hq, _⟩ := hrb1.hat (by rw [hrb1.hlen]; exact h0)
          rw [ha] at eq
          injection eq with eq
          subst eq
          exact hq)
        have hns1 := HD1.out.ns
        clear hc11 hrb1 HD1
        have u0 := (HC1.out.low HBr.out hbl1).nm
        have u2 := (HC1.out.low HBr.out hbl1).ld
        obtain ⟨ld1, hld1⟩ : ∃ v, d1.load = v := ⟨_, rfl⟩
        rw [hld1] at u2
        clear hld1
        cases ld1 with
        | true =>
          go_wp2_with (go_at_call 13; refine stop_here ?_)
          refine go_on ?_
          refine (HTr.out.rot.load d1.name hns1 hB (HG.out.below HBr.out hB)).mono ?_
          rintro e w7 ⟨rfl, hT7, hb7⟩
          have T7 := Lib.hid hT7.rot.rot
          have B7 := Lib.hid (HBr.out.trans hb7)
          clear hT7 hb7 u0 u2
          go_wp2_with fail
          go_roundw
          case rel => exact ⟨k + 1, _, _, by go_num, by omega, T7, B7⟩
          case measure => simp [RowKit.intOf]; omega
        | false =>
          go_wp2_with fail
          refine region_ydef _ b1 off1 len1 cap1 k d1 A'1 n'1 c'1 w.heap.size lx ly lz σ τ σ _ _ rfl rfl rfl rfl (by omega) hc1 hm1 (HC1.out.low HBr.out hbl1) (rdB_low HR1.out HBr.out HAB1.out) hns1 HTr.out hB hbl1 HAB1.out (HG.out.below HBr.out hB) ?_ ?_
          · exact fun _ _ _ _ _ h => h
          intro bb W7 hzb hdb hkb hev hbw
          have T7 := Lib.hid hev
          have B7 := Lib.hid (HBr.out.trans hbw)
          have hbe := act_chain _ bb 55 12 (hk := hkb) (hsz := by rw [hzb]; kernel_rfl) (hd := hdb) (hln := by show 67 ≤ 125; decide) (hn := by decide)
          rw [show List.range 12 = [0, 1, 2, 3, 4, 5, 6, 7, 8, 9, 10, 11] from rfl] at hbe
          simp only [List.take_succ_cons, List.take_zero, List.drop_succ_cons, List.drop_zero, List.map_cons, List.map_nil, List.cons_append, List.nil_append, Nat.reduceAdd] at hbe
          rw [hbe]
          clear hbe hkb hzb hdb
          clear hev hbw u0 u2
          go_wp2_with fail
          go_roundw
          case rel => exact ⟨k + 1, _, _, by go_num, by omega, T7, B7⟩
          case measure => simp [RowKit.intOf]; omega
      · go_wp2_with (go_at_call 14; refine stop_here ?_)
        refine go_on ?_
        refine HTr.out.types.mono ?_
        rintro e w7 ⟨Aq, cq, rfl, hb7⟩
        have T7 := Lib.hid (HTr.out.below hb7)
        have B7 := Lib.hid (HBr.out.trans (hb7.mono HBr.out.size))
        clear hb7
        go_wp2_with (go_at_call 14; refine stop_here ?_)
        refine go_on ?_
        refine T7.out.rot.rot.types.mono ?_
        rintro e w8 ⟨Ap, cp, rfl, hb8⟩
        have B8 := Lib.hid (B7.out.trans (hb8.mono B7.out.size))
        clear hb8
        go_wp2_with fail
        go_ret
        exact ⟨by simp, B8.out⟩
end Go.Proofs.YtdbniocnjhfhdaaGreatDoor
