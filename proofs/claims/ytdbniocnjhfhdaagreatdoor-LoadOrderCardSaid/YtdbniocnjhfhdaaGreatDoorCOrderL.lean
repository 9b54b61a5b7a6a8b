/-
  LoadOrder, walked.
-/
import Derived.Test.YtdbniocnjhfhdaaGreatDoorB26
set_option linter.unusedSimpArgs false
set_option linter.unusedVariables false
set_option maxRecDepth 100000
set_option maxHeartbeats 4000000
namespace Go.Proofs.YtdbniocnjhfhdaaGreatDoor
open Go Go.RowKit Lib
/-- What Types tells, in full. -/
def AllT (σ : St) (W : World) (e : Ending) (W' : World) : Prop := ∃ (g cap : Nat) (us : List TyV), e = .returned (.slice (some ⟨g, 0, none⟩) us.length cap) ∧ us.length ≤ cap ∧ us.length ≤ 90 ∧ us.map TyV.key = σ.ts ∧ (∀ (j : Nat) (t : TyV), us[j]? = some t → ∀ q, q < 6 → W'.cell? ⟨g, j * 6 + q, none⟩ = t.cells[q]?) ∧
  g < W'.heap.size ∧ (∀ t ∈ us, SlAt W' (fun _ => True) 1 t.ifl.length t.ifCells t.ifs) ∧ Below W.heap.size W W'
theorem At1.typesAll {B : Nat} {L : LPos} {v : Value} {σ : St} {W : World} (h : At1 B L v σ W) : Calls Tryz.prog 14 #[.pointer (some ⟨L.lb, 0, none⟩)] W (AllT σ W) := by
  obtain ⟨ts, k1, k2, k3⟩ := h.all
  have hl := k3.len (by rw [h.len]; exact h.le)
  rw [List.length_map] at hl
  refine (ltypes_all k2 (by omega) (by omega)).mono ?_
  rintro e W' ⟨ov, us, rfl, ho, hk, hi, hb⟩
  have hul : us.length = ts.length := by have := congrArg List.length hk; simpa using this
  rcases id ho.2 with ⟨_, h0⟩ | ⟨g, cap, cur, rfl, hb', hg, hnc, hcm, hcs, hx⟩
  · omega
  · refine ⟨g, cap, us, by rw [hul], by omega, by omega, hk.trans k1, fun j t ht q hq => ?_, (ho.lt g rfl).2, fun t ht => (hi t ht).mono fun _ _ _ => trivial, hb⟩
    have hjl : j < us.length := (List.getElem?_eq_some_iff.1 ht).1
    exact (ho.cellAt (j * 6 + q) (by omega)).trans (tyCells_at us j t ht q hq)
theorem At1.types {B : Nat} {L : LPos} {v : Value} {σ : St} {W : World} (h : At1 B L v σ W) : Calls Tryz.prog 14 #[.pointer (some ⟨L.lb, 0, none⟩)] W fun e W' => ∃ A cap, e = .returned (.slice A σ.ts.length cap) ∧ Below W.heap.size W W' :=
  h.typesAll.mono fun e W' hq => by
    obtain ⟨g, cap, us, rfl, _, _, hk, _, _, _, hb⟩ := hq
    exact ⟨_, cap, by rw [← hk, List.length_map], hb⟩
theorem run_keeps {B : Nat} {L : LPos} {v : Value} {σ : St} {W : World} (h : At1 B L v σ W) (ho : Ord σ.ts) (s : ByteArray) : LoadK [] ⟨σ.ts, σ.F⟩ s (σ.run s) := by
  refine loadP_keeps (rdD checkF σ.D) σ.dn (fun s c t hr => ?_) 65 [] (by have := h.len; have := h.le; have := List.length_filter_le (fun x => decide (x ∉ ([] : List (List UInt8)))) σ.dn; omega) ⟨σ.ts, σ.F⟩ s ho (by simp)
  obtain ⟨l, h1, h2, h3, h4⟩ := rdD_ok hr
  exact ⟨h4, h.dom _ _ h1⟩
theorem run_again {σ : St} {s : ByteArray} (h : s.data.toList ∈ nmsK (σ.run s).2.ts) : (σ.load s).run s = (none, (σ.run s).2) := by
  show loadP (rdD checkF σ.D) 65 [] ⟨(σ.run s).2.ts, (σ.run s).2.files⟩ s = _
  rw [loadP, if_pos (show s.data.toList ∈ LT.names ⟨(σ.run s).2.ts, (σ.run s).2.files⟩ from h)]
theorem langB_ne (e : ByteArray) : (langB e).toList ≠ [] := by
  intro h
  rw [ByteArray.toList_eq] at h
  have h2 := congrArg List.length h
  unfold langB at h2
  simp at h2
theorem nodup_at {ts : List TyK} (h : (nmsK ts).Nodup) {i : Nat} {t : TyK} (ht : ts[i]? = some t) : atOf (nmsK ts) t.1 = i := by
  have hl := (List.getElem?_eq_some_iff.1 ht).1
  refine atOf_hit (by unfold nmsK; rw [List.getElem?_map, ht]; rfl) fun j hj x hx e => ?_
  subst e
  have h1 : (nmsK ts)[j]? = (nmsK ts)[i]? := by rw [hx]; unfold nmsK; rw [List.getElem?_map, ht]; rfl
  have := (List.getElem?_inj (by unfold nmsK; rw [List.length_map]; omega) h).1 h1
  omega
theorem mem_at {ns : List (List UInt8)} {x : List UInt8} (h : x ∈ ns) : ∃ j : Nat, atOf ns x = j ∧ j < ns.length := by
  rcases hj : ns.findIdx? (fun y => y == x) with _ | j
  · rw [List.findIdx?_eq_none_iff] at hj
    have := hj x h
    simp at this
  · refine ⟨j, by unfold atOf; rw [hj], ?_⟩
    obtain ⟨hl, _⟩ := List.findIdx?_eq_some_iff_getElem.1 hj
    exact hl
theorem face_at {ts : List TyK} {x : List UInt8} (h : FaceIn ts x) : ∃ (j : Nat) (u : TyK), atOf (nmsK ts) x = j ∧ ts[j]? = some u ∧ (bits .and .i64 u.2.2.1 512 != 0) = true := by
  obtain ⟨j, u, h1, h2, h3, h4⟩ := h
  refine ⟨j, u, atOf_hit (by unfold nmsK; rw [List.getElem?_map, h1, ← h2]; rfl) fun i hi y hy e => ?_, h1, h3⟩
  unfold nmsK at hy
  rw [List.getElem?_map] at hy
  obtain ⟨v, hv, rfl⟩ := Option.map_eq_some_iff.1 hy
  exact h4 i v hi hv e
theorem order_any (A0 : Option Addr) (len0 cap0 : Nat) (l0 : List DfD) (w : World) (hgl : GlB w) (h0 : RdDf w A0 len0 cap0 l0) :
    Calls Tryz.prog 3 #[.slice A0 len0 cap0] w fun e w' => e = .returned (.bool true) ∧ Below w.heap.size w w' := by
  have hB := glB_pos hgl
  have HA := Lib.hid (alive_all w hgl)
  have HG := Lib.hid hgl
  have H0 := Lib.hid h0
  have hm0 := h0.hmax
  have hc0 := h0.hle
  clear hgl h0
  go_enter Tryz.func3, Tryz.ntmps3
  go_wp2_with (first
    | (go_at_call 10; refine HA.out.mono ?_; rintro e w1 ⟨rfl, hb1⟩; have B1 := Lib.hid hb1; clear hb1)
    | (go_at_call 11; refine stop_here ?_))
  refine go_on ?_
  refine (much_any A0 len0 cap0 l0 _ (H0.out.below B1.out)).mono ?_
  rintro e w2 ⟨b0, rfl, hb⟩
  have B2 := Lib.hid (B1.out.trans (hb.mono B1.out.size))
  clear hb
  cases b0 with
  | true =>
    go_wp2_with fail
    go_ret
    exact ⟨rfl, B2.out⟩
  | false =>
  go_wp2_with (go_at_call 12; refine stop_here ?_)
  refine go_on ?_
  refine (At1.new w2 [] (by simp)).mono ?_
  rintro e w4 ⟨L0, v0, rfl, _, hx2, hb⟩
  have X4 := Lib.hid (hx2.lower B2.out.size)
  have B4 := Lib.hid (B2.out.trans (hb.mono B2.out.size))
  have O4 := Lib.hid (show Ord St.new.ts from ord_core)
  clear hx2 hb HA B1 B2
  obtain ⟨lx, hlx⟩ : ∃ q, L0.lb = q := ⟨_, rfl⟩
  have HLX := Lib.hid hlx
  rw [hlx]
  clear hlx
  go_wp2_with fail
  go_loopw [6] (fun i wr => ∃ (k : Nat) (L : LPos) (v : Value) (σ : St), i = .int .i64 k ∧ k ≤ len0 ∧ Hid (L.lb = lx) ∧ Hid (At1 w.heap.size L v σ wr) ∧ Hid (Ord σ.ts) ∧ Hid (Below w.heap.size w wr)) (fun i _ => len0 - (RowKit.intOf i).toNat)
  case atStart => exact ⟨0, L0, v0, _, rfl, by omega, HLX, X4, O4, B4⟩
  case round =>
    obtain ⟨wr1, hwr⟩ : ∃ W, W = wr := ⟨_, rfl⟩
    subst hwr
    obtain ⟨k, L, v, σ, rfl, hk, HL, HT, HO, HBr⟩ := hrel
    clear X4 O4 B4 HLX
    by_cases hlt : k < len0
    · obtain ⟨b0, off0, hA0, hbl0, hat0⟩ := H0.out.hat (by omega)
      subst hA0
      have HD0 := Lib.hid (hat0 k (by omega))
      generalize l0.getD k df0 = d0 at *
      clear hat0
      obtain ⟨A'0, n'0, c'0, hc10, hrb0⟩ := HD0.out.by'
      have HC0 := Lib.hid (show DfC w b0 (off0 + k * 3) d0 A'0 n'0 c'0 from ⟨HD0.out.nm, hc10, HD0.out.ld⟩)
      have HR0 := Lib.hid hrb0
      have HAB0 := Lib.hid (show ∀ a, A'0 = some a → 0 < d0.bytes.length → a.block < w.heap.size from fun a ha h0 => by
        obtain ⟨bq, oq, eq, hq, _⟩ := hrb0.hat (by rw [hrb0.hlen]; exact h0)
        rw [ha] at eq
        injection eq with eq
        subst eq
        exact hq)
      have hns0 := HD0.out.ns
      clear hc10 hrb0 HD0
      have u0 := (HC0.out.low HBr.out hbl0).nm
      have u2 := (HC0.out.low HBr.out hbl0).ld
      obtain ⟨ld0, hld0⟩ : ∃ v, d0.load = v := ⟨_, rfl⟩
      rw [hld0] at u2
      clear hld0
      obtain ⟨x1, x2, x3, x4, x5, x6, x7, x8, x9, x10, x11, x12⟩ := far b0 w.heap.size hbl0
      cases ld0 with
      | true =>
        have CL := Lib.hid (HT.out.load d0.name hns0 hB (HG.out.below HBr.out hB))
        rw [HL.out] at CL
        have KP := Lib.hid (run_keeps HT.out HO.out d0.name)
        go_wp2_with (go_at_call 13; refine stop_here ?_)
        refine go_on ?_
        refine CL.out.mono ?_
        rintro e w5 ⟨rfl, X5, v5, h5, f5⟩
        have T5 := Lib.hid h5
        have B5 := Lib.hid (HBr.out.trans f5.bel)
        have CT := Lib.hid h5.types
        rw [show (L.at X5).lb = lx from HL.out] at CT
        clear h5 f5 u0 u2 CL
        go_wp2_with (go_at_call 14; refine stop_here ?_)
        refine go_on ?_
        refine CT.out.mono ?_
        rintro e w6 ⟨A6, c6, rfl, hb6⟩
        have T6 := Lib.hid (T5.out.below hb6)
        have B6 := Lib.hid (B5.out.trans (hb6.mono B5.out.size))
        have CL := Lib.hid (T6.out.load d0.name hns0 hB (HG.out.below B6.out hB))
        rw [show (L.at X5).lb = lx from HL.out] at CL
        have u0 := (HC0.out.low B6.out hbl0).nm
        clear hb6 CT T5 B5
        go_wp2_with (go_at_call 13; refine stop_here ?_)
        refine go_on ?_
        refine CL.out.mono ?_
        rintro e w7 ⟨rfl, X7, v7, h7, f7⟩
        have T7 := Lib.hid h7
        have B7 := Lib.hid (B6.out.trans f7.bel)
        have CT := Lib.hid h7.types
        rw [show ((L.at X5).at X7).lb = lx from HL.out] at CT
        have O7 := Lib.hid (run_keeps T6.out KP.out.ord d0.name).ord
        clear h7 f7 u0 CL T6 B6
        rcases hr : (σ.run d0.name).1 with _ | er
        · have hag := run_again (KP.out.has hr)
          have e1 : σ.says d0.name = ⟨#[]⟩ := by unfold St.says; rw [hr]; rfl
          have e2 : (σ.load d0.name).says d0.name = ⟨#[]⟩ := by unfold St.says; rw [hag]; rfl
          have e3 : ((σ.load d0.name).load d0.name).ts.length = (σ.load d0.name).ts.length := by unfold St.load; show ((σ.load d0.name).run d0.name).2.ts.length = _; rw [hag]
          rw [e1, e2]
          rw [e3] at CT
          clear hag e1 e2 e3 hr
          generalize (σ.load d0.name).ts.length = nt at *
          go_wp2_with (go_at_call 14; refine stop_here ?_)
          refine go_on ?_
          refine CT.out.mono ?_
          rintro e w8 ⟨A8, c8, rfl, hb8⟩
          have T8 := Lib.hid (T7.out.below hb8)
          have B8 := Lib.hid (B7.out.trans (hb8.mono B7.out.size))
          clear hb8 CT
          go_wp2_with fail
          go_roundw
          case rel => exact ⟨k + 1, (L.at X5).at X7, _, (σ.load d0.name).load d0.name, by go_num, by omega, HL, T8, O7, B8⟩
          case measure => simp [RowKit.intOf]; omega
        · have e1 : σ.says d0.name = langB er := by unfold St.says; rw [hr]; rfl
          rw [e1]
          have hne := langB_ne er
          have hn1 : ((langB er).toList == []) = false := by simpa using hne
          have hn2 : (langB er).toList.isEmpty = false := by simpa using hne
          generalize langB er = r1 at *
          obtain ⟨r2, hr2⟩ : ∃ r, (σ.load d0.name).says d0.name = r := ⟨_, rfl⟩
          rw [hr2]
          clear hr2 e1 hr CT
          obtain ⟨bt, hbt⟩ : ∃ b, (r2.toList == r1.toList) = b := ⟨_, rfl⟩
          cases bt
          all_goals
            go_wp2_with fail
            go_roundw
            case rel => exact ⟨k + 1, (L.at X5).at X7, _, (σ.load d0.name).load d0.name, by go_num, by omega, HL, T7, O7, B7⟩
            case measure => simp [RowKit.intOf]; omega
      | false =>
        go_wp2_with fail
        rw [← HL.out]
        refine region_odef _ b0 off0 len0 cap0 k d0 A'0 n'0 c'0 w.heap.size L v σ _ _ rfl rfl rfl rfl (by omega) hc0 hm0 (HC0.out.low HBr.out hbl0) (rdB_low HR0.out HBr.out HAB0.out) hns0 HT.out hB hbl0 HAB0.out (HG.out.below HBr.out hB) ?_ ?_
        · exact fun _ _ _ _ _ h => h
        intro bb W7 hzb hdb hkb hev hbw
        have T7 := Lib.hid hev
        have B7 := Lib.hid (HBr.out.trans hbw)
        have O7 := Lib.hid (show Ord (σ.define d0.name d0.bytes).ts by unfold St.define; split <;> exact HO.out)
        have hbe := act_chain _ bb 70 12 (hk := hkb) (hsz := by rw [hzb]; kernel_rfl) (hd := hdb) (hln := by show 82 ≤ 148; decide) (hn := by decide)
        rw [show List.range 12 = [0, 1, 2, 3, 4, 5, 6, 7, 8, 9, 10, 11] from rfl] at hbe
        simp only [List.take_succ_cons, List.take_zero, List.drop_succ_cons, List.drop_zero, List.map_cons, List.map_nil, List.cons_append, List.nil_append, Nat.reduceAdd] at hbe
        rw [hbe, HL.out]
        clear hbe hkb hzb hdb hev hbw u0 u2
        go_wp2_with fail
        go_roundw
        case rel => exact ⟨k + 1, L, _, σ.define d0.name d0.bytes, by go_num, by omega, HL, T7, O7, B7⟩
        case measure => simp [RowKit.intOf]; omega
    · obtain rfl : k = len0 := by omega
      have CT := Lib.hid HT.out.typesAll
      rw [HL.out] at CT
      go_wp2_with (go_at_call 14; refine stop_here ?_)
      refine go_on ?_
      refine CT.out.mono ?_
      rintro e w8 ⟨g, cap, us, rfl, hcap, hn90, hkey, hcell, hg, hifs, hb8⟩
      have B8 := Lib.hid (HBr.out.trans (hb8.mono HBr.out.size))
      have HK := Lib.hid hkey
      have HCL := Lib.hid hcell
      have HIS := Lib.hid hifs
      clear hb8 CT hlt hkey hcell hifs
      obtain ⟨n, hn⟩ : ∃ n, us.length = n := ⟨_, rfl⟩
      have HN := Lib.hid hn
      rw [hn] at hcap hn90 ⊢
      clear hn
      go_wp2_with fail
      go_loopw [11] (fun i wq => ∃ j : Nat, j ≤ n ∧ i = .int .i64 j ∧ Hid (Below w8.heap.size w8 wq)) (fun i _ => n - (RowKit.intOf i).toNat)
      case atStart => exact ⟨0, by omega, rfl, Lib.hid (Below.refl _ _)⟩
      case round =>
        obtain ⟨wq1, hwq⟩ : ∃ W, W = wr := ⟨_, rfl⟩
        subst hwq
        obtain ⟨j, hj, rfl, HQ⟩ := hrel
        by_cases hjl : j < n
        · obtain ⟨t, ht⟩ : ∃ t, us[j]? = some t := ⟨_, List.getElem?_eq_getElem (by rw [HN.out]; exact hjl)⟩
          have HTJ := Lib.hid ht
          have hK : σ.ts[j]? = some t.key := by rw [← HK.out, List.getElem?_map, ht]; rfl
          have HKJ := Lib.hid hK
          have hcl := fun q (hq : q < 6) => (HQ.out.cell (p := ⟨g, j * 6 + q, none⟩) hg).trans (HCL.out j t ht q hq)
          have q0 := hcl 0 (by omega)
          have q1 := hcl 1 (by omega)
          have q3 := hcl 3 (by omega)
          simp only [TyV.cells, List.getElem?_cons_zero, List.getElem?_cons_succ, Nat.add_zero] at q0 q1 q3
          have hnm : us.map (fun t => t.name) = nmsK σ.ts := by rw [← HK.out]; unfold nmsK; rw [List.map_map]; rfl
          have HNM := Lib.hid hnm
          have HRD := Lib.hid (fun (W : World) (hb : Below w8.heap.size w8 W) (i : Nat) (x : List UInt8) (hx : (nmsK σ.ts)[i]? = some x) => (show W.cell? ⟨g, i * 6, none⟩ = some (.string ⟨x.toArray⟩) by
            rw [← HNM.out, List.getElem?_map] at hx
            obtain ⟨u, hu, rfl⟩ := Option.map_eq_some_iff.1 hx
            exact (hb.cell (p := ⟨g, i * 6, none⟩) hg).trans (HCL.out i u hu 0 (by omega))))
          have hnl : (nmsK σ.ts).length = n := by rw [← HNM.out, List.length_map]; exact HN.out
          have HNL := Lib.hid hnl
          have A1 := Lib.hid (fun m : Nat => (rat_any g n cap (nmsK σ.ts) ⟨t.name.toArray⟩ (wq1.drewN m) HNL.out hcap (by omega) (HRD.out _ (HQ.out.trans ((below_drewN (Below.refl wq1.heap.size wq1) m).mono HQ.out.size)))).mono (R' := fun e w' => e = .returned (.int .i64 j) ∧ w' = wq1.drewN m) fun e w' hq => ⟨hq.1.trans (by
            rw [show (⟨t.name.toArray⟩ : ByteArray).toList = t.key.1 by rw [ByteArray.toList_eq]; rfl, nodup_at HO.out.nodup HKJ.out]), hq.2.symm⟩)
          have hjn : j < us.length := by rw [HN.out]; exact hjl
          have AT := Lib.hid (fun (W : World) (hW : Below w8.heap.size w8 W) (m : Nat) (x : List UInt8) (hx : x ∈ nmsK (σ.ts.take j)) => (rat_any g j cap (nmsK (σ.ts.take j)) ⟨x.toArray⟩ (W.drewN m) (by unfold nmsK; rw [List.length_map, List.length_take]; unfold nmsK at hnl; rw [List.length_map] at hnl; omega) (by omega) (by omega) (fun i y hy => HRD.out _ (hW.trans ((below_drewN (Below.refl W.heap.size W) m).mono hW.size)) i y (by
            unfold nmsK at hy ⊢
            rw [List.map_take, List.getElem?_take] at hy
            split at hy
            · exact hy
            · cases hy))).mono (R' := fun e w' => e = .returned (.int .i64 (atOf (nmsK (σ.ts.take j)) x)) ∧ w' = W.drewN m) fun e w' hq => ⟨hq.1.trans (by rw [ByteArray.toList_eq]), hq.2.symm⟩)
          have hi1 : (0 : Int) ≤ (j : Int) := by omega
          have hi2 : (j : Int) < (n : Int) := by omega
          have hi3 : (j : Int) ≤ (cap : Int) := by omega
          have HQ2 := Lib.hid (fun m => HQ.out.trans ((below_drewN (Below.refl wq1.heap.size wq1) m).mono HQ.out.size))
          by_cases hj0 : 0 < j
          · have hsup : t.sup ∈ nmsK (σ.ts.take j) := HO.out.sup j t.key HKJ.out hj0
            obtain ⟨js, hjs, hjsl⟩ := mem_at hsup
            have A2 := Lib.hid (fun m : Nat => (AT.out wq1 HQ.out m t.sup hsup).mono (R' := fun e w' => e = .returned (.int .i64 js) ∧ w' = wq1.drewN m) fun e w' hq => ⟨hq.1.trans (by rw [hjs]), hq.2⟩)
            have d1 : decide (0 < (j : Int)) = true := by simp; omega
            have d2 : decide ((js : Int) < 0) = false := by simp
            clear hsup hjs hjsl ht hK hcl hnm hnl
            go_wp2_with fail
            go_quiet ((first | (go_at_call 16; with_reducible exact Calls.quiet_of_same (A1.out _)) | (go_at_call 16; with_reducible exact Calls.quiet_of_same (A2.out _))))
            all_goals
              go_wp2_with fail
              have hifs := HIS.out t (List.mem_of_getElem? HTJ.out)
              obtain ⟨Ai, ki, ei, _, hil, _, h5⟩ := hifs
              have EI := Lib.hid ei
              have H5 := Lib.hid h5
              clear ei h5
              go_loopw [12] (fun i wz => ∃ k3 : Nat, k3 ≤ t.ifl.length ∧ i = .int .i64 k3 ∧ Hid (Below w8.heap.size w8 wz)) (fun i _ => t.ifl.length - (RowKit.intOf i).toNat)
              case atStart => exact ⟨0, by omega, rfl, Lib.hid (HQ2.out _)⟩
              case round =>
                obtain ⟨wz1, hwz⟩ : ∃ W, W = wr := ⟨_, rfl⟩
                subst hwz
                obtain ⟨k3, hk3, rfl, HZ⟩ := hrel
                have q3 : wz1.cell? ⟨g, j * 6 + 3, none⟩ = some (.slice Ai t.ifl.length ki) := ((HZ.out.cell (p := ⟨g, j * 6 + 3, none⟩) hg).trans (HCL.out j t HTJ.out 3 (by omega))).trans (by show some t.ifs = _; rw [EI.out])
                by_cases hk3l : k3 < t.ifl.length
                · obtain ⟨x, hx⟩ : ∃ x, t.ifl[k3]? = some x := ⟨_, List.getElem?_eq_getElem hk3l⟩
                  obtain ⟨bi, oi, hAi, hbi, _, hci⟩ := H5.out (by omega)
                  subst hAi
                  have ci := (HZ.out.cell (p := ⟨bi, oi + k3, none⟩) hbi).trans (hci k3 (.string ⟨x.toArray⟩) (by unfold TyV.ifCells; rw [List.getElem?_map, hx]; rfl))
                  have hfi := HO.out.ifs j t.key HKJ.out x (List.mem_of_getElem? hx)
                  obtain ⟨jf, u, hjf, hu, hfl⟩ := face_at hfi
                  have hxm : x ∈ nmsK (σ.ts.take j) := by
                    obtain ⟨j', u', a1, a2, _⟩ := hfi
                    rw [← a2]
                    exact List.mem_map.2 ⟨u', List.mem_of_getElem? a1, rfl⟩
                  have A3 := Lib.hid (fun m : Nat => (AT.out wz1 HZ.out m x hxm).mono (R' := fun e w' => e = .returned (.int .i64 jf) ∧ w' = wz1.drewN m) fun e w' hq => ⟨hq.1.trans (by rw [hjf]), hq.2⟩)
                  have hjfj : jf < j := by have h := (List.getElem?_eq_some_iff.1 hu).1; rw [List.length_take] at h; omega
                  obtain ⟨uv, huv⟩ : ∃ uv, us[jf]? = some uv := ⟨_, List.getElem?_eq_getElem (by rw [HN.out]; omega)⟩
                  have hacc : uv.acc = u.2.2.1 := by
                    have e1 : σ.ts[jf]? = some uv.key := by rw [← HK.out, List.getElem?_map, huv]; rfl
                    rw [List.getElem?_take, if_pos hjfj, e1] at hu
                    injection hu with hu
                    rw [← hu]
                    rfl
                  rw [← hacc] at hfl
                  have HQA := Lib.hid (fun m : Nat => (show (wz1.drewN m).cell? ⟨g, jf * 6 + 2, none⟩ = some (.int .i64 uv.acc) from ((below_drewN (Below.refl wz1.heap.size wz1) m).cell (p := ⟨g, jf * 6 + 2, none⟩) (Nat.lt_of_lt_of_le hg HZ.out.size)).trans ((HZ.out.cell (p := ⟨g, jf * 6 + 2, none⟩) hg).trans (HCL.out jf uv huv 2 (by omega)))))
                  have hfl2 : (bits .and .i64 uv.acc 512 == 0) = false := by simpa using hfl
                  have hz1 : (0 : Int) ≤ (jf : Int) := by omega
                  have hz2 : (jf : Int) < (n : Int) := by omega
                  have hz3 : decide ((jf : Int) < 0) = false := by simp
                  have hz4 : (k3 : Int) < (t.ifl.length : Int) := by omega
                  have HZ2 := Lib.hid (fun m => HZ.out.trans ((below_drewN (Below.refl wz1.heap.size wz1) m).mono HZ.out.size))
                  clear hx hci hfi hu hxm hjf huv hacc hfl
                  go_wp2_with fail
                  go_quiet ((go_at_call 16; exact Calls.quiet_of_same (A3.out _)))
                  all_goals
                    have qa := fun m => HQA.out m
                    go_wp2_with fail
                    go_roundw
                    case rel => exact ⟨k3 + 1, by omega, by go_num, Lib.hid (HZ2.out _)⟩
                    case measure => simp [RowKit.intOf]; omega
                · go_wp2_with fail
                  go_roundw
                  case rel => exact ⟨j + 1, by omega, by go_num, HZ⟩
                  case measure => simp [RowKit.intOf]; omega
          · have d1 : decide (0 < (j : Int)) = false := by simp; omega
            clear ht hK hcl hnm hnl
            go_wp2_with fail
            go_quiet ((go_at_call 16; exact Calls.quiet_of_same (A1.out _)))
            all_goals
              go_wp2_with fail
              have hifs := HIS.out t (List.mem_of_getElem? HTJ.out)
              obtain ⟨Ai, ki, ei, _, hil, _, h5⟩ := hifs
              have EI := Lib.hid ei
              have H5 := Lib.hid h5
              clear ei h5
              go_loopw [12] (fun i wz => ∃ k3 : Nat, k3 ≤ t.ifl.length ∧ i = .int .i64 k3 ∧ Hid (Below w8.heap.size w8 wz)) (fun i _ => t.ifl.length - (RowKit.intOf i).toNat)
              case atStart => exact ⟨0, by omega, rfl, Lib.hid (HQ2.out _)⟩
              case round =>
                obtain ⟨wz1, hwz⟩ : ∃ W, W = wr := ⟨_, rfl⟩
                subst hwz
                obtain ⟨k3, hk3, rfl, HZ⟩ := hrel
                have q3 : wz1.cell? ⟨g, j * 6 + 3, none⟩ = some (.slice Ai t.ifl.length ki) := ((HZ.out.cell (p := ⟨g, j * 6 + 3, none⟩) hg).trans (HCL.out j t HTJ.out 3 (by omega))).trans (by show some t.ifs = _; rw [EI.out])
                by_cases hk3l : k3 < t.ifl.length
                · obtain ⟨x, hx⟩ : ∃ x, t.ifl[k3]? = some x := ⟨_, List.getElem?_eq_getElem hk3l⟩
                  obtain ⟨bi, oi, hAi, hbi, _, hci⟩ := H5.out (by omega)
                  subst hAi
                  have ci := (HZ.out.cell (p := ⟨bi, oi + k3, none⟩) hbi).trans (hci k3 (.string ⟨x.toArray⟩) (by unfold TyV.ifCells; rw [List.getElem?_map, hx]; rfl))
                  have hfi := HO.out.ifs j t.key HKJ.out x (List.mem_of_getElem? hx)
                  obtain ⟨jf, u, hjf, hu, hfl⟩ := face_at hfi
                  have hxm : x ∈ nmsK (σ.ts.take j) := by
                    obtain ⟨j', u', a1, a2, _⟩ := hfi
                    rw [← a2]
                    exact List.mem_map.2 ⟨u', List.mem_of_getElem? a1, rfl⟩
                  have A3 := Lib.hid (fun m : Nat => (AT.out wz1 HZ.out m x hxm).mono (R' := fun e w' => e = .returned (.int .i64 jf) ∧ w' = wz1.drewN m) fun e w' hq => ⟨hq.1.trans (by rw [hjf]), hq.2⟩)
                  have hjfj : jf < j := by have h := (List.getElem?_eq_some_iff.1 hu).1; rw [List.length_take] at h; omega
                  exact absurd hjfj (by omega)
                · go_wp2_with fail
                  go_roundw
                  case rel => exact ⟨j + 1, by omega, by go_num, HZ⟩
                  case measure => simp [RowKit.intOf]; omega
        · go_wp2_with fail
          go_ret
          exact ⟨rfl, B8.out.trans (HQ.out.mono B8.out.size)⟩
end Go.Proofs.YtdbniocnjhfhdaaGreatDoor
