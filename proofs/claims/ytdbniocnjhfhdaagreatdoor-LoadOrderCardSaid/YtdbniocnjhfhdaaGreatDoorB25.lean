/-
  What the loader's laws rest on, part 25: walks of the program's functions and plain laws. Conditions: none but those that each theorem names.
-/
import Derived.Test.YtdbniocnjhfhdaaGreatDoorB24
import Derived.Test.YtdbniocnjhfhdaaGreatDoorB15
import Derived.Test.YtdbniocnjhfhdaaGreatDoorB00
import Derived.ProofKit
import Derived.OpenShut
import Derived.Lib.SmallJoins
import Derived.Deep.Slices
import Derived.Deep.Strs
import Derived.ChangeSlices
import Derived.Test.YtdbniocnjhfhdaaGreatDoorB17

set_option linter.unusedSimpArgs false
set_option linter.unusedVariables false
set_option maxRecDepth 100000
set_option maxHeartbeats 60000000
namespace Go.Proofs.YtdbniocnjhfhdaaGreatDoor
open Go Go.RowKit Lib
theorem OlB.of_but {w : World} {cells tc tc' : List Value} {G M : Nat} {wk W' : World} (h : OlB w cells G tc wk) (hb : But M [G + 1] wk W') (hM : G + 1 < M) (hG : w.heap.size + 2 ≤ G) (hX : Bx W' (G + 1) tc' 39) : OlB w cells G tc' W' :=
  ⟨⟨h.ol.bel.trans (hb.mono (S' := []) (by omega) (fun k hk hm => by simp at hm; omega)).below, (hb.block _ (by omega) (by simp; omega)).trans h.ol.bc, (hb.block _ (by omega) (by simp; omega)).trans h.ol.nr⟩, (hb.block _ (by omega) (by simp)).trans h.bb, hX⟩
theorem outline_any (c : ClassV) (p i f m : Value) (ok : Nat → Prop) (w : World) (h : ClassAt w ok c p i f m) (hFi : ClassFine c) (E : Int)
    (hchk : ∀ W, ClassAt W ok c p i f m → Calls Tryz.prog 95 #[bookV c p i f m] W fun e W' => e = .returned (.int .i64 E) ∧ Below W.heap.size W W') (hil : c.ifs.length ≤ 64) (hfl : c.flds.length ≤ 64) (hml : c.mths.length ≤ 64) :
    Calls Tryz.prog 68 #[bookV c p i f m] w (OutPost c E w) := by
  obtain ⟨Ap, kp, rfl, hkp1, hkp2⟩ := sl_len h.hpool
  obtain ⟨Ai, ki, rfl, hki1, hki2⟩ := sl_len h.hifs
  obtain ⟨Af, kf, rfl, hkf1, hkf2⟩ := sl_len h.hflds
  obtain ⟨ms, hms1, hms2, hms3⟩ := h.hmths
  obtain ⟨Am, km, rfl, hkm1, hkm2⟩ := sl_len hms2
  have H0 := Lib.hid h
  have HN1 := Lib.hid hFi.this
  have HN2 := Lib.hid hFi.sup
  have HF := Lib.hid (fun k hk => (hFi.pool k hk).1)
  have HFI := Lib.hid hFi.ifs
  have HTX := Lib.hid (show ∀ k ∈ c.pool, k.text.size ≤ 65536 from fun k hk => (hFi.pool k hk).2.2.1)
  have HFF := Lib.hid hFi.flds
  have HFM := Lib.hid hFi.mths
  have HCH := Lib.hid hchk
  have B1 := Lib.hid (show OlW w [.int .i64 c.minor, .int .i64 c.major, .slice Ap c.pool.length kp, .int .i64 c.acc, .int .i64 c.this, .int .i64 c.sup, .slice Ai c.ifs.length ki, .slice Af c.flds.length kf, .slice Am c.mths.length km] ((w.alloc (.cells ([.int .i64 c.minor, .int .i64 c.major, .slice Ap c.pool.length kp, .int .i64 c.acc, .int .i64 c.this, .int .i64 c.sup, .slice Ai c.ifs.length ki, .slice Af c.flds.length kf, .slice Am c.mths.length km]).toArray 58)).alloc (.cells zeroTyp.toArray 39)) from ⟨((Below.refl _ _).alloc (Nat.le_refl _) _).alloc (by simp) _, (bx_new w _ _).below ((Below.refl _ _).alloc (Nat.le_refl _) _) (by simp), bx_new_at _ _ _ _ (by simp)⟩)
  have HMS := Lib.hid hms1
  have HM2 := Lib.hid hms2
  have HM3 := Lib.hid hms3
  clear h hFi hchk hms1 hms2 hms3
  rw [bookV_open]
  go_enter Tryz.func68, Tryz.ntmps68
  go_wp2_with (first
    | (refine wpList_load_row rfl _ _ rfl w.heap.size rfl _ _ _ _ B1.out.bc Tryz.underlying58 rfl (by kernel_rfl) ?_)
    | (go_at_call 95; refine stop_here ?_))
  refine go_on ?_
  refine (HCH.out _ (H0.out.keep (Kept.of_below B1.out.bel))).mono ?_
  rintro e w2 ⟨rfl, hb⟩
  have B2 := Lib.hid (B1.out.below hb)
  have hz2 := B2.out.nr.lt
  clear hb B1 HCH
  by_cases hE : E = 0
  · subst hE
    go_wp2_with (first
      | (refine wpList_load_row rfl _ _ rfl w.heap.size rfl _ _ _ _ (B2.out.below ((Below.refl _ _).alloc (Nat.le_refl _) _)).bc Tryz.underlying58 rfl (by kernel_rfl) ?_)
      | (refine wpList_load_row rfl _ _ rfl w.heap.size rfl _ _ _ _ B2.out.bc Tryz.underlying58 rfl (by kernel_rfl) ?_)
      | (refine wpList_store_row rfl _ _ _ rfl w2.heap.size _ rfl rfl _ _ (bx_new _ [.int .i64 0, .int .i64 0, .slice none 0 0, .int .i64 0, .int .i64 0, .int .i64 0, .slice none 0 0, .slice none 0 0, .slice none 0 0] _) (by kernel_rfl) rfl (by simp [Value.oneCell']) ?_; refine stop_here ?_))
    refine go_on ?_
    have B3 := Lib.hid ((B2.out.below ((Below.refl _ _).alloc (Nat.le_refl _) (.cells #[.int .i64 0, .int .i64 0, .slice none 0 0, .int .i64 0, .int .i64 0, .int .i64 0, .slice none 0 0, .slice none 0 0, .slice none 0 0] 179))).row w2.heap.size ([.int .i64 c.minor, .int .i64 c.major, .slice Ap c.pool.length kp, .int .i64 c.acc, .int .i64 c.this, .int .i64 c.sup, .slice Ai c.ifs.length ki, .slice Af c.flds.length kf, .slice Am c.mths.length km]).toArray (by omega))
    have K3 := Lib.hid ((bx_new w2 [.int .i64 0, .int .i64 0, .slice none 0 0, .int .i64 0, .int .i64 0, .int .i64 0, .slice none 0 0, .slice none 0 0, .slice none 0 0] 179).row [.int .i64 c.minor, .int .i64 c.major, .slice Ap c.pool.length kp, .int .i64 c.acc, .int .i64 c.this, .int .i64 c.sup, .slice Ai c.ifs.length ki, .slice Af c.flds.length kf, .slice Am c.mths.length km])
    have hz3 : ((w2.alloc (.cells #[.int .i64 0, .int .i64 0, .slice none 0 0, .int .i64 0, .int .i64 0, .int .i64 0, .slice none 0 0, .slice none 0 0, .slice none 0 0] 179)).setRow w2.heap.size ([.int .i64 c.minor, .int .i64 c.major, .slice Ap c.pool.length kp, .int .i64 c.acc, .int .i64 c.this, .int .i64 c.sup, .slice Ai c.ifs.length ki, .slice Af c.flds.length kf, .slice Am c.mths.length km]).toArray).heap.size = w2.heap.size + 1 := by simp
    generalize (w2.alloc (.cells #[.int .i64 0, .int .i64 0, .slice none 0 0, .int .i64 0, .int .i64 0, .int .i64 0, .slice none 0 0, .slice none 0 0, .slice none 0 0] 179)).setRow w2.heap.size ([.int .i64 c.minor, .int .i64 c.major, .slice Ap c.pool.length kp, .int .i64 c.acc, .int .i64 c.this, .int .i64 c.sup, .slice Ai c.ifs.length ki, .slice Af c.flds.length kf, .slice Am c.mths.length km]).toArray = w3 at *
    obtain ⟨G, hG⟩ : ∃ G, w2.heap.size = G := ⟨_, rfl⟩
    rw [hG] at hz3 hz2 K3 ⊢
    have HG2 : w.heap.size + 2 ≤ G := by omega
    clear B2 hG
    have m3 := B3.out.bc.cell 3 rfl
    go_wp2_with (first
      | (refine wpList_store_row rfl _ _ _ rfl (G + 1) _ rfl rfl _ _ (bx_new_at w3 zeroTyp _ (G + 1) hz3.symm) (by kernel_rfl) rfl (by simp [Value.oneCell']) ?_; refine stop_here ?_))
    refine go_on ?_
    have B4 := Lib.hid (show OlB w [.int .i64 c.minor, .int .i64 c.major, .slice Ap c.pool.length kp, .int .i64 c.acc, .int .i64 c.this, .int .i64 c.sup, .slice Ai c.ifs.length ki, .slice Af c.flds.length kf, .slice Am c.mths.length km] G [.string ⟨#[]⟩, .string ⟨#[]⟩, .int .i64 c.acc, .slice none 0 0, .slice none 0 0, .slice none 0 0] ((w3.alloc (.cells #[.string ⟨#[]⟩, .string ⟨#[]⟩, .int .i64 0, .slice none 0 0, .slice none 0 0, .slice none 0 0] 39)).setRow (G + 1) #[.string ⟨#[]⟩, .string ⟨#[]⟩, .int .i64 c.acc, .slice none 0 0, .slice none 0 0, .slice none 0 0]) from
      ⟨(B3.out.below ((Below.refl _ _).alloc (Nat.le_refl _) _)).row _ _ (by omega), (show _ = _ from (setRow_other _ _ _ _ (by omega)).trans (K3.out.below ((Below.refl _ _).alloc (Nat.le_refl _) _) K3.out.lt)), (bx_new_at w3 [.string ⟨#[]⟩, .string ⟨#[]⟩, .int .i64 0, .slice none 0 0, .slice none 0 0, .slice none 0 0] _ (G + 1) hz3.symm).row _⟩)
    have hz4 : ((w3.alloc (.cells #[.string ⟨#[]⟩, .string ⟨#[]⟩, .int .i64 0, .slice none 0 0, .slice none 0 0, .slice none 0 0] 39)).setRow (G + 1) #[.string ⟨#[]⟩, .string ⟨#[]⟩, .int .i64 c.acc, .slice none 0 0, .slice none 0 0, .slice none 0 0]).heap.size = G + 2 := by simp; omega
    generalize (w3.alloc (.cells #[.string ⟨#[]⟩, .string ⟨#[]⟩, .int .i64 0, .slice none 0 0, .slice none 0 0, .slice none 0 0] 39)).setRow (G + 1) #[.string ⟨#[]⟩, .string ⟨#[]⟩, .int .i64 c.acc, .slice none 0 0, .slice none 0 0, .slice none 0 0] = w4 at *
    clear B3 K3 m3
    have m4 := B4.out.ol.bc.cell 4 rfl
    go_wp2_with (first
      | (refine wpList_load_row rfl _ _ rfl G rfl _ _ _ _ B4.out.bb Tryz.underlying179 rfl (by kernel_rfl) ?_)
      | (go_at_call 96; refine stop_here ?_))
    refine go_on ?_
    refine (name_book c Ap kp (.slice Ai c.ifs.length ki) (.slice Af c.flds.length kf) (.slice Am c.mths.length km) c.this ok _ ⟨(B4.out.at H0.out).hpool, rfl, rfl, rfl⟩ HN1.out HF.out).mono ?_
    rintro e w5 ⟨rfl, hb⟩
    simp only [optV]
    have hz5 := hb.size
    have B5 := Lib.hid (B4.out.below hb)
    have B6 := Lib.hid ((B4.out.below hb).set HG2 0 (.string ((nameAt c.pool c.this).getD ⟨#[]⟩)))
    have t0 := B5.out.tb.cell 0 rfl
    have z0 := B5.out.tb.frozen 0
    have m5 := B6.out.ol.bc.cell 5 rfl
    clear hb m4 B4
    go_wp2_with (first
      | (refine wpList_load_row rfl _ _ rfl G rfl _ _ _ _ B6.out.bb Tryz.underlying179 rfl (by kernel_rfl) ?_)
      | (go_at_call 96; refine stop_here ?_))
    refine go_on ?_
    refine (name_book c Ap kp (.slice Ai c.ifs.length ki) (.slice Af c.flds.length kf) (.slice Am c.mths.length km) c.sup ok _ ⟨(B6.out.at H0.out).hpool, rfl, rfl, rfl⟩ HN2.out HF.out).mono ?_
    rintro e w6 ⟨rfl, hb⟩
    simp only [optV]
    have hz6 := hb.size
    simp only [World.size_setCell] at hz6
    have B7 := Lib.hid (B6.out.below hb)
    have B8 := Lib.hid ((B6.out.below hb).set HG2 1 (.string ((nameAt c.pool c.sup).getD ⟨#[]⟩)))
    have t1 := B7.out.tb.cell 1 rfl
    have z1 := B7.out.tb.frozen 1
    have m6 := B8.out.ol.bc.cell 6 rfl
    clear hb m5 B6 t0 z0
    go_wp2_with fail
    have hz7 : (w6.setCell ⟨G + 1, 1, none⟩ (.string ((nameAt c.pool c.sup).getD ⟨#[]⟩))).heap.size = w6.heap.size := by simp
    generalize w6.setCell ⟨G + 1, 1, none⟩ (.string ((nameAt c.pool c.sup).getD ⟨#[]⟩)) = w7 at *
    clear m6 t1 z1 B5 B7
    go_loopw [55] (fun i wr => ∃ (k : Nat) (pv : Value), k ≤ c.ifs.length ∧ i = .int .i64 k ∧ G + 2 ≤ wr.heap.size ∧ Hid (OlB w [.int .i64 c.minor, .int .i64 c.major, .slice Ap c.pool.length kp, .int .i64 c.acc, .int .i64 c.this, .int .i64 c.sup, .slice Ai c.ifs.length ki, .slice Af c.flds.length kf, .slice Am c.mths.length km] G [.string ((nameAt c.pool c.this).getD ⟨#[]⟩), .string ((nameAt c.pool c.sup).getD ⟨#[]⟩), .int .i64 c.acc, pv, .slice none 0 0, .slice none 0 0] wr) ∧ Hid (wr.ownsRow (G + 2) 9 1 pv k ((c.ifs.take k).map fun n => .string (nameD c.pool n)))) (fun i _ => c.ifs.length - (RowKit.intOf i).toNat)
    case atStart => exact ⟨0, .slice none 0 0, by omega, rfl, by omega, B8, Lib.hid (World.ownsRow_nil _ _ _ _)⟩
    case round =>
      obtain ⟨wr1, hwr⟩ : ∃ W, W = wr := ⟨_, rfl⟩
      subst hwr
      obtain ⟨k, pv, hk, rfl, hzr, Br, HO⟩ := hrel
      by_cases hlt : k < c.ifs.length
      · obtain ⟨x, hx⟩ : ∃ x, c.ifs[k]? = some x := ⟨_, List.getElem?_eq_getElem hlt⟩
        have HX := Lib.hid (show c.ifs.take (k + 1) = c.ifs.take k ++ [x] by rw [List.take_succ_eq_append_getElem hlt, (List.getElem?_eq_some_iff.1 hx).2])
        have HFX := Lib.hid (HFI.out x (List.mem_of_getElem? hx))
        obtain ⟨A', cap', e', _, _, _, h5⟩ := (Br.out.at H0.out).hifs
        injection e' with e1 _ e3
        subst e1
        subst e3
        obtain ⟨b, off, hAi, hbl, _, hc⟩ := h5 (by omega)
        have ci := hc k (.int .i64 x) (by rw [List.getElem?_map, hx]; rfl)
        subst hAi
        obtain ⟨x1, x2, x3, x4, x5, x6, x7, x8, x9, x10, x11, x12⟩ := far b wr1.heap.size hbl
        clear hx h5 hc
        go_wp2_with (first
          | (refine wpList_load_row rfl _ _ rfl G rfl _ _ _ _ Br.out.bb Tryz.underlying179 rfl (by kernel_rfl) ?_)
          | (go_at_call 96; refine stop_here ?_))
        refine go_on ?_
        refine (name_book c Ap kp (.slice (some ⟨b, off, none⟩) c.ifs.length ki) (.slice Af c.flds.length kf) (.slice Am c.mths.length km) x ok _ ⟨(Br.out.at H0.out).hpool, rfl, rfl, rfl⟩ HFX.out HF.out).mono ?_
        rintro e w8 ⟨rfl, hb⟩
        simp only [optV]
        have hz8 := hb.size
        have B9 := Lib.hid (Br.out.below hb)
        have HO9 := Lib.hid (own_heap HO.out fun q hq => hb.block q (HO.out.lt q hq).2)
        have t3 := B9.out.tb.cell 3 rfl
        clear hb ci
        go_wp2_with (at_builtin; refine wpl_lies rfl _ _ 36 rfl Tryz.underlying36 info_string rfl (by omega) (G + 2) rfl (HO9.out.alloc _) rfl rfl (fun _ => ⟨_, rfl, cells_new_at _ _ _ _ (by simp)⟩) (by simp [Value.oneCell']) (by omega) (by simp only [maxLen]; omega) (by omega) (by simp; omega) ?_; intro g3 c3 w9 ho3 hg3 hb3 hgg3 hlt3; refine stop_here ?_)
        refine go_on ?_
        have hz9 := hb3.size
        simp only [World.size_alloc] at hz9
        have B10 := Lib.hid ((B9.out.below ((Below.refl _ _).alloc (Nat.le_refl _) _)).low hb3 HG2)
        have B11 := Lib.hid (B10.out.set HG2 3 (.slice (some ⟨g3, 0, none⟩) (k + 1) c3))
        have hge := (ho3.lt g3 rfl).1
        have HO11 := Lib.hid (own_set ho3 (p := ⟨G + 1, 3, none⟩) (by simp; omega) (.slice (some ⟨g3, 0, none⟩) (k + 1) c3))
        have t3' := B10.out.tb.cell 3 rfl
        have z3' := B10.out.tb.frozen 3
        clear t3 ho3 hg3 hb3 hgg3
        go_wp2_with fail
        go_roundw
        case rel => exact ⟨k + 1, _, by omega, by go_num, by simp; omega, B11, Lib.hid (own_eq HO11.out rfl (by rw [HX.out, List.map_append]; rfl))⟩
        case measure => simp [RowKit.intOf]; omega
      · obtain rfl : k = c.ifs.length := by omega
        obtain ⟨Ao, ko, hpv⟩ := own_slice HO.out
        subst hpv
        have hrow := HO.out
        rw [List.take_length] at hrow
        clear hlt
        obtain ⟨M2, hM2⟩ : ∃ M, wr1.heap.size = M := ⟨_, rfl⟩
        have HM2 := Lib.hid hM2
        have HIF := Lib.hid (slAt_own hrow (fun g => G + 2 ≤ g ∧ g < M2) (by omega) (by omega) (fun q hq => ⟨(hrow.lt q hq).1, by have := (hrow.lt q hq).2; omega⟩))
        obtain ⟨wM2, hwM2⟩ : ∃ W, W = wr1 := ⟨_, rfl⟩
        subst hwM2
        have BS := Br
        have hGM := hzr
        have hGM2 : G + 2 ≤ M2 := by omega
        have hltM := Br.out.tb.lt
        clear Br HO hrow hzr hM2
        have m7 := BS.out.ol.bc.cell 7 rfl
        go_wp2_with fail
        clear m7
        go_loopw [75] (fun i wr => ∃ (k : Nat) (pv : Value), k ≤ c.flds.length ∧ i = .int .i64 k ∧ M2 ≤ wr.heap.size ∧ Hid (OlB w [.int .i64 c.minor, .int .i64 c.major, .slice Ap c.pool.length kp, .int .i64 c.acc, .int .i64 c.this, .int .i64 c.sup, .slice Ai c.ifs.length ki, .slice Af c.flds.length kf, .slice Am c.mths.length km] G [.string ((nameAt c.pool c.this).getD ⟨#[]⟩), .string ((nameAt c.pool c.sup).getD ⟨#[]⟩), .int .i64 c.acc, .slice Ao c.ifs.length ko, pv, .slice none 0 0] wr) ∧ Hid (But M2 [G + 1] wM2 wr) ∧ Hid (wr.ownsRow M2 52 5 pv k (((c.flds.take k).map (memF c.pool)).flatMap MemV.cells))) (fun i _ => c.flds.length - (RowKit.intOf i).toNat)
        case atStart => exact ⟨0, .slice none 0 0, by omega, rfl, Nat.le_of_eq HM2.out.symm, BS, Lib.hid (But.refl _ _ _), Lib.hid (World.ownsRow_nil _ _ _ _)⟩
        case round =>
          obtain ⟨wr1, hwr⟩ : ∃ W, W = wr := ⟨_, rfl⟩
          subst hwr
          obtain ⟨k, pv, hk, rfl, hzr, Br, HBT, HO⟩ := hrel
          by_cases hlt : k < c.flds.length
          · obtain ⟨x, hx⟩ : ∃ x, c.flds[k]? = some x := ⟨_, List.getElem?_eq_getElem hlt⟩
            have HX := Lib.hid (show c.flds.take (k + 1) = c.flds.take k ++ [x] by rw [List.take_succ_eq_append_getElem hlt, (List.getElem?_eq_some_iff.1 hx).2])
            have HFX := Lib.hid (HFF.out x (List.mem_of_getElem? hx))
            obtain ⟨b, off, hAf, hbl, p0, p1, p2, p3⟩ := fld_cells (Br.out.at H0.out).hflds k x hx
            subst hAf
            obtain ⟨x1, x2, x3, x4, x5, x6, x7, x8, x9, x10, x11, x12⟩ := far b wr1.heap.size hbl
            have B5 := Lib.hid (Br.out.below ((Below.refl wr1.heap.size wr1).alloc (Nat.le_refl _) (.cells #[.int .i64 x.acc, .int .i64 x.name, .int .i64 x.desc, .int .i64 x.value] 119)))
            have F5 := Lib.hid (bx_new wr1 [.int .i64 x.acc, .int .i64 x.name, .int .i64 x.desc, .int .i64 x.value] 119)
            have hz5 : (wr1.alloc (.cells #[.int .i64 x.acc, .int .i64 x.name, .int .i64 x.desc, .int .i64 x.value] 119)).heap.size = wr1.heap.size + 1 := by simp
            have HB5 := Lib.hid ((Below.refl wr1.heap.size wr1).alloc (Nat.le_refl _) (.cells #[.int .i64 x.acc, .int .i64 x.name, .int .i64 x.desc, .int .i64 x.value] 119))
            have hbG := Br.out.tb.lt
            clear hx
            obtain ⟨nm, hnm⟩ : ∃ s, textD c.pool x.name = s := ⟨_, rfl⟩
            obtain ⟨ds, hds⟩ : ∃ s, textD c.pool x.desc = s := ⟨_, rfl⟩
            have HNM := Lib.hid hnm
            have HDS := Lib.hid hds
            have hnl : nm.size ≤ 65536 := by rw [← hnm]; exact text_le HTX.out
            have hdl : ds.size ≤ 65536 := by rw [← hds]; exact text_le HTX.out
            clear hnm hds
            go_wp2_with (first
              | (refine wpList_load_row rfl _ _ rfl G rfl _ _ _ _ B5.out.bb Tryz.underlying179 rfl (by kernel_rfl) ?_)
              | (go_at_call 97; refine stop_here ?_))
            refine go_on ?_
            refine (text_book c Ap kp _ _ _ x.name ok _ ⟨(B5.out.at H0.out).hpool, rfl, rfl, rfl⟩ HFX.out.1).mono ?_
            rintro e w6 ⟨rfl, hb⟩
            simp only [optV]
            rw [show (textAt c.pool x.name).getD ⟨#[]⟩ = nm from HNM.out]
            have hz6 := hb.size
            rw [hz5] at hz6
            have B6 := Lib.hid (B5.out.below hb)
            have F6 := Lib.hid (F5.out.below hb (by omega))
            have HB6 := Lib.hid (HB5.out.trans (hb.mono (by omega)))
            have f2 := F6.out.cell 2 rfl
            clear hb p0 p1 p2 p3
            go_wp2_with (first
              | (refine wpList_load_row rfl _ _ rfl G rfl _ _ _ _ B6.out.bb Tryz.underlying179 rfl (by kernel_rfl) ?_)
              | (go_at_call 97; refine stop_here ?_))
            refine go_on ?_
            refine (text_book c Ap kp _ _ _ x.desc ok _ ⟨(B6.out.at H0.out).hpool, rfl, rfl, rfl⟩ HFX.out.2.1).mono ?_
            rintro e w7 ⟨rfl, hb⟩
            simp only [optV]
            rw [show (textAt c.pool x.desc).getD ⟨#[]⟩ = ds from HDS.out]
            have hz7 := hb.size
            have B7 := Lib.hid (B6.out.below hb)
            have F7 := Lib.hid (F6.out.below hb (by omega))
            have HB7 := Lib.hid (HB6.out.trans (hb.mono (by omega)))
            clear hb f2
            have f3 := F7.out.cell 3 rfl
            go_wp2_with (first
              | (refine wpList_load_row rfl _ _ rfl G rfl _ _ _ _ B7.out.bb Tryz.underlying179 rfl (by kernel_rfl) ?_)
              | (go_at_call 98; refine stop_here ?_))
            refine go_on ?_
            refine (at_book c Ap kp _ _ _ x.value 3 ok _ (B7.out.at H0.out).hpool rfl rfl rfl HFX.out.2.2.2 HFX.out.2.2.1).mono ?_
            rintro e w8 ⟨rfl, hb⟩
            obtain ⟨kq, hko⟩ : ∃ kq, (kindAt c.pool x.value 3).getD koZero = kq := ⟨_, rfl⟩
            have HKO := Lib.hid hko
            simp only [kindV, koV]
            rw [hko]
            clear hko
            have hz8 := hb.size
            have B8 := Lib.hid ((B7.out.below hb).below ((Below.refl w8.heap.size w8).alloc (Nat.le_refl _) (.cells #[.int .i64 kq.tag, .string kq.text, .int .i64 kq.num, .int .i64 kq.a, .int .i64 kq.b] 78)))
            have F8 := Lib.hid ((F7.out.below hb (by omega)).below ((Below.refl w8.heap.size w8).alloc (Nat.le_refl _) (.cells #[.int .i64 kq.tag, .string kq.text, .int .i64 kq.num, .int .i64 kq.a, .int .i64 kq.b] 78)) (by omega))
            have K8 := Lib.hid (bx_new w8 [.int .i64 kq.tag, .string kq.text, .int .i64 kq.num, .int .i64 kq.a, .int .i64 kq.b] 78)
            have HB8 := Lib.hid (HB7.out.trans ((hb.trans ((Below.refl w8.heap.size w8).alloc (Nat.le_refl _) (.cells #[.int .i64 kq.tag, .string kq.text, .int .i64 kq.num, .int .i64 kq.a, .int .i64 kq.b] 78) |>.mono hb.size)).mono (by omega)))
            clear hb f3
            go_wp2_with fail
            have hz9 : (w8.alloc (.cells #[.int .i64 kq.tag, .string kq.text, .int .i64 kq.num, .int .i64 kq.a, .int .i64 kq.b] 78)).heap.size = w8.heap.size + 1 := by simp
            generalize w8.alloc (.cells #[.int .i64 kq.tag, .string kq.text, .int .i64 kq.num, .int .i64 kq.a, .int .i64 kq.b] 78) = w9 at *
            have hF9 := F8.out.lt
            have hge8 := HB8.out.size
            refine region_fld _ G wr1.heap.size M2 k pv x.acc x.name x.desc x.value w8.heap.size kq.tag kq.num kq.a kq.b kq.text nm ds ([.string ((nameAt c.pool c.this).getD ⟨#[]⟩), .string ((nameAt c.pool c.sup).getD ⟨#[]⟩), .int .i64 c.acc, .slice Ao c.ifs.length ko, pv, .slice none 0 0]) (((c.flds.take k).map (memF c.pool)).flatMap MemV.cells) w9 _ rfl rfl rfl rfl rfl rfl (Lib.hid B8.out.tb) rfl F8 K8 (Lib.hid (own_heap HO.out fun q hq => HB8.out.block q (HO.out.lt q hq).2)) (by omega) (by omega) hzr (by omega) (by omega) (fun g hg => (HO.out.lt g hg).2) hnl hdl (by omega) (fun _ _ _ _ _ h => h) ?_
            intro b' g3 c3 W' hzb hdb hkb hXb hBb hOb hsb
            have B14 := Lib.hid (B8.out.of_but hBb (by omega) HG2 hXb)
            have HBT14 := Lib.hid ((HBT.out.trans ((But.of_below (S := [G + 1]) HB8.out).mono hzr (fun _ _ h => h))).trans hBb)
            have HO14 := Lib.hid (own_eq hOb rfl (show _ = ((c.flds.take (k + 1)).map (memF c.pool)).flatMap MemV.cells by rw [HX.out]; simp only [List.map_append, List.flatMap_append, List.map_cons, List.map_nil, List.flatMap_cons, List.flatMap_nil, List.append_nil]; simp only [memF, MemV.cells, HNM.out, HDS.out, HKO.out]))
            have hbe := act_chain _ b' 100 17 (hk := hkb) (hsz := by rw [hzb]; kernel_rfl) (hd := hdb) (hln := by show 117 ≤ 155; decide) (hn := by decide)
            rw [show List.range 17 = [0, 1, 2, 3, 4, 5, 6, 7, 8, 9, 10, 11, 12, 13, 14, 15, 16] from rfl] at hbe
            simp only [List.take_succ_cons, List.take_zero, List.drop_succ_cons, List.drop_zero, List.map_cons, List.map_nil, List.cons_append, List.nil_append, Nat.reduceAdd] at hbe
            rw [hbe]
            have hgz : M2 ≤ W'.heap.size := by omega
            clear hbe hXb hBb hOb hkb hzb hdb B8 F8 HB8
            clear K8
            go_wp2_with fail
            go_roundw
            case rel => exact ⟨k + 1, _, by omega, by go_num, hgz, B14, HBT14, HO14⟩
            case measure => simp [RowKit.intOf]; omega
          · obtain rfl : k = c.flds.length := by omega
            have hrow := HO.out
            rw [List.take_length] at hrow
            clear hlt
            obtain ⟨M3, hM3⟩ : ∃ M, wr1.heap.size = M := ⟨_, rfl⟩
            have HM3 := Lib.hid hM3
            obtain ⟨Afo, kfo, hpv⟩ := own_slice HO.out
            subst hpv
            have HFL := Lib.hid (slAt_own hrow (fun g => G + 2 ≤ g ∧ g < M3) (by omega) (by omega) (fun q hq => ⟨by have := (hrow.lt q hq).1; omega, by have := (hrow.lt q hq).2; omega⟩))
            have HIF3 := Lib.hid (HIF.out.keep (Kept.of_but (ok := fun g => G + 2 ≤ g ∧ g < M2) (S := [G + 1]) (show But wM2.heap.size [G + 1] wM2 wr1 by rw [HM2.out]; exact HBT.out) (fun g hg hm => by simp at hm; omega)))
            obtain ⟨wM3, hwM3⟩ : ∃ W, W = wr1 := ⟨_, rfl⟩
            subst hwM3
            have BS := Br
            have hGM3 : G + 2 ≤ M3 := by omega
            clear Br HO hrow hzr hM3 HBT
            have m8 := BS.out.ol.bc.cell 8 rfl
            go_wp2_with fail
            clear m8
            go_loopw [121] (fun i wr => ∃ (k : Nat) (pv : Value), k ≤ c.mths.length ∧ i = .int .i64 k ∧ M3 ≤ wr.heap.size ∧ Hid (OlB w [.int .i64 c.minor, .int .i64 c.major, .slice Ap c.pool.length kp, .int .i64 c.acc, .int .i64 c.this, .int .i64 c.sup, .slice Ai c.ifs.length ki, .slice Af c.flds.length kf, .slice Am c.mths.length km] G [.string ((nameAt c.pool c.this).getD ⟨#[]⟩), .string ((nameAt c.pool c.sup).getD ⟨#[]⟩), .int .i64 c.acc, .slice Ao c.ifs.length ko, .slice Afo c.flds.length kfo, pv] wr) ∧ Hid (But M3 [G + 1] wM3 wr) ∧ Hid (wr.ownsRow M3 52 5 pv k (((c.mths.take k).map (memM c.pool)).flatMap MemV.cells))) (fun i _ => c.mths.length - (RowKit.intOf i).toNat)
            case atStart => exact ⟨0, .slice none 0 0, by omega, rfl, Nat.le_of_eq HM3.out.symm, BS, Lib.hid (But.refl _ _ _), Lib.hid (World.ownsRow_nil _ _ _ _)⟩
            case round =>
              obtain ⟨wr1, hwr⟩ : ∃ W, W = wr := ⟨_, rfl⟩
              subst hwr
              obtain ⟨k, pv, hk, rfl, hzr, Br, HBT, HO⟩ := hrel
              by_cases hlt : k < c.mths.length
              · obtain ⟨ms', e1, e2, e3⟩ := (Br.out.at H0.out).hmths
                have hml' : ms'.length = c.mths.length := by rw [← e1, List.length_map]
                obtain ⟨x, cv, tv, hx⟩ : ∃ x cv tv, ms'[k]? = some (x, cv, tv) := ⟨_, _, _, List.getElem?_eq_getElem (by omega)⟩
                have hx' : c.mths[k]? = some x := by rw [← e1, List.getElem?_map, hx]; rfl
                have HX := Lib.hid (show c.mths.take (k + 1) = c.mths.take k ++ [x] by rw [List.take_succ_eq_append_getElem hlt, (List.getElem?_eq_some_iff.1 hx').2])
                have HFX := Lib.hid (HFM.out x (List.mem_of_getElem? hx'))
                obtain ⟨b, off, hAm, hbl, p0, p1, p2, p3, p4, p5, p6, p7⟩ := mth_cells e2 hml' k x cv tv hx
                have hME := e3 (x, cv, tv) (List.mem_of_getElem? hx)
                obtain ⟨Ac, kc, hcv, _⟩ := id hME.hcode
                obtain ⟨At, kt, htv, _⟩ := id hME.htraps
                simp only at hcv htv
                subst hcv
                subst htv
                subst hAm
                clear hx' e1 e2 e3 hml' hME
                obtain ⟨x1, x2, x3, x4, x5, x6, x7, x8, x9, x10, x11, x12⟩ := far b wr1.heap.size hbl
                have B5 := Lib.hid (Br.out.below ((Below.refl wr1.heap.size wr1).alloc (Nat.le_refl _) (.cells #[.int .i64 x.acc, .int .i64 x.name, .int .i64 x.desc, .bool x.has, .int .i64 x.stack, .int .i64 x.locals, .slice Ac x.code.length kc, .slice At x.traps.length kt] 91)))
                have F5 := Lib.hid (bx_new wr1 [.int .i64 x.acc, .int .i64 x.name, .int .i64 x.desc, .bool x.has, .int .i64 x.stack, .int .i64 x.locals, .slice Ac x.code.length kc, .slice At x.traps.length kt] 91)
                have hz5 : (wr1.alloc (.cells #[.int .i64 x.acc, .int .i64 x.name, .int .i64 x.desc, .bool x.has, .int .i64 x.stack, .int .i64 x.locals, .slice Ac x.code.length kc, .slice At x.traps.length kt] 91)).heap.size = wr1.heap.size + 1 := by simp
                have HB5 := Lib.hid ((Below.refl wr1.heap.size wr1).alloc (Nat.le_refl _) (.cells #[.int .i64 x.acc, .int .i64 x.name, .int .i64 x.desc, .bool x.has, .int .i64 x.stack, .int .i64 x.locals, .slice Ac x.code.length kc, .slice At x.traps.length kt] 91))
                have hbG := Br.out.tb.lt
                clear hx
                obtain ⟨nm, hnm⟩ : ∃ s, textD c.pool x.name = s := ⟨_, rfl⟩
                obtain ⟨ds, hds⟩ : ∃ s, textD c.pool x.desc = s := ⟨_, rfl⟩
                have HNM := Lib.hid hnm
                have HDS := Lib.hid hds
                have hnl : nm.size ≤ 65536 := by rw [← hnm]; exact text_le HTX.out
                have hdl : ds.size ≤ 65536 := by rw [← hds]; exact text_le HTX.out
                clear hnm hds
                go_wp2_with (first
                  | (refine wpList_load_row rfl _ _ rfl G rfl _ _ _ _ B5.out.bb Tryz.underlying179 rfl (by kernel_rfl) ?_)
                  | (go_at_call 97; refine stop_here ?_))
                refine go_on ?_
                refine (text_book c Ap kp _ _ _ x.name ok _ ⟨(B5.out.at H0.out).hpool, rfl, rfl, rfl⟩ HFX.out.1).mono ?_
                rintro e w6 ⟨rfl, hb⟩
                simp only [optV]
                rw [show (textAt c.pool x.name).getD ⟨#[]⟩ = nm from HNM.out]
                have hz6 := hb.size
                rw [hz5] at hz6
                have B6 := Lib.hid (B5.out.below hb)
                have F6 := Lib.hid (F5.out.below hb (by omega))
                have HB6 := Lib.hid (HB5.out.trans (hb.mono (by omega)))
                have f2 := F6.out.cell 2 rfl
                clear hb p0 p1 p2 p3 p4 p5 p6 p7
                go_wp2_with (first
                  | (refine wpList_load_row rfl _ _ rfl G rfl _ _ _ _ B6.out.bb Tryz.underlying179 rfl (by kernel_rfl) ?_)
                  | (go_at_call 97; refine stop_here ?_))
                refine go_on ?_
                refine (text_book c Ap kp _ _ _ x.desc ok _ ⟨(B6.out.at H0.out).hpool, rfl, rfl, rfl⟩ HFX.out.2.1).mono ?_
                rintro e w7 ⟨rfl, hb⟩
                simp only [optV]
                rw [show (textAt c.pool x.desc).getD ⟨#[]⟩ = ds from HDS.out]
                have hz7 := hb.size
                have B7 := Lib.hid (B6.out.below hb)
                have F7 := Lib.hid (F6.out.below hb (by omega))
                have HB7 := Lib.hid (HB6.out.trans (hb.mono (by omega)))
                clear hb f2
                have B8 := B7
                have F8 := F7
                have HB8 := HB7
                have f3 := F7.out.cell 3 rfl
                go_wp2_with fail
                have hz9 : w7.heap.size = w7.heap.size := rfl
                obtain ⟨w9, hw9⟩ : ∃ W, W = w7 := ⟨_, rfl⟩
                subst hw9
                clear f3
                have hF9 := F8.out.lt
                have hge8 := HB8.out.size
                refine region_mth _ G wr1.heap.size M3 k pv x.acc x.name x.desc x.has x.stack x.locals (.slice Ac x.code.length kc) (.slice At x.traps.length kt) nm ds ([.string ((nameAt c.pool c.this).getD ⟨#[]⟩), .string ((nameAt c.pool c.sup).getD ⟨#[]⟩), .int .i64 c.acc, .slice Ao c.ifs.length ko, .slice Afo c.flds.length kfo, pv]) (((c.mths.take k).map (memM c.pool)).flatMap MemV.cells) w9 _ rfl rfl rfl rfl rfl (Lib.hid B8.out.tb) rfl F8 (Lib.hid (own_heap HO.out fun q hq => HB8.out.block q (HO.out.lt q hq).2)) (by omega) (by omega) hzr (by omega) (fun g hg => (HO.out.lt g hg).2) hnl hdl (fun _ _ _ _ _ h => h) ?_
                intro b' g3 c3 W' hzb hdb hkb hXb hBb hOb hsb
                have B14 := Lib.hid (B8.out.of_but hBb (by omega) HG2 hXb)
                have HBT14 := Lib.hid ((HBT.out.trans ((But.of_below (S := [G + 1]) HB8.out).mono hzr (fun _ _ h => h))).trans hBb)
                have HO14 := Lib.hid (own_eq hOb rfl (show _ = ((c.mths.take (k + 1)).map (memM c.pool)).flatMap MemV.cells by rw [HX.out]; simp only [List.map_append, List.flatMap_append, List.map_cons, List.map_nil, List.flatMap_cons, List.flatMap_nil, List.append_nil]; simp only [memM, MemV.cells, HNM.out, HDS.out]))
                have hbe := act_chain _ b' 139 14 (hk := hkb) (hsz := by rw [hzb]; kernel_rfl) (hd := hdb) (hln := by show 153 ≤ 155; decide) (hn := by decide)
                rw [show List.range 14 = [0, 1, 2, 3, 4, 5, 6, 7, 8, 9, 10, 11, 12, 13] from rfl] at hbe
                simp only [List.take_succ_cons, List.take_zero, List.drop_succ_cons, List.drop_zero, List.map_cons, List.map_nil, List.cons_append, List.nil_append, Nat.reduceAdd] at hbe
                rw [hbe]
                have hgz : M3 ≤ W'.heap.size := by omega
                clear hbe hXb hBb hOb hkb hzb hdb B8 F8 HB8
                go_wp2_with fail
                go_roundw
                case rel => exact ⟨k + 1, _, by omega, by go_num, hgz, B14, HBT14, HO14⟩
                case measure => simp [RowKit.intOf]; omega
              · obtain rfl : k = c.mths.length := by omega
                have hrow := HO.out
                rw [List.take_length] at hrow
                clear hlt
                obtain ⟨Amo, kmo, hpv⟩ := own_slice HO.out
                subst hpv
                have HIF4 := Lib.hid (HIF3.out.keep (Kept.of_but (ok := fun g => G + 2 ≤ g ∧ g < M2) (S := [G + 1]) (show But wM3.heap.size [G + 1] wM3 wr1 by rw [HM3.out]; exact HBT.out) (fun g hg hm => by simp at hm; omega)))
                have HFL4 := Lib.hid (HFL.out.keep (Kept.of_but (ok := fun g => G + 2 ≤ g ∧ g < M3) (S := [G + 1]) (show But wM3.heap.size [G + 1] wM3 wr1 by rw [HM3.out]; exact HBT.out) (fun g hg hm => by simp at hm; omega)))
                go_wp2_with (first
                  | (refine wpList_load_row rfl _ _ rfl (G + 1) rfl _ _ _ _ Br.out.tb Tryz.underlying39 rfl (by kernel_rfl) ?_)
                  | (refine wpList_store_row rfl _ _ _ rfl (w.heap.size + 1) _ rfl rfl _ _ Br.out.ol.nr (by kernel_rfl) rfl (by simp [Value.oneCell']) ?_))
                have hkp := Kept.of_but (ok := fun g => G + 2 ≤ g) (show But wr1.heap.size [w.heap.size + 1] wr1 (wr1.setRow (w.heap.size + 1) #[.string ((nameAt c.pool c.this).getD ⟨#[]⟩), .string ((nameAt c.pool c.sup).getD ⟨#[]⟩), .int .i64 c.acc, .slice Ao c.ifs.length ko, .slice Afo c.flds.length kfo, .slice Amo c.mths.length kmo]) from ⟨rfl, rfl, rfl, by simp, fun q _ hm => setRow_other _ _ _ _ (by simpa using hm)⟩) (fun q hq hm => by simp at hm; omega)
                refine bodyPost_ret (results_two_cell rfl rfl rfl (Br.out.ol.nr.row _) rfl rfl (by kernel_rfl)) rfl ⟨Br.out.ol.bel.trans ⟨rfl, rfl, rfl, by simp, fun q hq => setRow_other _ _ _ _ (by omega)⟩, .inr ⟨rfl, _, _, _, rfl, ?_, ?_, ?_⟩⟩
                · have := (((HIF4.out.mono (ok' := fun g => G + 2 ≤ g) fun q _ hq => hq.1).keep hkp).mono (ok' := fun g => w.heap.size ≤ g) fun q _ hq => by omega)
                  simpa [outT, List.map_map, Function.comp_def] using this
                · have := (((HFL4.out.mono (ok' := fun g => G + 2 ≤ g) fun q _ hq => hq.1).keep hkp).mono (ok' := fun g => w.heap.size ≤ g) fun q _ hq => by omega)
                  simpa [outT] using this
                · have := (((slAt_own hrow (fun g => G + 2 ≤ g) (by omega) (by omega) (fun q hq => by have := (hrow.lt q hq).1; omega)).keep hkp).mono (ok' := fun g => w.heap.size ≤ g) fun q _ hq => by omega)
                  simpa [outT] using this
  · have hEb : (E != 0) = true := by simpa using hE
    go_wp2_with (refine wpList_store_row rfl _ _ _ rfl (w.heap.size + 1) _ rfl rfl _ _ B2.out.nr (by kernel_rfl) rfl (by simp [Value.oneCell']) ?_)
    refine bodyPost_ret (results_two_cell rfl rfl rfl (B2.out.nr.row zeroTyp) rfl rfl (by kernel_rfl)) rfl ⟨B2.out.bel.trans ⟨rfl, rfl, rfl, by simp, fun k hk => setRow_other _ _ _ _ (by omega)⟩, .inl ⟨hE, rfl⟩⟩
end Go.Proofs.YtdbniocnjhfhdaaGreatDoor

set_option linter.unusedSimpArgs false
set_option linter.unusedVariables false
set_option maxRecDepth 100000
set_option maxHeartbeats 1000000
namespace Go.Proofs.YtdbniocnjhfhdaaGreatDoor
open Go Go.RowKit Lib
theorem name_le {pool : List Ko} {n : Int} (ht : ∀ k ∈ pool, k.text.size ≤ 65536) : (nameD pool n).size ≤ 65536 := by
  unfold nameD nameAt
  rcases h : kindAt pool n 7 with _ | k
  · exact Nat.zero_le _
  · exact text_le (n := k.a) ht
theorem ldK_full (defs : List UInt8 → Option (List UInt8)) (dn : List (List UInt8)) (hd : ∀ s l, defs s = some l → s ∈ dn) (hc : dn.length ≤ 64) : LdK checkF defs dn where
  dom := hd
  cnt := hc
  out := fun s l hs c hr p i f m ok W hW => by
    obtain ⟨hF, hn⟩ := readP_fine hr
    exact outline_any c p i f m ok W hW hF (checkF c) (fun W' hW' => check_full c p i f m ok W' hW' hF) hn.nifs hn.nflds hn.nmths
  small := fun s l c hs hr => by
    obtain ⟨hF, hn⟩ := readP_fine hr
    have ht : ∀ k ∈ c.pool, k.text.size ≤ 65536 := fun k hk => (hF.pool k hk).2.2.1
    have h1 := name_le (n := c.sup) ht
    have h2 := name_le (n := c.this) ht
    refine ⟨?_, ?_, ?_, fun i hi => ?_⟩
    · show (nameD c.pool c.sup).size ≤ 1048576
      omega
    · show (nameD c.pool c.this).size ≤ 1048576
      omega
    · show (c.ifs.map (nameD c.pool)).length ≤ 64
      rw [List.length_map]
      exact hn.nifs
    · obtain ⟨n, _, rfl⟩ := List.mem_map.1 (show i ∈ c.ifs.map (nameD c.pool) from hi)
      have h3 := name_le (n := n) ht
      omega
end Go.Proofs.YtdbniocnjhfhdaaGreatDoor

set_option linter.unusedSimpArgs false
set_option linter.unusedVariables false
set_option maxRecDepth 100000
set_option maxHeartbeats 1000000
namespace Go.Proofs.YtdbniocnjhfhdaaGreatDoor
open Go Go.RowKit Lib Go.Maps
def LPos.and (L : LPos) (xs : List Nat) : LPos := { L with ex := xs ++ L.ex }
section
variable {B : Nat} {L : LPos} {nd : Nat} {defs : List UInt8 → Option (List UInt8)} {files : List UInt8 → Option ClassV} {ks going : List (List UInt8)} {ts : List TyV} {v : Value} {W W' : World}
theorem LdG.andEx (h : LdG B L nd defs files ks going ts v W) (hb : But W.heap.size L.ex W W') (xs : List Nat) (h1 : ∀ x ∈ xs, W.heap.size ≤ x) (h2 : ∀ x ∈ xs, x < W'.heap.size) : LdG B (L.and xs) nd defs files ks going ts v W' := by
  have hgo : ∃ n, n ≤ going.length ∧ MapS W' Tryz.prog 9 L.bg n (inNames going) n := by
    obtain ⟨n, k0, k1⟩ := h.hg
    exact ⟨n, k0, k1.but hb k1.lt (fun hm => (h.nex _ hm).2.2.2.2 rfl)⟩
  have h' := h.but L.ex hb (fun g hg => ⟨(h.nex g hg).1, (h.nex g hg).2.1, (h.nex g hg).2.2.1, (h.nex g hg).2.2.2.1, fun hr => hr.2.2.2.2.2.2 hg, fun e => h.newx g e hg⟩) hgo
  have hk : Kept (L.ro v) W W' := Kept.of_but hb fun g hg hm => hg.2.2.2.2.2.2 hm
  have hr : ∀ g, g < W.heap.size → L.ro v g → (L.and xs).ro v g := fun g hg hr => ⟨hr.1, hr.2.1, hr.2.2.1, hr.2.2.2.1, hr.2.2.2.2.1, hr.2.2.2.2.2.1, fun hm => by
    rcases List.mem_append.1 hm with hm | hm
    · have := h1 g hm
      omega
    · exact hr.2.2.2.2.2.2 hm⟩
  have ho := h.ord
  have hl := h.lt
  obtain ⟨fd, d1, d2⟩ := h.hd
  obtain ⟨ff, n1, f0, f1, f2⟩ := h.hf
  refine ⟨h'.c0, h'.c1, h'.c2, h'.c3, h'.c4, h'.fz, ⟨fd, d1.but hb d1.lt (fun hm => (h.nex _ hm).2.1 rfl), fun s => (d2 s).keep hk hr⟩, ⟨ff, n1, f0, f1.but hb f1.lt (fun hm => (h.nex _ hm).2.2.1 rfl), fun s => (f2 s).keep hk hr⟩, h'.hk, h'.hg, h'.ty, fun t ht => (h.rd t ht).keep hk hr, h.ord, h.new, h'.lt, fun x hx => ?_, fun g hg hx => ?_, fun x hx => ?_⟩
  · rcases List.mem_append.1 hx with hx | hx
    · exact h2 x hx
    · exact Nat.lt_of_lt_of_le (h.exl x hx) hb.size
  · rcases List.mem_append.1 hx with hx | hx
    · have := h1 g hx
      have := (h.ty.lt g hg).2
      omega
    · exact h.newx g hg hx
  · rcases List.mem_append.1 hx with hx | hx
    · have := h1 x hx
      refine ⟨?_, ?_, ?_, ?_, ?_⟩
      · show x ≠ L.lb; omega
      · show x ≠ L.bd; omega
      · show x ≠ L.bf; omega
      · show x ≠ L.bk; omega
      · show x ≠ L.bg; omega
    · exact h.nex x hx
theorem LdG.lower {B' : Nat} (h : LdG B L nd defs files ks going ts v W) (hB : B' ≤ B) : LdG B' L nd defs files ks going ts v W := by
  have ho := h.ord
  exact ⟨h.c0, h.c1, h.c2, h.c3, h.c4, h.fz, h.hd, h.hf, h.hk, h.hg, own_low h.ty hB, h.rd, ⟨by omega, ho.2⟩, h.new, h.lt, h.exl, h.newx, h.nex⟩
end
def Far (Lx Ly : LPos) (vy : Value) : Prop := ∀ g, ¬ Ly.frp vy g → g ∈ Lx.ex
theorem Far.more {Lx Lx' Ly : LPos} {vy : Value} (h : Far Lx Ly vy) (hs : ∀ g ∈ Lx.ex, g ∈ Lx'.ex) : Far Lx' Ly vy := fun g hg => hs g (h g hg)
theorem LFr.but {B : Nat} {Lx Ly : LPos} {vy vy' : Value} {W W' : World} (F : LFr B Ly vy W vy' W') (hf : Far Lx Ly vy) : But W.heap.size Lx.ex W W' :=
  ⟨F.bel.os, F.bel.tape, F.bel.output, F.bel.size, fun k hk hs => F.blk k hk (Classical.byContradiction fun hn => hs (hf k hn))⟩
structure St where
  nd : Nat
  D : List UInt8 → Option (List UInt8)
  dn : List (List UInt8)
  ts : List TyK
  F : List UInt8 → Option ClassV
def St.new : St := ⟨0, fun _ => none, [], coreKeys, fun _ => none⟩
def St.run (σ : St) (s : ByteArray) : Option ByteArray × LT := loadP (rdD checkF σ.D) 65 [] ⟨σ.ts, σ.F⟩ s
def St.load (σ : St) (s : ByteArray) : St := { σ with ts := (σ.run s).2.ts, F := (σ.run s).2.files }
def St.says (σ : St) (s : ByteArray) : ByteArray := strOf (σ.run s).1
def St.defE (σ : St) (s : ByteArray) (l : List UInt8) : Int := if classB s.data.toList = false ∨ ownB s.data.toList = true then 21 else if 65536 < l.length then 2 else if (σ.D s.data.toList).isSome = true then 24 else if 64 ≤ σ.nd then 42 else 0
def St.define (σ : St) (s : ByteArray) (l : List UInt8) : St := if σ.defE s l = 0 then { σ with nd := σ.nd + 1, D := putL σ.D s.data.toList l, dn := s.data.toList :: σ.dn } else σ
structure At1 (B : Nat) (L : LPos) (v : Value) (σ : St) (W : World) : Prop where
  all : ∃ ts, ts.map TyV.key = σ.ts ∧ LdG B L σ.nd σ.D σ.F (ts.map TyV.name) [] ts v W ∧ KsOk σ.dn (ts.map TyV.name)
  dom : ∀ s l, σ.D s = some l → s ∈ σ.dn
  len : σ.dn.length = σ.nd
  le : σ.nd ≤ 64
theorem At1.below {B : Nat} {L : LPos} {v : Value} {σ : St} {W W' : World} (h : At1 B L v σ W) (hb : Below W.heap.size W W') : At1 B L v σ W' := by
  obtain ⟨ts, h1, h2, h3⟩ := h.all
  exact ⟨⟨ts, h1, h2.below hb, h3⟩, h.dom, h.len, h.le⟩
theorem At1.lower {B B' : Nat} {L : LPos} {v : Value} {σ : St} {W : World} (h : At1 B L v σ W) (hB : B' ≤ B) : At1 B' L v σ W := by
  obtain ⟨ts, h1, h2, h3⟩ := h.all
  exact ⟨⟨ts, h1, h2.lower hB, h3⟩, h.dom, h.len, h.le⟩
theorem At1.own {B : Nat} {L : LPos} {v : Value} {σ : St} {W : World} (h : At1 B L v σ W) : ∀ g, v.ownBlock = some g → g < W.heap.size := by
  obtain ⟨ts, h1, h2, h3⟩ := h.all
  exact fun g hg => (h2.ty.lt g hg).2
theorem At1.sized {B : Nat} {L : LPos} {v : Value} {σ : St} {W : World} (h : At1 B L v σ W) : L.lb < W.heap.size ∧ B ≤ W.heap.size := by
  obtain ⟨ts, h1, h2, h3⟩ := h.all
  exact ⟨h2.lt, h2.lb_le⟩
theorem At1.other {Bx By : Nat} {Lx Ly : LPos} {vx vy vy' : Value} {σ : St} {W W' : World} (hx : At1 Bx Lx vx σ W) (F : LFr By Ly vy W vy' W') (hf : Far Lx Ly vy) (hown : ∀ g, vy'.ownBlock = some g → g < W'.heap.size) : ∃ xs, At1 Bx (Lx.and xs) vx σ W' ∧ Far (Lx.and xs) Ly vy' := by
  obtain ⟨ts, h1, h2, h3⟩ := hx.all
  have hb := F.but hf
  have key : ∀ xs : List Nat, (∀ x ∈ xs, W.heap.size ≤ x) → (∀ x ∈ xs, x < W'.heap.size) → (∀ g, vy'.ownBlock = some g → W.heap.size ≤ g → g ∈ xs) → At1 Bx (Lx.and xs) vx σ W' ∧ Far (Lx.and xs) Ly vy' := fun xs a1 a2 a3 => by
    refine ⟨⟨⟨ts, h1, h2.andEx hb xs a1 a2, h3⟩, hx.dom, hx.len, hx.le⟩, fun g hg => ?_⟩
    by_cases hlt : g < W.heap.size
    · exact List.mem_append.2 (.inr (hf g fun hr => hg (F.fr g hlt hr)))
    · by_cases ho : vy'.ownBlock = some g
      · exact List.mem_append.2 (.inl (a3 g ho (by omega)))
      · refine List.mem_append.2 (.inr (hf g fun hr => hg ⟨hr.1, hr.2.1, hr.2.2.1, hr.2.2.2.1, hr.2.2.2.2.1, ho⟩))
  rcases ho : vy'.ownBlock with _ | g
  · exact ⟨[], key [] (by simp) (by simp) (fun g hg => by rw [ho] at hg; cases hg)⟩
  · by_cases hlt : g < W.heap.size
    · exact ⟨[], key [] (by simp) (by simp) (fun g' hg' hl => by rw [ho] at hg'; injection hg' with hg'; omega)⟩
    · refine ⟨[g], key [g] (fun x hx => ?_) (fun x hx => ?_) (fun g' hg' hl => ?_)⟩
      · have : x = g := by simpa using hx
        omega
      · have : x = g := by simpa using hx
        subst this
        exact hown x ho
      · rw [ho] at hg'
        injection hg' with hg'
        simp [hg']
theorem ksOk_more {dn ks : List (List UInt8)} {x : List UInt8} (h : KsOk dn ks) : KsOk (x :: dn) ks := by
  obtain ⟨cs, ls, h1, h2, h3, h4, h5⟩ := h
  exact ⟨cs, ls, h1, h2, h3, h4, fun y hy => List.mem_cons_of_mem _ (h5 y hy)⟩
theorem LFr.of_bd {B : Nat} {L : LPos} {v : Value} {W W' : World} (hB : Below B W W') (h : But W.heap.size [L.bd] W W') : LFr B L v W v W' :=
  ⟨hB, fun g hg hr => h.block g hg (by simp; exact hr.2.1), fun _ _ h => h⟩
theorem LdG.lowB {B : Nat} {L : LPos} {nd : Nat} {defs : List UInt8 → Option (List UInt8)} {files : List UInt8 → Option ClassV} {ks going : List (List UInt8)} {ts : List TyV} {v : Value} {W w' : World} (h : LdG B L nd defs files ks going ts v W) (hb : But W.heap.size [L.bd] W w') : Below B W w' := by
  have ho := h.ord
  have hl := h.lt
  exact (hb.mono (S' := []) (B' := B) (by omega) (fun k hk hm => by simp at hm; omega)).below
theorem At1.load {B : Nat} {L : LPos} {v : Value} {σ : St} {W : World} (h : At1 B L v σ W) (s : ByteArray) (hs : s.size ≤ 9223372036854775807) (hB : 0 < B) (hgl : W.cell? ⟨0, 0, none⟩ = some (.iface 132 (.agg #[.pointer (some ⟨2, 69, none⟩)]))) :
    Calls Tryz.prog 13 #[.pointer (some ⟨L.lb, 0, none⟩), .string s] W fun e W' => e = .returned (.string (σ.says s)) ∧ ∃ X v', At1 B (L.at X) v' (σ.load s) W' ∧ LFr B L v W v' W' := by
  obtain ⟨ts, h1, h2, h3⟩ := h.all
  refine (loadTop_far checkF σ.D σ.dn (ldK_full σ.D σ.dn h.dom (by rw [h.len]; exact h.le)) B L σ.nd σ.F ts v W s h2 h3 hs hB hgl).mono ?_
  rw [h1]
  rintro e W' ⟨he, X, ts', v', k1, k2, k3, k4⟩
  exact ⟨he, X, v', ⟨⟨ts', k1, k2, k3⟩, h.dom, h.len, h.le⟩, k4⟩
theorem At1.define {B : Nat} {L : LPos} {v : Value} {σ : St} {W : World} (h : At1 B L v σ W) (s : ByteArray) (A : Option Addr) (len cap : Nat) (l : List UInt8) (hs : s.size ≤ 9223372036854775807) (hr : RdB W A len cap l) (hl : len ≤ 9223372036854775807) :
    Calls Tryz.prog 15 #[.pointer (some ⟨L.lb, 0, none⟩), .string s, .slice A len cap] W fun e W' => e = .returned (.int .i64 (σ.defE s l)) ∧ At1 B L v (σ.define s l) W' ∧ LFr B L v W v W' := by
  obtain ⟨ts, h1, h2, h3⟩ := h.all
  have hlen := hr.hlen
  have hbl := h2.lb_le
  have hsame : ∀ (W' : World), Below W.heap.size W W' → σ.defE s l ≠ 0 → At1 B L v (σ.define s l) W' ∧ LFr B L v W v W' := fun W' hb hne => by
    unfold St.define
    rw [if_neg hne]
    exact ⟨h.below hb, LFr.of_below hbl hb⟩
  have hle := h.le
  by_cases hbad : classB s.data.toList = false ∨ ownB s.data.toList = true
  · have he : σ.defE s l = 21 := by unfold St.defE; rw [if_pos hbad]
    refine (defineG_name h2 s A len cap (by omega) hbad).mono ?_
    rintro e W' ⟨rfl, _, hb⟩
    exact ⟨by rw [he], hsame W' hb (by rw [he]; decide)⟩
  · have hcl : classB s.data.toList = true := by
      cases hc : classB s.data.toList
      · exact absurd (.inl hc) hbad
      · rfl
    have how : ownB s.data.toList = false := by
      cases hc : ownB s.data.toList
      · rfl
      · exact absurd (.inr hc) hbad
    by_cases hno : 65536 < len ∨ (σ.D s.data.toList).isSome = true ∨ 64 ≤ σ.nd
    · have he : σ.defE s l = if 65536 < len then 2 else if (σ.D s.data.toList).isSome = true then 24 else 42 := by
        unfold St.defE
        rw [if_neg hbad, ← hlen]
        by_cases a1 : 65536 < len
        · rw [if_pos a1, if_pos a1]
        · rw [if_neg a1, if_neg a1]
          by_cases a2 : (σ.D s.data.toList).isSome = true
          · rw [if_pos a2, if_pos a2]
          · rw [if_neg a2, if_neg a2, if_pos ((hno.resolve_left a1).resolve_left a2)]
      refine (defineG_more h2 s A len cap (by omega) (by omega) hcl how hno (by omega)).mono ?_
      rintro e W' ⟨rfl, _, hb⟩
      refine ⟨by rw [he], hsame W' hb ?_⟩
      rw [he]
      split
      · decide
      · split <;> decide
    · have hf : σ.D s.data.toList = none := by
        rcases hq : σ.D s.data.toList with _ | q
        · rfl
        · exact absurd (.inr (.inl (by rw [hq]; rfl))) hno
      have he : σ.defE s l = 0 := by
        unfold St.defE
        rw [if_neg hbad, ← hlen, if_neg (by omega), hf, if_neg (by simp), if_neg (by omega)]
      refine (defineG h2 s A len cap l (by omega) hr hcl how (by omega) hf (by omega)).mono ?_
      rintro e W' ⟨rfl, hG, hb⟩
      refine ⟨by rw [he], ?_, LFr.of_bd (h2.lowB hb) hb⟩
      unfold St.define
      rw [if_pos he]
      refine ⟨⟨ts, h1, hG, ksOk_more h3⟩, fun x y hxy => ?_, by show _ + 1 = _ + 1; rw [← h.len], by show σ.nd + 1 ≤ 64; omega⟩
      unfold putL at hxy
      by_cases hx : x = s.data.toList
      · subst hx
        exact List.mem_cons_self ..
      · simp only [if_neg hx] at hxy
        exact List.mem_cons_of_mem _ (h.dom x y hxy)
end Go.Proofs.YtdbniocnjhfhdaaGreatDoor

set_option linter.unusedSimpArgs false
set_option linter.unusedVariables false
namespace Go.Proofs.YtdbniocnjhfhdaaGreatDoor
open Go Go.RowKit Lib
theorem wf_u8 {n : Int} (h : (Lit.int .u8 n).wf = true) : 0 ≤ n ∧ n ≤ 255 := by
  have h2 : IntKind.u8.min ≤ n ∧ n ≤ IntKind.u8.max := by simpa [Lit.wf] using h
  have h3 : IntKind.u8.min = 0 := by decide
  have h4 : IntKind.u8.max = 255 := by decide
  omega
theorem rdB_row {w : World} {a : Option Addr} {len cap : Nat} {zs : List Int}
    (h : (a = none ∧ len = 0 ∧ cap = 0 ∧ zs = []) ∨
      ∃ x, a = some x ∧ len ≤ cap ∧ cap ≤ maxLen ∧ zs.length = cap ∧ (∀ i, i < zs.length → w.cell? (x.add i) = some (.int .u8 (zs.getD i 0))) ∧ ∀ n ∈ zs, (Lit.int .u8 n).wf = true) :
    RdB w a len cap ((zs.take len).map fun n => UInt8.ofNat n.toNat) := by
  rcases h with ⟨rfl, rfl, rfl, rfl⟩ | ⟨x, rfl, hl, hm, hz, hc, hw⟩
  · exact ⟨by simp, Nat.le_refl _, by simp, fun h0 => absurd h0 (by omega)⟩
  · refine ⟨by simp; omega, hl, by unfold maxLen at hm; omega, fun h0 => ?_⟩
    obtain ⟨b, off, spot⟩ := x
    have h1 := hc 0 (by omega)
    have hs : spot = none := by
      rcases spot with _ | s
      · rfl
      · exfalso
        simp [Addr.add, World.cell?] at h1
        split at h1 <;> simp at h1
    subst hs
    refine ⟨b, off, rfl, ?_, fun i hi => ?_⟩
    · have := World.block_lt_of_cell? _ _ h1
      simpa [Addr.add] using this
    · have h2 := hc i (by omega)
      rw [add_cell] at h2
      rw [h2]
      have hi2 : i < zs.length := by omega
      have hmem : zs[i] ∈ zs := List.getElem_mem _
      have hb := wf_u8 (hw _ hmem)
      have e : zs.getD i 0 = zs[i] := by rw [List.getD_eq_getElem?_getD, List.getElem?_eq_getElem hi2]; rfl
      rw [e]
      have e2 : byt ((zs.take len).map fun n => UInt8.ofNat n.toNat) i = zs[i].toNat := by
        unfold byt
        rw [List.getD_eq_getElem?_getD, List.getElem?_map, List.getElem?_take, if_pos hi, List.getElem?_eq_getElem hi2]
        simp only [Option.map_some, Option.getD_some, UInt8.toNat_ofNat']
        omega
      rw [e2]
      congr 2
      omega
end Go.Proofs.YtdbniocnjhfhdaaGreatDoor

set_option linter.unusedSimpArgs false
set_option linter.unusedVariables false
namespace Go.Proofs.YtdbniocnjhfhdaaGreatDoor
set_option maxRecDepth 100000
open Go Go.RowKit Lib Go.ChangeShapes Go.ChangeAt
structure DfD where
  name : ByteArray
  bytes : List UInt8
  load : Bool
def df0 : DfD := ⟨⟨#[]⟩, [], false⟩
structure DfAt (w : World) (b o : Nat) (d : DfD) : Prop where
  nm : w.cell? ⟨b, o, none⟩ = some (.string d.name)
  by' : ∃ A len cap, w.cell? ⟨b, o + 1, none⟩ = some (.slice A len cap) ∧ RdB w A len cap d.bytes
  ld : w.cell? ⟨b, o + 2, none⟩ = some (.bool d.load)
  ns : d.name.size ≤ 9223372036854775807
structure RdDf (w : World) (A : Option Addr) (len cap : Nat) (l : List DfD) : Prop where
  hlen : len = l.length
  hle : len ≤ cap
  hmax : len ≤ 9223372036854775807
  hat : 0 < len → ∃ b off, A = some ⟨b, off, none⟩ ∧ b < w.heap.size ∧ ∀ i, i < len → DfAt w b (off + i * 3) (l.getD i df0)
theorem cellsDf : Tryz.prog.cellsOf 29 = 3 := by kernel_rfl
theorem rdB_of {w : World} {x : Addr} {len cap : Nat} {zs : List Int} (hl : len ≤ cap) (hm : cap ≤ maxLen) (hz : len ≤ zs.length) (hc : ∀ i, i < zs.length → w.cell? (x.add i) = some (.int .u8 (zs.getD i 0))) (hw : ∀ n ∈ zs, (Lit.int .u8 n).wf = true) :
    RdB w (some x) len cap ((zs.take len).map fun n => UInt8.ofNat n.toNat) := by
  refine ⟨by simp; omega, hl, by unfold maxLen at hm; omega, fun h0 => ?_⟩
  obtain ⟨b, off, spot⟩ := x
  have h1 := hc 0 (by omega)
  have hs : spot = none := by
    rcases spot with _ | s
    · rfl
    · exfalso
      simp [Addr.add, World.cell?] at h1
      split at h1 <;> simp at h1
  subst hs
  refine ⟨b, off, rfl, ?_, fun i hi => ?_⟩
  · have := World.block_lt_of_cell? _ _ h1
    simpa [Addr.add] using this
  · have h2 := hc i (by omega)
    rw [add_cell] at h2
    rw [h2]
    have hi2 : i < zs.length := by omega
    have hmem : zs[i] ∈ zs := List.getElem_mem _
    have hb := wf_u8 (hw _ hmem)
    have e : zs.getD i 0 = zs[i] := by rw [List.getD_eq_getElem?_getD, List.getElem?_eq_getElem hi2]; rfl
    rw [e]
    have e2 : byt ((zs.take len).map fun n => UInt8.ofNat n.toNat) i = zs[i].toNat := by
      unfold byt
      rw [List.getD_eq_getElem?_getD, List.getElem?_map, List.getElem?_take, if_pos hi, List.getElem?_eq_getElem hi2]
      simp only [Option.map_some, Option.getD_some, UInt8.toNat_ofNat']
      omega
    rw [e2]
    congr 2
    omega
theorem rdDf_row {H : Type} {enc : TypeId × Value → H} {w : World} {base : Nat} {spare : Nat → Bool} {held : Bool} {A : Option Addr} {len cap : Nat} {d : DataW H} {p : List MemPlace}
    (h : DataW.Trod enc Tryz.prog w base spare held 22 (.slice A len cap) d p) : ∃ l, RdDf w A len cap l := by
  obtain ⟨fuel, hf⟩ := h
  rcases Deep.open_slice Tryz.underlying22 hf with ⟨hcs, _⟩ | ⟨x, len', cap', m, n, D, Pl, hcs, _, hl, hm, hmm, _, hi⟩
  · simp [Value.cells] at hcs
    obtain ⟨rfl, rfl, rfl⟩ := hcs
    exact ⟨[], rfl, Nat.le_refl _, by omega, fun h0 => absurd h0 (by omega)⟩
  · simp [Value.cells] at hcs
    obtain ⟨rfl, rfl, rfl⟩ := hcs
    have hlm : len ≤ m := by rw [hmm]; split <;> omega
    have key : ∀ i, ∃ q : DfD, i < len → w.cell? (x.add (i * 3)) = some (.string q.name) ∧ (∃ A' n' c', w.cell? ((x.add (i * 3)).add 1) = some (.slice A' n' c') ∧ RdB w A' n' c' q.bytes) ∧ w.cell? ((x.add (i * 3)).add 2) = some (.bool q.load) ∧ q.name.size ≤ 9223372036854775807 := by
      intro i
      by_cases hlt : i < len
      · obtain ⟨cs', hc, ht'⟩ := hi i (by omega)
        rw [cellsDf] at hc
        obtain ⟨_, hcl, hat⟩ := World.cells?_some hc
        obtain ⟨y0, y1, y2, k, _, _, h0, h1, h2⟩ := Deep.trod_struct3 Tryz.underlying29 ht'
        obtain ⟨c0, c1, c2, rfl⟩ : ∃ c0 c1 c2, cs' = [c0, c1, c2] := by
          match cs', hcl with
          | [c0, c1, c2], _ => exact ⟨c0, c1, c2, rfl⟩
        have ck0 : Tryz.prog.cellsOf 9 = 1 := by kernel_rfl
        have ck1 : Tryz.prog.cellsOf 27 = 1 := by kernel_rfl
        have ck2 : Tryz.prog.cellsOf 4 = 1 := by kernel_rfl
        simp only [ck0, ck1, ck2] at h0 h1 h2
        obtain ⟨s, e0, _, hs⟩ := DataW.trod_string Tryz.underlying9 (show DataW.trod enc Tryz.prog w base spare held k 9 [c0] = some y0 from h0)
        obtain ⟨bl, e2, _⟩ := DataW.trod_bool Tryz.underlying4 (show DataW.trod enc Tryz.prog w base spare held k 4 [c2] = some y2 from h2)
        obtain ⟨A', n', c', bs, e1, hb⟩ : ∃ A' n' c' bs, c1 = .slice A' n' c' ∧ RdB w A' n' c' bs := by
          rcases open_ints Tryz.underlying27 Tryz.underlying5 (by kernel_rfl) (show DataW.trod enc Tryz.prog w base spare held k 27 [c1] = some y1 from h1) with ⟨e1, _⟩ | ⟨x1, l1, cp1, zs, e1, _, hl1, hm1, hz, _, hcell, hwz⟩
          · simp at e1
            exact ⟨none, 0, 0, [], e1, rfl, Nat.le_refl _, by decide, fun h => absurd h (by decide)⟩
          · simp at e1
            exact ⟨_, _, _, _, e1, rdB_of hl1 hm1 (by rw [hz]; split <;> omega) hcell hwz⟩
        simp at e0 e2
        subst e0 e1 e2
        refine ⟨⟨s, bs, bl⟩, fun _ => ⟨?_, ⟨A', n', c', hat 1 (by omega), hb⟩, hat 2 (by omega), by unfold maxLen at hs; omega⟩⟩
        have := hat 0 (by omega)
        rw [Addr.add_zero'] at this
        exact this
      · exact ⟨df0, fun h => absurd h hlt⟩
    obtain ⟨f, hf'⟩ := Classical.axiomOfChoice key
    refine ⟨(List.range len).map f, by simp, hl, by unfold maxLen at hm; omega, fun h0 => ?_⟩
    obtain ⟨b, off, spot⟩ := x
    have h1 := (hf' 0 h0).1
    have hs : spot = none := by
      rcases spot with _ | s
      · rfl
      · exfalso
        simp [Addr.add, World.cell?] at h1
        split at h1 <;> simp at h1
    subst hs
    refine ⟨b, off, rfl, ?_, fun i hi => ?_⟩
    · have := World.block_lt_of_cell? _ _ h1
      simpa [Addr.add] using this
    · have hg := hf' i hi
      have e : ((List.range len).map f).getD i df0 = f i := by
        rw [List.getD_eq_getElem?_getD, List.getElem?_map, List.getElem?_range hi]
        rfl
      rw [e]
      simp only [add_cell] at hg
      exact ⟨hg.1, hg.2.1, hg.2.2.1, hg.2.2.2⟩
end Go.Proofs.YtdbniocnjhfhdaaGreatDoor

set_option linter.unusedSimpArgs false
set_option linter.unusedVariables false
set_option maxRecDepth 100000
set_option maxHeartbeats 4000000
namespace Go.Proofs.YtdbniocnjhfhdaaGreatDoor
open Go Go.RowKit Lib
theorem op_call {Q : Exit → Act → World → Prop} {K : Act → World → Prop} {o : Oper} {ops : Array Oper} {a : Act} {w : World} {E : Prop} {f : FuncId} {args : Array Value} {R : Ending → World → Prop} (hg : o.guard = none) (h : (execOp a.eval o).run Tryz.prog w = .ok (.enter f args) w) (hc : Calls Tryz.prog f args w R)
    (hR : ∀ e w', R e w' → ∃ v, e = .returned v ∧ K (a.put o.dst v) w') : if Region.wanted o (yielded ops a.tmps) = true then Oper.wp Tryz.prog o a w K Q else E := by
  have hw : Region.wanted o (yielded ops a.tmps) = true := by unfold Region.wanted; rw [hg]
  rw [if_pos hw]
  unfold Oper.wp
  rw [h, Oper.upon_enter]
  refine hc.mono ?_
  intro e w' he
  obtain ⟨v, rfl, hK⟩ := hR e w' he
  exact hK
structure DfC (w : World) (b o : Nat) (d : DfD) (A : Option Addr) (n c : Nat) : Prop where
  nm : w.cell? ⟨b, o, none⟩ = some (.string d.name)
  by' : w.cell? ⟨b, o + 1, none⟩ = some (.slice A n c)
  ld : w.cell? ⟨b, o + 2, none⟩ = some (.bool d.load)
theorem DfC.low {B : Nat} {w w' : World} {b o : Nat} {d : DfD} {A : Option Addr} {n c : Nat} (h : DfC w b o d A n c) (hb : Below B w w') (hl : b < B) : DfC w' b o d A n c :=
  ⟨(hb.cell (p := ⟨b, o, none⟩) hl).trans h.nm, (hb.cell (p := ⟨b, o + 1, none⟩) hl).trans h.by', (hb.cell (p := ⟨b, o + 2, none⟩) hl).trans h.ld⟩
theorem rdB_low {B : Nat} {w w' : World} {A : Option Addr} {n c : Nat} {l : List UInt8} (h : RdB w A n c l) (hb : Below B w w') (hl : ∀ a, A = some a → 0 < l.length → a.block < B) : RdB w' A n c l :=
  ⟨h.hlen, h.hle, h.hmax, fun h0 => by
    obtain ⟨b, off, e, hlt, hc⟩ := h.hat h0
    exact ⟨b, off, e, Nat.lt_of_lt_of_le hlt hb.size, fun i hi => (hb.cell (p := ⟨b, off + i, none⟩) (show b < B from hl ⟨b, off, none⟩ e (by rw [← h.hlen]; exact h0))).trans (hc i hi)⟩⟩
end Go.Proofs.YtdbniocnjhfhdaaGreatDoor
