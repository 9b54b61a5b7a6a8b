/-
  LoadNames, walked.
-/
import Derived.Test.YtdbniocnjhfhdaaGreatDoorCFileL
import Derived.Test.YtdbniocnjhfhdaaGreatDoorCNamesP
set_option linter.unusedSimpArgs false
set_option linter.unusedVariables false
set_option maxRecDepth 100000
set_option maxHeartbeats 1000000
namespace Go.Proofs.YtdbniocnjhfhdaaGreatDoor
open Go Go.RowKit Lib
theorem own_stored {w : World} {B g n cap : Nat} {l : List UInt8} (h : w.ownsRow B 5 1 (.slice (some ⟨g, 0, none⟩) n cap) n (l.map bV)) (j : Nat) (b : UInt8) (c : Int) (hc : c = b.toNat) : (w.setCell ⟨g, j, none⟩ (.int .u8 c)).ownsRow B 5 1 (.slice (some ⟨g, 0, none⟩) n cap) n ((l.set j b).map bV) := by
  subst hc
  have := h.stored j (bV b)
  rw [← List.map_set] at this
  exact this.1
def nameDn : List (List UInt8) := [aL, qL]
theorem nameLdK : ∀ k, k < 6 → LdK checkB (nameDefs k) nameDn := by
  intro k hk
  refine ldK_sev (nameDefs k) nameDn (fun s l hs => ?_) (by decide) (fun s l hs c hr => ?_)
  · unfold nameDefs at hs
    by_cases h5 : k = 5
    · rw [if_pos h5] at hs
      unfold putL at hs
      split at hs
      · simp [nameDn, *]
      · split at hs
        · simp [nameDn, *]
        · cases hs
    · rw [if_neg h5] at hs
      unfold putL at hs
      split at hs
      · simp [nameDn, *]
      · cases hs
  · have hA : ∀ l', l' = nameL k → readP l' = .ok c → Sev c := by
      intro l' hl' hr'
      subst hl'
      have : k = 0 ∨ k = 1 ∨ k = 2 ∨ k = 3 ∨ k = 4 ∨ k = 5 := by omega
      rcases this with rfl | rfl | rfl | rfl | rfl | rfl
      · rw [rd0] at hr'; injection hr' with hr'; subst hr'; exact sev_bare 52 33 _ _ (by decide) (by decide)
      · rw [rd1] at hr'; injection hr' with hr'; subst hr'; exact sev_bare 52 33 _ _ (by decide) (by decide)
      · rw [rd2] at hr'; injection hr' with hr'; subst hr'; exact sev_bare 53 33 _ _ (by decide) (by decide)
      · obtain ⟨e, he⟩ := rd3
        rw [he] at hr'
        cases hr'
      · rw [rd4] at hr'; injection hr' with hr'; subst hr'; exact sev_bare 52 33 _ _ (by decide) (by decide)
      · rw [rd5] at hr'; injection hr' with hr'; subst hr'; exact sev_bare 52 33 _ _ (by decide) (by decide)
    unfold nameDefs at hs
    by_cases h5 : k = 5
    · rw [if_pos h5] at hs
      unfold putL at hs
      split at hs
      · injection hs with hs
        refine hA l ?_ hr
        rw [← hs, h5]
      · split at hs
        · injection hs with hs
          rw [← hs, rdq] at hr
          injection hr with hr
          subst hr
          exact sev_bare 52 32 _ _ (by decide) (by decide)
        · cases hs
    · rw [if_neg h5] at hs
      unfold putL at hs
      split at hs
      · injection hs with hs
        exact hA l hs.symm hr
      · cases hs
theorem name_file0 : ((loadP (rdD checkB (nameDefs 0)) 65 [] core1 aB).2.files aL).map (fun c => c.mths.length) = some 0 := by decide +kernel
theorem cb0 (w : World) : Calls Tryz.prog 18 #[.string ⟨#[65]⟩, .string ⟨#[106, 97, 118, 97, 47, 108, 97, 110, 103, 47, 79, 98, 106, 101, 99, 116]⟩] w fun e w' => ∃ g cap, e = .returned (.slice (some ⟨g, 0, none⟩) 53 cap) ∧ w'.ownsRow w.heap.size 5 1 (.slice (some ⟨g, 0, none⟩) 53 cap) 53 ((bareL aL objL).map bV) ∧ Below w.heap.size w w' := lbytes_any ⟨#[65]⟩ ⟨#[106, 97, 118, 97, 47, 108, 97, 110, 103, 47, 79, 98, 106, 101, 99, 116]⟩ (by decide) (by decide) w
theorem cb1 (w : World) : Calls Tryz.prog 18 #[.string ⟨#[66]⟩, .string ⟨#[106, 97, 118, 97, 47, 108, 97, 110, 103, 47, 79, 98, 106, 101, 99, 116]⟩] w fun e w' => ∃ g cap, e = .returned (.slice (some ⟨g, 0, none⟩) 53 cap) ∧ w'.ownsRow w.heap.size 5 1 (.slice (some ⟨g, 0, none⟩) 53 cap) 53 ((bareL bL objL).map bV) ∧ Below w.heap.size w w' := lbytes_any ⟨#[66]⟩ ⟨#[106, 97, 118, 97, 47, 108, 97, 110, 103, 47, 79, 98, 106, 101, 99, 116]⟩ (by decide) (by decide) w
theorem cb4 (w : World) : Calls Tryz.prog 18 #[.string ⟨#[65]⟩, .string ⟨#[118, 109, 47, 84, 97, 115, 107]⟩] w fun e w' => ∃ g cap, e = .returned (.slice (some ⟨g, 0, none⟩) 44 cap) ∧ w'.ownsRow w.heap.size 5 1 (.slice (some ⟨g, 0, none⟩) 44 cap) 44 ((bareL aL taskL).map bV) ∧ Below w.heap.size w w' := lbytes_any ⟨#[65]⟩ ⟨#[118, 109, 47, 84, 97, 115, 107]⟩ (by decide) (by decide) w
theorem cbq (w : World) : Calls Tryz.prog 18 #[.string ⟨#[113, 47, 66]⟩, .string ⟨#[106, 97, 118, 97, 47, 108, 97, 110, 103, 47, 79, 98, 106, 101, 99, 116]⟩] w fun e w' => ∃ g cap, e = .returned (.slice (some ⟨g, 0, none⟩) 55 cap) ∧ w'.ownsRow w.heap.size 5 1 (.slice (some ⟨g, 0, none⟩) 55 cap) 55 ((bareL qL objL).map bV) ∧ Below w.heap.size w w' := lbytes_any ⟨#[113, 47, 66]⟩ ⟨#[106, 97, 118, 97, 47, 108, 97, 110, 103, 47, 79, 98, 106, 101, 99, 116]⟩ (by decide) (by decide) w
theorem cb5 (w : World) : Calls Tryz.prog 18 #[.string ⟨#[65]⟩, .string ⟨#[113, 47, 66]⟩] w fun e w' => ∃ g cap, e = .returned (.slice (some ⟨g, 0, none⟩) 40 cap) ∧ w'.ownsRow w.heap.size 5 1 (.slice (some ⟨g, 0, none⟩) 40 cap) 40 ((bareL aL qL).map bV) ∧ Below w.heap.size w w' := lbytes_any ⟨#[65]⟩ ⟨#[113, 47, 66]⟩ (by decide) (by decide) w
theorem names_0 (w : World) (hgl : GlB w) : Calls Tryz.prog 9 #[.int .i64 (0 : Int)] w fun e w' => e = .returned (.bool true) ∧ Below w.heap.size w w' := by
  have hB := glB_pos hgl
  have HA := Lib.hid (alive_all w hgl)
  have HGL := Lib.hid hgl
  clear hgl
  go_enter Tryz.func9, Tryz.ntmps9
  go_wp2_with (first
    | (go_at_call 10; refine HA.out.mono ?_; rintro e w1 ⟨rfl, hb1⟩; have B1 := Lib.hid hb1; clear hb1)
    | (go_at_call 12; refine stop_here ?_))
  refine go_on ?_
  refine (new_all _).mono ?_
  rintro e w2 ⟨L, v, ts, rfl, hk, h2', hb2⟩
  have hz1 := B1.out.size
  have H2 := Lib.hid h2'
  have HK := Lib.hid hk
  have B2 := Lib.hid (B1.out.trans (hb2.mono hz1))
  have hB1 : 0 < w1.heap.size := by omega
  clear h2' hb2 hk
  go_wp2_with (go_at_call 18; refine stop_here ?_)
  refine go_on ?_
  refine (cb0 w2).mono ?_
  rintro e w3 ⟨g3, k3, rfl, ho3, hb3⟩
  have HB3 := Lib.hid hb3
  have O3 := Lib.hid ho3
  clear ho3 hb3
  have H3 := Lib.hid (H2.out.below HB3.out)
  have B3 := Lib.hid (B2.out.trans (HB3.out.mono B2.out.size))
  clear H2 B2 HB3
  go_wp2_with (go_at_call 15; refine stop_here ?_)
  refine go_on ?_
  refine (defineG H3.out ⟨#[65]⟩ _ _ _ (nameL 0) (by decide) (rdB_own O3.out) (by decide +kernel) (by decide +kernel) (by decide) (by decide) (by omega)).mono ?_
  rintro e wd ⟨rfl, hd, hbd⟩
  have HD := Lib.hid (show LdG w1.heap.size L 1 (nameDefs 0) (fun _ => none) (ts.map TyV.name) [] ts v wd from hd)
  have BD := Lib.hid (B3.out.trans ((H3.out.low hbd).mono hz1))
  clear hd hbd H3 B3
  go_wp2_with (go_at_call 13; refine stop_here ?_)
  refine go_on ?_
  have C6 := Lib.hid (loadTop_any checkB (nameDefs 0) nameDn (nameLdK 0 (by omega)) w1.heap.size L 1 _ ts v wd aB HD.out (ksOk_core HK.out) (by decide) hB1 (HGL.out.below BD.out hB))
  rw [HK.out, show (⟨coreKeys, fun _ => none⟩ : LT) = core1 from rfl] at C6
  refine C6.out.mono ?_
  rintro e w6 ⟨rfl, X6, ts6, v6, hk6, h6, hks6, hb6, _⟩
  have HL := Lib.hid h6
  have BL := Lib.hid (BD.out.trans (hb6.mono hz1))
  clear h6 hk6 hks6 hb6 C6 HD BD
  rw [(name_load 0 (by omega)).1]
  have e8 : strOf (nameWant 0) = ⟨#[]⟩ := by decide
  rw [e8]
  go_wp2_with (go_at_call 24; refine stop_here ?_)
  refine go_on ?_
  obtain ⟨c, hc1, hc2⟩ : ∃ c, (loadP (rdD checkB (nameDefs 0)) 65 [] core1 aB).2.files aL = some c ∧ c.mths = [] := by
    have h0 := name_file0
    rcases hq : (loadP (rdD checkB (nameDefs 0)) 65 [] core1 aB).2.files aL with _ | c
    · rw [hq] at h0; cases h0
    · rw [hq] at h0
      simp only [Option.map_some, Option.some.injEq] at h0
      exact ⟨c, rfl, List.eq_nil_of_length_eq_zero h0⟩
  refine (file_plain HL.out ⟨#[65]⟩ (by decide) hc1 hc2).mono ?_
  rintro e w7 ⟨c9, hl9, ho9, rfl, hb7⟩
  have B7 := Lib.hid (BL.out.trans (hb7.mono BL.out.size))
  have X9 := Lib.hid (bx_new w7 zeroClass 58)
  have B8 := Lib.hid (below_row (B7.out.alloc B7.out.size (.cells zeroClass.toArray 58)) w7.heap.size c9.toArray B7.out.size)
  have hl10 : c9.toArray.size = 9 := by simpa using hl9
  have hall : c9.toArray.all (·.oneCell') = true := by simpa using ho9
  clear hb7 HL BL
  unfold zeroClass at X9 B8
  go_wp2_with (refine wpList_store_row rfl _ _ _ rfl w7.heap.size _ rfl rfl _ _ X9.out (by rw [hl10]; kernel_rfl) (by rw [hl10]; rfl) hall ?_)
  go_ret
  exact ⟨rfl, B8.out⟩
theorem names_1 (w : World) (hgl : GlB w) : Calls Tryz.prog 9 #[.int .i64 (1 : Int)] w fun e w' => e = .returned (.bool true) ∧ Below w.heap.size w w' := by
  have hB := glB_pos hgl
  have HA := Lib.hid (alive_all w hgl)
  have HGL := Lib.hid hgl
  clear hgl
  go_enter Tryz.func9, Tryz.ntmps9
  go_wp2_with (first
    | (go_at_call 10; refine HA.out.mono ?_; rintro e w1 ⟨rfl, hb1⟩; have B1 := Lib.hid hb1; clear hb1)
    | (go_at_call 12; refine stop_here ?_))
  refine go_on ?_
  refine (new_all _).mono ?_
  rintro e w2 ⟨L, v, ts, rfl, hk, h2', hb2⟩
  have hz1 := B1.out.size
  have H2 := Lib.hid h2'
  have HK := Lib.hid hk
  have B2 := Lib.hid (B1.out.trans (hb2.mono hz1))
  have hB1 : 0 < w1.heap.size := by omega
  clear h2' hb2 hk
  go_wp2_with (go_at_call 18; refine stop_here ?_)
  refine go_on ?_
  refine (cb0 w2).mono ?_
  rintro e w3 ⟨g3, k3, rfl, ho3, hb3⟩
  have HB3 := Lib.hid hb3
  have O3 := Lib.hid ho3
  clear ho3 hb3
  have H3 := Lib.hid (H2.out.below HB3.out)
  have B3 := Lib.hid (B2.out.trans (HB3.out.mono B2.out.size))
  clear H2 B2 HB3
  go_wp2_with (go_at_call 18; refine stop_here ?_)
  refine go_on ?_
  refine (cb1 _).mono ?_
  rintro e w4 ⟨g4, k4, rfl, ho4, hb4⟩
  have H4 := Lib.hid (H3.out.below hb4)
  have B4 := Lib.hid (B3.out.trans (hb4.mono B3.out.size))
  have O4 := Lib.hid ho4
  clear ho4 hb4 H3 B3
  go_wp2_with (go_at_call 15; refine stop_here ?_)
  refine go_on ?_
  refine (defineG H4.out ⟨#[65]⟩ _ _ _ (nameL 1) (by decide) (rdB_own O4.out) (by decide +kernel) (by decide +kernel) (by decide) (by decide) (by omega)).mono ?_
  rintro e wd ⟨rfl, hd, hbd⟩
  have HD := Lib.hid (show LdG w1.heap.size L 1 (nameDefs 1) (fun _ => none) (ts.map TyV.name) [] ts v wd from hd)
  have BD := Lib.hid (B4.out.trans ((H4.out.low hbd).mono hz1))
  clear hd hbd H4 B4
  go_wp2_with (go_at_call 13; refine stop_here ?_)
  refine go_on ?_
  have C6 := Lib.hid (loadTop_any checkB (nameDefs 1) nameDn (nameLdK 1 (by omega)) w1.heap.size L 1 _ ts v wd aB HD.out (ksOk_core HK.out) (by decide) hB1 (HGL.out.below BD.out hB))
  rw [HK.out, show (⟨coreKeys, fun _ => none⟩ : LT) = core1 from rfl] at C6
  refine C6.out.mono ?_
  rintro e w6 ⟨rfl, X6, ts6, v6, hk6, h6, hks6, hb6, _⟩
  have HL := Lib.hid h6
  have BL := Lib.hid (BD.out.trans (hb6.mono hz1))
  clear h6 hk6 hks6 hb6 C6 HD BD
  rw [(name_load 1 (by omega)).1]
  have e8 : strOf (nameWant 1) = ⟨#[106, 97, 118, 97, 47, 108, 97, 110, 103, 47, 78, 111, 67, 108, 97, 115, 115, 68, 101, 102, 70, 111, 117, 110, 100, 69, 114, 114, 111, 114]⟩ := by decide
  rw [e8]
  go_wp2_with (go_at_call 24; refine stop_here ?_)
  refine go_on ?_
  have hf0 : (((loadP (rdD checkB (nameDefs 1)) 65 [] core1 aB).2.files aL).isSome) = false := (name_load 1 (by omega)).2
  have hf1 : (loadP (rdD checkB (nameDefs 1)) 65 [] core1 aB).2.files aL = none := by
    rcases hq : (loadP (rdD checkB (nameDefs 1)) 65 [] core1 aB).2.files aL with _ | c
    · rfl
    · rw [hq] at hf0; cases hf0
  refine (file_none HL.out ⟨#[65]⟩ (by decide) hf1).mono ?_
  rintro e w7 ⟨c9, hl9, ho9, rfl, hb7⟩
  have B7 := Lib.hid (BL.out.trans (hb7.mono BL.out.size))
  have X9 := Lib.hid (bx_new w7 zeroClass 58)
  have B8 := Lib.hid (below_row (B7.out.alloc B7.out.size (.cells zeroClass.toArray 58)) w7.heap.size c9.toArray B7.out.size)
  have hl10 : c9.toArray.size = 9 := by simpa using hl9
  have hall : c9.toArray.all (·.oneCell') = true := by simpa using ho9
  clear hb7 HL BL
  unfold zeroClass at X9 B8
  go_wp2_with (refine wpList_store_row rfl _ _ _ rfl w7.heap.size _ rfl rfl _ _ X9.out (by rw [hl10]; kernel_rfl) (by rw [hl10]; rfl) hall ?_)
  go_ret
  exact ⟨rfl, B8.out⟩
theorem names_2 (w : World) (hgl : GlB w) : Calls Tryz.prog 9 #[.int .i64 (2 : Int)] w fun e w' => e = .returned (.bool true) ∧ Below w.heap.size w w' := by
  have hB := glB_pos hgl
  have HA := Lib.hid (alive_all w hgl)
  have HGL := Lib.hid hgl
  clear hgl
  go_enter Tryz.func9, Tryz.ntmps9
  go_wp2_with (first
    | (go_at_call 10; refine HA.out.mono ?_; rintro e w1 ⟨rfl, hb1⟩; have B1 := Lib.hid hb1; clear hb1)
    | (go_at_call 12; refine stop_here ?_))
  refine go_on ?_
  refine (new_all _).mono ?_
  rintro e w2 ⟨L, v, ts, rfl, hk, h2', hb2⟩
  have hz1 := B1.out.size
  have H2 := Lib.hid h2'
  have HK := Lib.hid hk
  have B2 := Lib.hid (B1.out.trans (hb2.mono hz1))
  have hB1 : 0 < w1.heap.size := by omega
  clear h2' hb2 hk
  go_wp2_with (go_at_call 18; refine stop_here ?_)
  refine go_on ?_
  refine (cb0 w2).mono ?_
  rintro e w3 ⟨g3, k3, rfl, ho3, hb3⟩
  have HB3 := Lib.hid hb3
  have O3 := Lib.hid ho3
  clear ho3 hb3
  have c7 : w3.cell? ⟨g3, 7, none⟩ = some (.int .u8 52) := (O3.out.cellAt 7 (by decide)).trans (by kernel_rfl)
  have f7 := O3.out.frozenAt 7
  have O4 := Lib.hid (own_stored O3.out 7 53 53 (by decide))
  have hg7 := O3.out.lt g3 rfl
  have hb7 : Below w2.heap.size w3 (w3.setCell ⟨g3, 7, none⟩ (.int .u8 53)) := (Below.refl _ _).setCell (p := ⟨g3, 7, none⟩) hg7.1 _
  go_wp2_with (go_at_call 15; refine stop_here ?_)
  generalize w3.setCell ⟨g3, 7, none⟩ (.int .u8 53) = w4 at *
  have H4 := Lib.hid (H2.out.below (HB3.out.trans hb7))
  have B4 := Lib.hid (B2.out.trans ((HB3.out.trans hb7).mono B2.out.size))
  clear H2 B2 HB3 hb7 hg7 c7 f7 O3
  refine go_on ?_
  refine (defineG H4.out ⟨#[65]⟩ _ _ _ (nameL 2) (by decide) (rdB_own O4.out) (by decide +kernel) (by decide +kernel) (by decide) (by decide) (by omega)).mono ?_
  rintro e wd ⟨rfl, hd, hbd⟩
  have HD := Lib.hid (show LdG w1.heap.size L 1 (nameDefs 2) (fun _ => none) (ts.map TyV.name) [] ts v wd from hd)
  have BD := Lib.hid (B4.out.trans ((H4.out.low hbd).mono hz1))
  clear hd hbd H4 B4
  go_wp2_with (go_at_call 13; refine stop_here ?_)
  refine go_on ?_
  have C6 := Lib.hid (loadTop_any checkB (nameDefs 2) nameDn (nameLdK 2 (by omega)) w1.heap.size L 1 _ ts v wd aB HD.out (ksOk_core HK.out) (by decide) hB1 (HGL.out.below BD.out hB))
  rw [HK.out, show (⟨coreKeys, fun _ => none⟩ : LT) = core1 from rfl] at C6
  refine C6.out.mono ?_
  rintro e w6 ⟨rfl, X6, ts6, v6, hk6, h6, hks6, hb6, _⟩
  have HL := Lib.hid h6
  have BL := Lib.hid (BD.out.trans (hb6.mono hz1))
  clear h6 hk6 hks6 hb6 C6 HD BD
  rw [(name_load 2 (by omega)).1]
  have e8 : strOf (nameWant 2) = ⟨#[106, 97, 118, 97, 47, 108, 97, 110, 103, 47, 85, 110, 115, 117, 112, 112, 111, 114, 116, 101, 100, 67, 108, 97, 115, 115, 86, 101, 114, 115, 105, 111, 110, 69, 114, 114, 111, 114]⟩ := by decide
  rw [e8]
  go_wp2_with (go_at_call 24; refine stop_here ?_)
  refine go_on ?_
  have hf0 : (((loadP (rdD checkB (nameDefs 2)) 65 [] core1 aB).2.files aL).isSome) = false := (name_load 2 (by omega)).2
  have hf1 : (loadP (rdD checkB (nameDefs 2)) 65 [] core1 aB).2.files aL = none := by
    rcases hq : (loadP (rdD checkB (nameDefs 2)) 65 [] core1 aB).2.files aL with _ | c
    · rfl
    · rw [hq] at hf0; cases hf0
  refine (file_none HL.out ⟨#[65]⟩ (by decide) hf1).mono ?_
  rintro e w7 ⟨c9, hl9, ho9, rfl, hb7⟩
  have B7 := Lib.hid (BL.out.trans (hb7.mono BL.out.size))
  have X9 := Lib.hid (bx_new w7 zeroClass 58)
  have B8 := Lib.hid (below_row (B7.out.alloc B7.out.size (.cells zeroClass.toArray 58)) w7.heap.size c9.toArray B7.out.size)
  have hl10 : c9.toArray.size = 9 := by simpa using hl9
  have hall : c9.toArray.all (·.oneCell') = true := by simpa using ho9
  clear hb7 HL BL
  unfold zeroClass at X9 B8
  go_wp2_with (refine wpList_store_row rfl _ _ _ rfl w7.heap.size _ rfl rfl _ _ X9.out (by rw [hl10]; kernel_rfl) (by rw [hl10]; rfl) hall ?_)
  go_ret
  exact ⟨rfl, B8.out⟩
theorem names_3 (w : World) (hgl : GlB w) : Calls Tryz.prog 9 #[.int .i64 (3 : Int)] w fun e w' => e = .returned (.bool true) ∧ Below w.heap.size w w' := by
  have hB := glB_pos hgl
  have HA := Lib.hid (alive_all w hgl)
  have HGL := Lib.hid hgl
  clear hgl
  go_enter Tryz.func9, Tryz.ntmps9
  go_wp2_with (first
    | (go_at_call 10; refine HA.out.mono ?_; rintro e w1 ⟨rfl, hb1⟩; have B1 := Lib.hid hb1; clear hb1)
    | (go_at_call 12; refine stop_here ?_))
  refine go_on ?_
  refine (new_all _).mono ?_
  rintro e w2 ⟨L, v, ts, rfl, hk, h2', hb2⟩
  have hz1 := B1.out.size
  have H2 := Lib.hid h2'
  have HK := Lib.hid hk
  have B2 := Lib.hid (B1.out.trans (hb2.mono hz1))
  have hB1 : 0 < w1.heap.size := by omega
  clear h2' hb2 hk
  go_wp2_with (go_at_call 18; refine stop_here ?_)
  refine go_on ?_
  refine (cb0 w2).mono ?_
  rintro e w3 ⟨g3, k3, rfl, ho3, hb3⟩
  have HB3 := Lib.hid hb3
  have O3 := Lib.hid ho3
  clear ho3 hb3
  have H3 := Lib.hid (H2.out.below HB3.out)
  have B3 := Lib.hid (B2.out.trans (HB3.out.mono B2.out.size))
  clear H2 B2 HB3
  have hk3 : 53 ≤ k3 := (rdB_own O3.out).hle
  go_wp2_with (go_at_call 15; refine stop_here ?_)
  refine go_on ?_
  refine (defineG H3.out ⟨#[65]⟩ _ _ _ (nameL 3) (by decide) ((rdB_own O3.out).take 52 (by decide)) (by decide +kernel) (by decide +kernel) (by decide) (by decide) (by omega)).mono ?_
  rintro e wd ⟨rfl, hd, hbd⟩
  have HD := Lib.hid (show LdG w1.heap.size L 1 (nameDefs 3) (fun _ => none) (ts.map TyV.name) [] ts v wd from hd)
  have BD := Lib.hid (B3.out.trans ((H3.out.low hbd).mono hz1))
  clear hd hbd H3 B3
  go_wp2_with (go_at_call 13; refine stop_here ?_)
  refine go_on ?_
  have C6 := Lib.hid (loadTop_any checkB (nameDefs 3) nameDn (nameLdK 3 (by omega)) w1.heap.size L 1 _ ts v wd aB HD.out (ksOk_core HK.out) (by decide) hB1 (HGL.out.below BD.out hB))
  rw [HK.out, show (⟨coreKeys, fun _ => none⟩ : LT) = core1 from rfl] at C6
  refine C6.out.mono ?_
  rintro e w6 ⟨rfl, X6, ts6, v6, hk6, h6, hks6, hb6, _⟩
  have HL := Lib.hid h6
  have BL := Lib.hid (BD.out.trans (hb6.mono hz1))
  clear h6 hk6 hks6 hb6 C6 HD BD
  rw [(name_load 3 (by omega)).1]
  have e8 : strOf (nameWant 3) = ⟨#[106, 97, 118, 97, 47, 108, 97, 110, 103, 47, 67, 108, 97, 115, 115, 70, 111, 114, 109, 97, 116, 69, 114, 114, 111, 114]⟩ := by decide
  rw [e8]
  go_wp2_with (go_at_call 24; refine stop_here ?_)
  refine go_on ?_
  have hf0 : (((loadP (rdD checkB (nameDefs 3)) 65 [] core1 aB).2.files aL).isSome) = false := (name_load 3 (by omega)).2
  have hf1 : (loadP (rdD checkB (nameDefs 3)) 65 [] core1 aB).2.files aL = none := by
    rcases hq : (loadP (rdD checkB (nameDefs 3)) 65 [] core1 aB).2.files aL with _ | c
    · rfl
    · rw [hq] at hf0; cases hf0
  refine (file_none HL.out ⟨#[65]⟩ (by decide) hf1).mono ?_
  rintro e w7 ⟨c9, hl9, ho9, rfl, hb7⟩
  have B7 := Lib.hid (BL.out.trans (hb7.mono BL.out.size))
  have X9 := Lib.hid (bx_new w7 zeroClass 58)
  have B8 := Lib.hid (below_row (B7.out.alloc B7.out.size (.cells zeroClass.toArray 58)) w7.heap.size c9.toArray B7.out.size)
  have hl10 : c9.toArray.size = 9 := by simpa using hl9
  have hall : c9.toArray.all (·.oneCell') = true := by simpa using ho9
  clear hb7 HL BL
  unfold zeroClass at X9 B8
  go_wp2_with (refine wpList_store_row rfl _ _ _ rfl w7.heap.size _ rfl rfl _ _ X9.out (by rw [hl10]; kernel_rfl) (by rw [hl10]; rfl) hall ?_)
  go_ret
  exact ⟨rfl, B8.out⟩
theorem names_4 (w : World) (hgl : GlB w) : Calls Tryz.prog 9 #[.int .i64 (4 : Int)] w fun e w' => e = .returned (.bool true) ∧ Below w.heap.size w w' := by
  have hB := glB_pos hgl
  have HA := Lib.hid (alive_all w hgl)
  have HGL := Lib.hid hgl
  clear hgl
  go_enter Tryz.func9, Tryz.ntmps9
  go_wp2_with (first
    | (go_at_call 10; refine HA.out.mono ?_; rintro e w1 ⟨rfl, hb1⟩; have B1 := Lib.hid hb1; clear hb1)
    | (go_at_call 12; refine stop_here ?_))
  refine go_on ?_
  refine (new_all _).mono ?_
  rintro e w2 ⟨L, v, ts, rfl, hk, h2', hb2⟩
  have hz1 := B1.out.size
  have H2 := Lib.hid h2'
  have HK := Lib.hid hk
  have B2 := Lib.hid (B1.out.trans (hb2.mono hz1))
  have hB1 : 0 < w1.heap.size := by omega
  clear h2' hb2 hk
  go_wp2_with (go_at_call 18; refine stop_here ?_)
  refine go_on ?_
  refine (cb0 w2).mono ?_
  rintro e w3 ⟨g3, k3, rfl, ho3, hb3⟩
  have HB3 := Lib.hid hb3
  have O3 := Lib.hid ho3
  clear ho3 hb3
  have H3 := Lib.hid (H2.out.below HB3.out)
  have B3 := Lib.hid (B2.out.trans (HB3.out.mono B2.out.size))
  clear H2 B2 HB3
  go_wp2_with (go_at_call 18; refine stop_here ?_)
  refine go_on ?_
  refine (cb4 _).mono ?_
  rintro e w4 ⟨g4, k4, rfl, ho4, hb4⟩
  have H4 := Lib.hid (H3.out.below hb4)
  have B4 := Lib.hid (B3.out.trans (hb4.mono B3.out.size))
  have O4 := Lib.hid ho4
  clear ho4 hb4 H3 B3
  go_wp2_with (go_at_call 15; refine stop_here ?_)
  refine go_on ?_
  refine (defineG H4.out ⟨#[65]⟩ _ _ _ (nameL 4) (by decide) (rdB_own O4.out) (by decide +kernel) (by decide +kernel) (by decide) (by decide) (by omega)).mono ?_
  rintro e wd ⟨rfl, hd, hbd⟩
  have HD := Lib.hid (show LdG w1.heap.size L 1 (nameDefs 4) (fun _ => none) (ts.map TyV.name) [] ts v wd from hd)
  have BD := Lib.hid (B4.out.trans ((H4.out.low hbd).mono hz1))
  clear hd hbd H4 B4
  go_wp2_with (go_at_call 13; refine stop_here ?_)
  refine go_on ?_
  have C6 := Lib.hid (loadTop_any checkB (nameDefs 4) nameDn (nameLdK 4 (by omega)) w1.heap.size L 1 _ ts v wd aB HD.out (ksOk_core HK.out) (by decide) hB1 (HGL.out.below BD.out hB))
  rw [HK.out, show (⟨coreKeys, fun _ => none⟩ : LT) = core1 from rfl] at C6
  refine C6.out.mono ?_
  rintro e w6 ⟨rfl, X6, ts6, v6, hk6, h6, hks6, hb6, _⟩
  have HL := Lib.hid h6
  have BL := Lib.hid (BD.out.trans (hb6.mono hz1))
  clear h6 hk6 hks6 hb6 C6 HD BD
  rw [(name_load 4 (by omega)).1]
  have e8 : strOf (nameWant 4) = ⟨#[106, 97, 118, 97, 47, 108, 97, 110, 103, 47, 73, 110, 99, 111, 109, 112, 97, 116, 105, 98, 108, 101, 67, 108, 97, 115, 115, 67, 104, 97, 110, 103, 101, 69, 114, 114, 111, 114]⟩ := by decide
  rw [e8]
  go_wp2_with (go_at_call 24; refine stop_here ?_)
  refine go_on ?_
  have hf0 : (((loadP (rdD checkB (nameDefs 4)) 65 [] core1 aB).2.files aL).isSome) = false := (name_load 4 (by omega)).2
  have hf1 : (loadP (rdD checkB (nameDefs 4)) 65 [] core1 aB).2.files aL = none := by
    rcases hq : (loadP (rdD checkB (nameDefs 4)) 65 [] core1 aB).2.files aL with _ | c
    · rfl
    · rw [hq] at hf0; cases hf0
  refine (file_none HL.out ⟨#[65]⟩ (by decide) hf1).mono ?_
  rintro e w7 ⟨c9, hl9, ho9, rfl, hb7⟩
  have B7 := Lib.hid (BL.out.trans (hb7.mono BL.out.size))
  have X9 := Lib.hid (bx_new w7 zeroClass 58)
  have B8 := Lib.hid (below_row (B7.out.alloc B7.out.size (.cells zeroClass.toArray 58)) w7.heap.size c9.toArray B7.out.size)
  have hl10 : c9.toArray.size = 9 := by simpa using hl9
  have hall : c9.toArray.all (·.oneCell') = true := by simpa using ho9
  clear hb7 HL BL
  unfold zeroClass at X9 B8
  go_wp2_with (refine wpList_store_row rfl _ _ _ rfl w7.heap.size _ rfl rfl _ _ X9.out (by rw [hl10]; kernel_rfl) (by rw [hl10]; rfl) hall ?_)
  go_ret
  exact ⟨rfl, B8.out⟩
theorem names_5 (w : World) (hgl : GlB w) : Calls Tryz.prog 9 #[.int .i64 (5 : Int)] w fun e w' => e = .returned (.bool true) ∧ Below w.heap.size w w' := by
  have hB := glB_pos hgl
  have HA := Lib.hid (alive_all w hgl)
  have HGL := Lib.hid hgl
  clear hgl
  go_enter Tryz.func9, Tryz.ntmps9
  go_wp2_with (first
    | (go_at_call 10; refine HA.out.mono ?_; rintro e w1 ⟨rfl, hb1⟩; have B1 := Lib.hid hb1; clear hb1)
    | (go_at_call 12; refine stop_here ?_))
  refine go_on ?_
  refine (new_all _).mono ?_
  rintro e w2 ⟨L, v, ts, rfl, hk, h2', hb2⟩
  have hz1 := B1.out.size
  have H2 := Lib.hid h2'
  have HK := Lib.hid hk
  have B2 := Lib.hid (B1.out.trans (hb2.mono hz1))
  have hB1 : 0 < w1.heap.size := by omega
  clear h2' hb2 hk
  go_wp2_with (go_at_call 18; refine stop_here ?_)
  refine go_on ?_
  refine (cb0 w2).mono ?_
  rintro e w3 ⟨g3, k3, rfl, ho3, hb3⟩
  have HB3 := Lib.hid hb3
  have O3 := Lib.hid ho3
  clear ho3 hb3
  have H3 := Lib.hid (H2.out.below HB3.out)
  have B3 := Lib.hid (B2.out.trans (HB3.out.mono B2.out.size))
  clear H2 B2 HB3
  go_wp2_with (go_at_call 18; refine stop_here ?_)
  refine go_on ?_
  refine (cbq _).mono ?_
  rintro e w4 ⟨g4, k4, rfl, ho4, hb4⟩
  have HB4 := Lib.hid hb4
  have O4 := Lib.hid ho4
  clear ho4 hb4
  have c7 : w4.cell? ⟨g4, 42, none⟩ = some (.int .u8 33) := (O4.out.cellAt 42 (by decide)).trans (by kernel_rfl)
  have f7 := O4.out.frozenAt 42
  have O5 := Lib.hid (own_stored O4.out 42 32 32 (by decide))
  have hg7 := O4.out.lt g4 rfl
  have hb7 : Below w3.heap.size w4 (w4.setCell ⟨g4, 42, none⟩ (.int .u8 32)) := (Below.refl _ _).setCell (p := ⟨g4, 42, none⟩) hg7.1 _
  go_wp2_with (go_at_call 15; refine stop_here ?_)
  generalize w4.setCell ⟨g4, 42, none⟩ (.int .u8 32) = w5 at *
  have H5 := Lib.hid (H3.out.below (HB4.out.trans hb7))
  have B5 := Lib.hid (B3.out.trans ((HB4.out.trans hb7).mono B3.out.size))
  clear H3 B3 HB4 hb7 hg7 c7 f7 O4 O3
  refine go_on ?_
  refine (defineG H5.out ⟨#[113, 47, 66]⟩ _ _ _ qbL (by decide) (rdB_own O5.out) (by decide +kernel) (by decide +kernel) (by decide) rfl (by omega)).mono ?_
  rintro e wq ⟨rfl, hd, hbd⟩
  have HQ := Lib.hid hd
  have BQ := Lib.hid (B5.out.trans ((H5.out.low hbd).mono hz1))
  clear hd hbd H5 B5 O5
  go_wp2_with (go_at_call 18; refine stop_here ?_)
  refine go_on ?_
  refine (cb5 _).mono ?_
  rintro e w6' ⟨g6, k6, rfl, ho6, hb6⟩
  have H6 := Lib.hid (HQ.out.below hb6)
  have B6 := Lib.hid (BQ.out.trans (hb6.mono BQ.out.size))
  have O6 := Lib.hid ho6
  clear ho6 hb6 HQ BQ
  go_wp2_with (go_at_call 15; refine stop_here ?_)
  refine go_on ?_
  refine (defineG H6.out ⟨#[65]⟩ _ _ _ (nameL 5) (by decide) (rdB_own O6.out) (by decide +kernel) (by decide +kernel) (by decide) (by decide) (by omega)).mono ?_
  rintro e wd ⟨rfl, hd, hbd⟩
  have HD := Lib.hid (show LdG w1.heap.size L 2 (nameDefs 5) (fun _ => none) (ts.map TyV.name) [] ts v wd from hd)
  have BD := Lib.hid (B6.out.trans ((H6.out.low hbd).mono hz1))
  clear hd hbd H6 B6
  go_wp2_with (go_at_call 13; refine stop_here ?_)
  refine go_on ?_
  have C6 := Lib.hid (loadTop_any checkB (nameDefs 5) nameDn (nameLdK 5 (by omega)) w1.heap.size L 2 _ ts v wd aB HD.out (ksOk_core HK.out) (by decide) hB1 (HGL.out.below BD.out hB))
  rw [HK.out, show (⟨coreKeys, fun _ => none⟩ : LT) = core1 from rfl] at C6
  refine C6.out.mono ?_
  rintro e w6 ⟨rfl, X6, ts6, v6, hk6, h6, hks6, hb6, _⟩
  have HL := Lib.hid h6
  have BL := Lib.hid (BD.out.trans (hb6.mono hz1))
  clear h6 hk6 hks6 hb6 C6 HD BD
  rw [(name_load 5 (by omega)).1]
  have e8 : strOf (nameWant 5) = ⟨#[106, 97, 118, 97, 47, 108, 97, 110, 103, 47, 73, 108, 108, 101, 103, 97, 108, 65, 99, 99, 101, 115, 115, 69, 114, 114, 111, 114]⟩ := by decide
  rw [e8]
  go_wp2_with (go_at_call 24; refine stop_here ?_)
  refine go_on ?_
  have hf0 : (((loadP (rdD checkB (nameDefs 5)) 65 [] core1 aB).2.files aL).isSome) = false := (name_load 5 (by omega)).2
  have hf1 : (loadP (rdD checkB (nameDefs 5)) 65 [] core1 aB).2.files aL = none := by
    rcases hq : (loadP (rdD checkB (nameDefs 5)) 65 [] core1 aB).2.files aL with _ | c
    · rfl
    · rw [hq] at hf0; cases hf0
  refine (file_none HL.out ⟨#[65]⟩ (by decide) hf1).mono ?_
  rintro e w7 ⟨c9, hl9, ho9, rfl, hb7⟩
  have B7 := Lib.hid (BL.out.trans (hb7.mono BL.out.size))
  have X9 := Lib.hid (bx_new w7 zeroClass 58)
  have B8 := Lib.hid (below_row (B7.out.alloc B7.out.size (.cells zeroClass.toArray 58)) w7.heap.size c9.toArray B7.out.size)
  have hl10 : c9.toArray.size = 9 := by simpa using hl9
  have hall : c9.toArray.all (·.oneCell') = true := by simpa using ho9
  clear hb7 HL BL
  unfold zeroClass at X9 B8
  go_wp2_with (refine wpList_store_row rfl _ _ _ rfl w7.heap.size _ rfl rfl _ _ X9.out (by rw [hl10]; kernel_rfl) (by rw [hl10]; rfl) hall ?_)
  go_ret
  exact ⟨rfl, B8.out⟩
theorem names_any (n : Int) (w : World) (hgl : GlB w) : Calls Tryz.prog 9 #[.int .i64 n] w fun e w' => e = .returned (.bool true) ∧ Below w.heap.size w w' := by
  by_cases h1 : n < 0
  · have c1 : decide (n < 0) = true := by simpa using h1
    have HA := Lib.hid (alive_all w hgl)
    clear hgl
    go_enter Tryz.func9, Tryz.ntmps9
    go_wp2_with (go_at_call 10; refine HA.out.mono ?_; rintro e w1 ⟨rfl, hb1⟩; have B1 := Lib.hid hb1; clear hb1)
    go_ret
    exact ⟨rfl, B1.out⟩
  · by_cases h2 : n > 5
    · have c1 : decide (n < 0) = false := by simpa using h1
      have c2 : decide (n > 5) = true := by simpa using h2
      have HA := Lib.hid (alive_all w hgl)
      clear hgl
      go_enter Tryz.func9, Tryz.ntmps9
      go_wp2_with (go_at_call 10; refine HA.out.mono ?_; rintro e w1 ⟨rfl, hb1⟩; have B1 := Lib.hid hb1; clear hb1)
      go_ret
      exact ⟨rfl, B1.out⟩
    · have h3 : n = 0 ∨ n = 1 ∨ n = 2 ∨ n = 3 ∨ n = 4 ∨ n = 5 := by omega
      rcases h3 with rfl | rfl | rfl | rfl | rfl | rfl
      · exact names_0 w hgl
      · exact names_1 w hgl
      · exact names_2 w hgl
      · exact names_3 w hgl
      · exact names_4 w hgl
      · exact names_5 w hgl
end Go.Proofs.YtdbniocnjhfhdaaGreatDoor
