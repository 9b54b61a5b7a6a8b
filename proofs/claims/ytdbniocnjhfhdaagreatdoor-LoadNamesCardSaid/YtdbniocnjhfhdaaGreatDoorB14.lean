/-
  What the loader's laws rest on, part 14: walks of the program's functions and plain laws. Conditions: none but those that each theorem names.
-/
import Derived.Test.YtdbniocnjhfhdaaGreatDoorB13
import Derived.Deep.AppendLies
/-
  check.Outline at a class without fields and methods.
-/
set_option linter.unusedSimpArgs false
set_option linter.unusedVariables false
set_option maxRecDepth 100000
set_option maxHeartbeats 2000000
namespace Go.Proofs.YtdbniocnjhfhdaaGreatDoor
open Go Go.RowKit Lib
/-- The class's own block, and the result's. -/
structure OlW (w : World) (cells : List Value) (wk : World) : Prop where
  bel : Below w.heap.size w wk
  bc : Bx wk w.heap.size cells 58
  nr : Bx wk (w.heap.size + 1) zeroTyp 39
theorem OlW.low {w : World} {cells : List Value} {wk wq : World} {B : Nat} (h : OlW w cells wk) (hb : Below B wk wq) (hB : w.heap.size + 2 ≤ B) : OlW w cells wq := ⟨h.bel.trans (hb.mono (by omega)), h.bc.below hb (by omega), h.nr.below hb (by omega)⟩
theorem OlW.below {w : World} {cells : List Value} {wk wq : World} (h : OlW w cells wk) (hb : Below wk.heap.size wk wq) : OlW w cells wq := ⟨h.bel.trans (hb.mono h.bel.size), h.bc.below hb h.bc.lt, h.nr.below hb h.nr.lt⟩
theorem OlW.set {w : World} {cells : List Value} {wk : World} (h : OlW w cells wk) (p : Addr) (v : Value) (hp : w.heap.size + 2 ≤ p.block) : OlW w cells (wk.setCell p v) := ⟨h.bel.setCell (by omega) v, h.bc.set_other _ _ (by omega), h.nr.set_other _ _ (by omega)⟩
theorem OlW.row {w : World} {cells : List Value} {wk : World} (h : OlW w cells wk) (g : Nat) (cs : Array Value) (hp : w.heap.size + 2 ≤ g) : OlW w cells (wk.setRow g cs) :=
  ⟨h.bel.trans ⟨rfl, rfl, rfl, by simp, fun k hk => setRow_other _ _ _ _ (by omega)⟩, (setRow_other wk g _ cs (by omega)).trans h.bc, (setRow_other wk g _ cs (by omega)).trans h.nr⟩
/-- Beside them the book, and the type that is being made. -/
structure OlB (w : World) (cells : List Value) (G : Nat) (tc : List Value) (wk : World) : Prop where
  ol : OlW w cells wk
  bb : Bx wk G cells 179
  tb : Bx wk (G + 1) tc 39
theorem OlB.below {w : World} {cells tc : List Value} {G : Nat} {wk wq : World} (h : OlB w cells G tc wk) (hb : Below wk.heap.size wk wq) : OlB w cells G tc wq := ⟨h.ol.below hb, h.bb.below hb h.bb.lt, h.tb.below hb h.tb.lt⟩
theorem OlB.low {w : World} {cells tc : List Value} {G : Nat} {wk wq : World} (h : OlB w cells G tc wk) (hb : Below (G + 2) wk wq) (hG : w.heap.size + 2 ≤ G) : OlB w cells G tc wq := ⟨h.ol.low hb (by omega), h.bb.below hb (by omega), h.tb.below hb (by omega)⟩
theorem OlB.set {w : World} {cells tc : List Value} {G : Nat} {wk : World} (h : OlB w cells G tc wk) (hG : w.heap.size + 2 ≤ G) (j : Nat) (v : Value) : OlB w cells G (tc.set j v) (wk.setCell ⟨G + 1, j, none⟩ v) := ⟨h.ol.set _ _ (by simp; omega), h.bb.set_other _ _ (by simp), h.tb.set j v⟩
theorem OlB.at {w : World} {ok : Nat → Prop} {c : ClassV} {p i f m : Value} {cells tc : List Value} {G : Nat} {wk : World} (h : OlB w cells G tc wk) (h0 : ClassAt w ok c p i f m) : ClassAt wk ok c p i f m := h0.keep (Kept.of_below h.ol.bel)
theorem outline_bare (c : ClassV) (p i f m : Value) (ok : Nat → Prop) (w : World) (h : ClassAt w ok c p i f m) (hn1 : Fine c.this) (hn2 : Fine c.sup) (hf : ∀ k ∈ c.pool, Fine k.a) (hfi : ∀ n ∈ c.ifs, Fine n) (E : Int)
    (hchk : ∀ W, ClassAt W ok c p i f m → Calls Tryz.prog 95 #[bookV c p i f m] W fun e W' => e = .returned (.int .i64 E) ∧ Below W.heap.size W W') (hil : c.ifs.length ≤ 64) (hfl : c.flds = []) (hml : c.mths = []) :
    Calls Tryz.prog 68 #[bookV c p i f m] w (OutPost c E w) := by
  obtain ⟨Ap, kp, rfl, hkp1, hkp2⟩ := sl_len h.hpool
  obtain ⟨Ai, ki, rfl, hki1, hki2⟩ := sl_len h.hifs
  obtain ⟨Af, kf, rfl, hkf1, hkf2⟩ := sl_len h.hflds
  obtain ⟨ms, hms1, hms2, hms3⟩ := h.hmths
  obtain ⟨Am, km, rfl, hkm1, hkm2⟩ := sl_len hms2
  have H0 := Lib.hid h
  have HN1 := Lib.hid hn1
  have HN2 := Lib.hid hn2
  have HF := Lib.hid hf
  have HFI := Lib.hid hfi
  have HCH := Lib.hid hchk
  have HFL := Lib.hid hfl
  have HML := Lib.hid hml
  have B1 := Lib.hid (show OlW w [.int .i64 c.minor, .int .i64 c.major, .slice Ap c.pool.length kp, .int .i64 c.acc, .int .i64 c.this, .int .i64 c.sup, .slice Ai c.ifs.length ki, .slice Af c.flds.length kf, .slice Am c.mths.length km] ((w.alloc (.cells ([.int .i64 c.minor, .int .i64 c.major, .slice Ap c.pool.length kp, .int .i64 c.acc, .int .i64 c.this, .int .i64 c.sup, .slice Ai c.ifs.length ki, .slice Af c.flds.length kf, .slice Am c.mths.length km]).toArray 58)).alloc (.cells zeroTyp.toArray 39)) from ⟨((Below.refl _ _).alloc (Nat.le_refl _) _).alloc (by simp) _, (bx_new w _ _).below ((Below.refl _ _).alloc (Nat.le_refl _) _) (by simp), bx_new_at _ _ _ _ (by simp)⟩)
  clear h hn1 hn2 hf hfi hchk hms1 hms2 hms3 hfl hml
  rw [bookV_open]
  go_enter Tryz.func68, Tryz.ntmps68
  go_wp2_with (first
    | (refine wpList_load_row rfl _ _ rfl w.heap.size rfl _ _ _ _ B1.out.bc Tryz.underlying58 rfl (by kernel_rfl) ?_)
    | (go_at_call 95; refine stop_here ?_))
  refine go_on ?_
  refine (HCH.out _ (H0.out.keep (Kept.of_below B1.out.bel))).mono ?_
  rintro e w2 ⟨rfl, hb⟩
  have B2 := Lib.hid (B1.out.below hb)
  have hz2 := B2.out.nr.lt
  clear hb B1 HCH
  by_cases hE : E = 0
  · subst hE
    go_wp2_with (first
      | (refine wpList_load_row rfl _ _ rfl w.heap.size rfl _ _ _ _ (B2.out.below ((Below.refl _ _).alloc (Nat.le_refl _) _)).bc Tryz.underlying58 rfl (by kernel_rfl) ?_)
      | (refine wpList_load_row rfl _ _ rfl w.heap.size rfl _ _ _ _ B2.out.bc Tryz.underlying58 rfl (by kernel_rfl) ?_)
      | (refine wpList_store_row rfl _ _ _ rfl w2.heap.size _ rfl rfl _ _ (bx_new _ [.int .i64 0, .int .i64 0, .slice none 0 0, .int .i64 0, .int .i64 0, .int .i64 0, .slice none 0 0, .slice none 0 0, .slice none 0 0] _) (by kernel_rfl) rfl (by simp [Value.oneCell']) ?_; refine stop_here ?_))
    refine go_on ?_
    have B3 := Lib.hid ((B2.out.below ((Below.refl _ _).alloc (Nat.le_refl _) (.cells #[.int .i64 0, .int .i64 0, .slice none 0 0, .int .i64 0, .int .i64 0, .int .i64 0, .slice none 0 0, .slice none 0 0, .slice none 0 0] 179))).row w2.heap.size ([.int .i64 c.minor, .int .i64 c.major, .slice Ap c.pool.length kp, .int .i64 c.acc, .int .i64 c.this, .int .i64 c.sup, .slice Ai c.ifs.length ki, .slice Af c.flds.length kf, .slice Am c.mths.length km]).toArray (by omega))
    have K3 := Lib.hid ((bx_new w2 [.int .i64 0, .int .i64 0, .slice none 0 0, .int .i64 0, .int .i64 0, .int .i64 0, .slice none 0 0, .slice none 0 0, .slice none 0 0] 179).row [.int .i64 c.minor, .int .i64 c.major, .slice Ap c.pool.length kp, .int .i64 c.acc, .int .i64 c.this, .int .i64 c.sup, .slice Ai c.ifs.length ki, .slice Af c.flds.length kf, .slice Am c.mths.length km])
    have hz3 : ((w2.alloc (.cells #[.int .i64 0, .int .i64 0, .slice none 0 0, .int .i64 0, .int .i64 0, .int .i64 0, .slice none 0 0, .slice none 0 0, .slice none 0 0] 179)).setRow w2.heap.size ([.int .i64 c.minor, .int .i64 c.major, .slice Ap c.pool.length kp, .int .i64 c.acc, .int .i64 c.this, .int .i64 c.sup, .slice Ai c.ifs.length ki, .slice Af c.flds.length kf, .slice Am c.mths.length km]).toArray).heap.size = w2.heap.size + 1 := by simp
    generalize (w2.alloc (.cells #[.int .i64 0, .int .i64 0, .slice none 0 0, .int .i64 0, .int .i64 0, .int .i64 0, .slice none 0 0, .slice none 0 0, .slice none 0 0] 179)).setRow w2.heap.size ([.int .i64 c.minor, .int .i64 c.major, .slice Ap c.pool.length kp, .int .i64 c.acc, .int .i64 c.this, .int .i64 c.sup, .slice Ai c.ifs.length ki, .slice Af c.flds.length kf, .slice Am c.mths.length km]).toArray = w3 at *
    obtain ⟨G, hG⟩ : ∃ G, w2.heap.size = G := ⟨_, rfl⟩
    rw [hG] at hz3 hz2 K3 ⊢
    have HG2 : w.heap.size + 2 ≤ G := by omega
    clear B2 hG
    have m3 := B3.out.bc.cell 3 rfl
    go_wp2_with (first
      | (refine wpList_store_row rfl _ _ _ rfl (G + 1) _ rfl rfl _ _ (bx_new_at w3 zeroTyp _ (G + 1) hz3.symm) (by kernel_rfl) rfl (by simp [Value.oneCell']) ?_; refine stop_here ?_))
    refine go_on ?_
    have B4 := Lib.hid (show OlB w [.int .i64 c.minor, .int .i64 c.major, .slice Ap c.pool.length kp, .int .i64 c.acc, .int .i64 c.this, .int .i64 c.sup, .slice Ai c.ifs.length ki, .slice Af c.flds.length kf, .slice Am c.mths.length km] G [.string ⟨#[]⟩, .string ⟨#[]⟩, .int .i64 c.acc, .slice none 0 0, .slice none 0 0, .slice none 0 0] ((w3.alloc (.cells #[.string ⟨#[]⟩, .string ⟨#[]⟩, .int .i64 0, .slice none 0 0, .slice none 0 0, .slice none 0 0] 39)).setRow (G + 1) #[.string ⟨#[]⟩, .string ⟨#[]⟩, .int .i64 c.acc, .slice none 0 0, .slice none 0 0, .slice none 0 0]) from
      ⟨(B3.out.below ((Below.refl _ _).alloc (Nat.le_refl _) _)).row _ _ (by omega), (show _ = _ from (setRow_other _ _ _ _ (by omega)).trans (K3.out.below ((Below.refl _ _).alloc (Nat.le_refl _) _) K3.out.lt)), (bx_new_at w3 [.string ⟨#[]⟩, .string ⟨#[]⟩, .int .i64 0, .slice none 0 0, .slice none 0 0, .slice none 0 0] _ (G + 1) hz3.symm).row _⟩)
    have hz4 : ((w3.alloc (.cells #[.string ⟨#[]⟩, .string ⟨#[]⟩, .int .i64 0, .slice none 0 0, .slice none 0 0, .slice none 0 0] 39)).setRow (G + 1) #[.string ⟨#[]⟩, .string ⟨#[]⟩, .int .i64 c.acc, .slice none 0 0, .slice none 0 0, .slice none 0 0]).heap.size = G + 2 := by simp; omega
    generalize (w3.alloc (.cells #[.string ⟨#[]⟩, .string ⟨#[]⟩, .int .i64 0, .slice none 0 0, .slice none 0 0, .slice none 0 0] 39)).setRow (G + 1) #[.string ⟨#[]⟩, .string ⟨#[]⟩, .int .i64 c.acc, .slice none 0 0, .slice none 0 0, .slice none 0 0] = w4 at *
    clear B3 K3 m3
    have m4 := B4.out.ol.bc.cell 4 rfl
    go_wp2_with (first
      | (refine wpList_load_row rfl _ _ rfl G rfl _ _ _ _ B4.out.bb Tryz.underlying179 rfl (by kernel_rfl) ?_)
      | (go_at_call 96; refine stop_here ?_))
    refine go_on ?_
    refine (name_book c Ap kp (.slice Ai c.ifs.length ki) (.slice Af c.flds.length kf) (.slice Am c.mths.length km) c.this ok _ ⟨(B4.out.at H0.out).hpool, rfl, rfl, rfl⟩ HN1.out HF.out).mono ?_
    rintro e w5 ⟨rfl, hb⟩
    simp only [optV]
    have hz5 := hb.size
    have B5 := Lib.hid (B4.out.below hb)
    have B6 := Lib.hid ((B4.out.below hb).set HG2 0 (.string ((nameAt c.pool c.this).getD ⟨#[]⟩)))
    have t0 := B5.out.tb.cell 0 rfl
    have z0 := B5.out.tb.frozen 0
    have m5 := B6.out.ol.bc.cell 5 rfl
    clear hb m4 B4
    go_wp2_with (first
      | (refine wpList_load_row rfl _ _ rfl G rfl _ _ _ _ B6.out.bb Tryz.underlying179 rfl (by kernel_rfl) ?_)
      | (go_at_call 96; refine stop_here ?_))
    refine go_on ?_
    refine (name_book c Ap kp (.slice Ai c.ifs.length ki) (.slice Af c.flds.length kf) (.slice Am c.mths.length km) c.sup ok _ ⟨(B6.out.at H0.out).hpool, rfl, rfl, rfl⟩ HN2.out HF.out).mono ?_
    rintro e w6 ⟨rfl, hb⟩
    simp only [optV]
    have hz6 := hb.size
    simp only [World.size_setCell] at hz6
    have B7 := Lib.hid (B6.out.below hb)
    have B8 := Lib.hid ((B6.out.below hb).set HG2 1 (.string ((nameAt c.pool c.sup).getD ⟨#[]⟩)))
    have t1 := B7.out.tb.cell 1 rfl
    have z1 := B7.out.tb.frozen 1
    have m6 := B8.out.ol.bc.cell 6 rfl
    clear hb m5 B6 t0 z0
    go_wp2_with fail
    have hz7 : (w6.setCell ⟨G + 1, 1, none⟩ (.string ((nameAt c.pool c.sup).getD ⟨#[]⟩))).heap.size = w6.heap.size := by simp
    generalize w6.setCell ⟨G + 1, 1, none⟩ (.string ((nameAt c.pool c.sup).getD ⟨#[]⟩)) = w7 at *
    clear m6 t1 z1 B5 B7
    go_loopw [55] (fun i wr => ∃ (k : Nat) (pv : Value), k ≤ c.ifs.length ∧ i = .int .i64 k ∧ G + 2 ≤ wr.heap.size ∧ Hid (OlB w [.int .i64 c.minor, .int .i64 c.major, .slice Ap c.pool.length kp, .int .i64 c.acc, .int .i64 c.this, .int .i64 c.sup, .slice Ai c.ifs.length ki, .slice Af c.flds.length kf, .slice Am c.mths.length km] G [.string ((nameAt c.pool c.this).getD ⟨#[]⟩), .string ((nameAt c.pool c.sup).getD ⟨#[]⟩), .int .i64 c.acc, pv, .slice none 0 0, .slice none 0 0] wr) ∧ Hid (wr.ownsRow (G + 2) 9 1 pv k ((c.ifs.take k).map fun n => .string (nameD c.pool n)))) (fun i _ => c.ifs.length - (intOf i).toNat)
    case atStart => exact ⟨0, .slice none 0 0, by omega, rfl, by omega, B8, Lib.hid (World.ownsRow_nil _ _ _ _)⟩
    case round =>
      obtain ⟨wr1, hwr⟩ : ∃ W, W = wr := ⟨_, rfl⟩
      subst hwr
      obtain ⟨k, pv, hk, rfl, hzr, Br, HO⟩ := hrel
      by_cases hlt : k < c.ifs.length
      · obtain ⟨x, hx⟩ : ∃ x, c.ifs[k]? = some x := ⟨_, List.getElem?_eq_getElem hlt⟩
        have HX := Lib.hid (show c.ifs.take (k + 1) = c.ifs.take k ++ [x] by rw [List.take_succ_eq_append_getElem hlt, (List.getElem?_eq_some_iff.1 hx).2])
        have HFX := Lib.hid (HFI.out x (List.mem_of_getElem? hx))
        obtain ⟨A', cap', e', _, _, _, h5⟩ := (Br.out.at H0.out).hifs
        injection e' with e1 _ e3
        subst e1
        subst e3
        obtain ⟨b, off, hAi, hbl, _, hc⟩ := h5 (by omega)
        have ci := hc k (.int .i64 x) (by rw [List.getElem?_map, hx]; rfl)
        subst hAi
        obtain ⟨x1, x2, x3, x4, x5, x6, x7, x8, x9, x10, x11, x12⟩ := far b wr1.heap.size hbl
        clear hx h5 hc
        go_wp2_with (first
          | (refine wpList_load_row rfl _ _ rfl G rfl _ _ _ _ Br.out.bb Tryz.underlying179 rfl (by kernel_rfl) ?_)
          | (go_at_call 96; refine stop_here ?_))
        refine go_on ?_
        refine (name_book c Ap kp (.slice (some ⟨b, off, none⟩) c.ifs.length ki) (.slice Af c.flds.length kf) (.slice Am c.mths.length km) x ok _ ⟨(Br.out.at H0.out).hpool, rfl, rfl, rfl⟩ HFX.out HF.out).mono ?_
        rintro e w8 ⟨rfl, hb⟩
        simp only [optV]
        have hz8 := hb.size
        have B9 := Lib.hid (Br.out.below hb)
        have HO9 := Lib.hid (own_heap HO.out fun q hq => hb.block q (HO.out.lt q hq).2)
        have t3 := B9.out.tb.cell 3 rfl
        clear hb ci
        go_wp2_with (at_builtin; refine wpl_lies rfl _ _ 36 rfl Tryz.underlying36 info_string rfl (by omega) (G + 2) rfl (HO9.out.alloc _) rfl rfl (fun _ => ⟨_, rfl, cells_new_at _ _ _ _ (by simp)⟩) (by simp [Value.oneCell']) (by omega) (by simp only [maxLen]; omega) (by omega) (by simp; omega) ?_; intro g3 c3 w9 ho3 hg3 hb3 hgg3 hlt3; refine stop_here ?_)
        refine go_on ?_
        have hz9 := hb3.size
        simp only [World.size_alloc] at hz9
        have B10 := Lib.hid ((B9.out.below ((Below.refl _ _).alloc (Nat.le_refl _) _)).low hb3 HG2)
        have B11 := Lib.hid (B10.out.set HG2 3 (.slice (some ⟨g3, 0, none⟩) (k + 1) c3))
        have hge := (ho3.lt g3 rfl).1
        have HO11 := Lib.hid (own_set ho3 (p := ⟨G + 1, 3, none⟩) (by simp; omega) (.slice (some ⟨g3, 0, none⟩) (k + 1) c3))
        have t3' := B10.out.tb.cell 3 rfl
        have z3' := B10.out.tb.frozen 3
        clear t3 ho3 hg3 hb3 hgg3
        go_wp2_with fail
        go_roundw
        case rel => exact ⟨k + 1, _, by omega, by go_num, by simp; omega, B11, Lib.hid (own_eq HO11.out rfl (by rw [HX.out, List.map_append]; rfl))⟩
        case measure => simp [intOf]; omega
      · obtain rfl : k = c.ifs.length := by omega
        obtain ⟨Ao, ko, hpv⟩ := own_slice HO.out
        subst hpv
        have hf0 : c.flds.length = 0 := by rw [HFL.out]; rfl
        have hm0 : c.mths.length = 0 := by rw [HML.out]; rfl
        have hf1 : decide (0 < c.flds.length) = false := decide_eq_false (by omega)
        have hm1 : decide (0 < c.mths.length) = false := decide_eq_false (by omega)
        have m7 := Br.out.ol.bc.cell 7 rfl
        have m8 := Br.out.ol.bc.cell 8 rfl
        clear hlt
        go_wp2_with fail
        refine wp_loop_rounds 1 ?_
        rw [rounds_succ]
        go_wp2_with fail
        refine wp_loop_rounds 1 ?_
        rw [rounds_succ]
        go_wp2_with (first
          | (refine wpList_load_row rfl _ _ rfl (G + 1) rfl _ _ _ _ Br.out.tb Tryz.underlying39 rfl (by kernel_rfl) ?_)
          | (refine wpList_store_row rfl _ _ _ rfl (w.heap.size + 1) _ rfl rfl _ _ Br.out.ol.nr (by kernel_rfl) rfl (by simp [Value.oneCell']) ?_))
        have hkp := Kept.of_but (ok := fun g => G + 2 ≤ g) (show But wr1.heap.size [w.heap.size + 1] wr1 (wr1.setRow (w.heap.size + 1) #[.string ((nameAt c.pool c.this).getD ⟨#[]⟩), .string ((nameAt c.pool c.sup).getD ⟨#[]⟩), .int .i64 c.acc, .slice Ao c.ifs.length ko, .slice none 0 0, .slice none 0 0]) from ⟨rfl, rfl, rfl, by simp, fun q _ hm => setRow_other _ _ _ _ (by simpa using hm)⟩) (fun q hq hm => by simp at hm; omega)
        have hrow := HO.out
        rw [List.take_length] at hrow
        refine bodyPost_ret (results_two_cell rfl rfl rfl (Br.out.ol.nr.row _) rfl rfl (by kernel_rfl)) rfl ⟨Br.out.ol.bel.trans ⟨rfl, rfl, rfl, by simp, fun q hq => setRow_other _ _ _ _ (by omega)⟩, .inr ⟨rfl, _, _, _, rfl, ?_, ?_, ?_⟩⟩
        · have := ((slAt_own hrow (fun g => G + 2 ≤ g) (by omega) (by omega) (fun q hq => (hrow.lt q hq).1)).keep hkp).mono (ok' := fun g => w.heap.size ≤ g) fun q _ hq => by omega
          simpa [outT, List.map_map, Function.comp_def] using this
        · simp only [outT, HFL.out, List.map_nil, List.length_nil, List.flatMap_nil]
          exact slAt_nil _ _ _
        · simp only [outT, HML.out, List.map_nil, List.length_nil, List.flatMap_nil]
          exact slAt_nil _ _ _
  · have hEb : (E != 0) = true := by simpa using hE
    go_wp2_with (refine wpList_store_row rfl _ _ _ rfl (w.heap.size + 1) _ rfl rfl _ _ B2.out.nr (by kernel_rfl) rfl (by simp [Value.oneCell']) ?_)
    refine bodyPost_ret (results_two_cell rfl rfl rfl (B2.out.nr.row zeroTyp) rfl rfl (by kernel_rfl)) rfl ⟨B2.out.bel.trans ⟨rfl, rfl, rfl, by simp, fun k hk => setRow_other _ _ _ _ (by omega)⟩, .inl ⟨hE, rfl⟩⟩
end Go.Proofs.YtdbniocnjhfhdaaGreatDoor
