/-
  What the loader's laws rest on, part 9: walks of the program's functions and plain laws. Conditions: none but those that each theorem names.
-/
import Derived.Test.YtdbniocnjhfhdaaGreatDoorB08
import Derived.WalkMore
import Derived.ScopeJumps
import Derived.Deep.AppendLies

set_option linter.unusedSimpArgs false
set_option linter.unusedVariables false
set_option maxRecDepth 100000
set_option maxHeartbeats 2000000
namespace Go.Proofs.YtdbniocnjhfhdaaGreatDoor
open Go Go.RowKit Lib
def firstE {α : Type} (f : α → Int) : List α → Int
  | [] => 0
  | x :: r => if f x ≠ 0 then f x else firstE f r
def firstS {α : Type} (f : List α → α → Int) : List α → List α → Int
  | _, [] => 0
  | d, x :: r => if f d x ≠ 0 then f d x else firstS f (d ++ [x]) r
def checkE (conE : Ko → Int) (fldE : List FieldV → FieldV → Int) (mthE : List MethV → MethV → Int) (c : ClassV) : Int := if longC c = true then 2 else if c.major < 45 ∨ 52 < c.major then 12 else
  if firstE conE c.pool ≠ 0 then firstE conE c.pool else if headE c ≠ 0 then headE c else if firstS fldE [] c.flds ≠ 0 then firstS fldE [] c.flds else firstS mthE [] c.mths
theorem firstE_more {α : Type} {f : α → Int} {l : List α} {k : Nat} {x : α} (h : l[k]? = some x) : firstE f (l.drop k) = if f x ≠ 0 then f x else firstE f (l.drop (k + 1)) := by
  have hlt := (List.getElem?_eq_some_iff.1 h).1
  rw [List.drop_eq_getElem_cons hlt, (List.getElem?_eq_some_iff.1 h).2, firstE]
theorem firstS_more {α : Type} {f : List α → α → Int} {l : List α} {k : Nat} {x : α} (h : l[k]? = some x) : firstS f (l.take k) (l.drop k) = if f (l.take k) x ≠ 0 then f (l.take k) x else firstS f (l.take (k + 1)) (l.drop (k + 1)) := by
  have hlt := (List.getElem?_eq_some_iff.1 h).1
  rw [List.drop_eq_getElem_cons hlt, (List.getElem?_eq_some_iff.1 h).2, firstS, List.take_succ_eq_append_getElem hlt, (List.getElem?_eq_some_iff.1 h).2]
theorem long_any (c : ClassV) (p i f m : Value) (ok : Nat → Prop) (w : World) (h : ClassAt w ok c p i f m) :
    Calls Tryz.prog 124 #[bookV c p i f m] w fun e w' => e = .returned (.bool (longC c)) ∧ Below w.heap.size w w' := by
  by_cases hl : 1024 < c.pool.length ∨ 64 < c.ifs.length ∨ 64 < c.flds.length ∨ 64 < c.mths.length
  · refine (long_rows c p i f m ok w h hl).mono fun e w' hq => ⟨hq.1.trans ?_, hq.2⟩
    have : longC c = true := by unfold longC; simp; omega
    rw [this]
  · refine (long_meths c p i f m ok w h (by omega) (by omega) (by omega) (by omega)).mono fun e w' hq => ⟨hq.1.trans ?_, hq.2⟩
    have e1 : ¬ 1024 < c.pool.length := by omega
    have e2 : ¬ 64 < c.ifs.length := by omega
    have e3 : ¬ 64 < c.flds.length := by omega
    have e4 : ¬ 64 < c.mths.length := by omega
    have : longC c = c.mths.any longM := by unfold longC; simp [e1, e2, e3, e4]
    rw [this]
structure SeenC (α : Type) (F : List α → Nat → World → Prop) : Prop where
  new : ∀ W b, W.heap[b]? = some (.map #[] 0) → F [] b W
  keep : ∀ fs b W W', F fs b W → W'.heap[b]? = W.heap[b]? → F fs b W'
theorem fld_cells {w : World} {ok : Nat → Prop} {l : List FieldV} {A : Option Addr} {cap : Nat} (h : SlAt w ok 4 l.length (l.flatMap FieldV.cells) (.slice A l.length cap)) : ∀ (k : Nat) (x : FieldV), l[k]? = some x → ∃ b off, A = some ⟨b, off, none⟩ ∧ b < w.heap.size ∧
    w.cell? ⟨b, off + k * 4, none⟩ = some (.int .i64 x.acc) ∧ w.cell? ⟨b, off + k * 4 + 1, none⟩ = some (.int .i64 x.name) ∧ w.cell? ⟨b, off + k * 4 + 2, none⟩ = some (.int .i64 x.desc) ∧ w.cell? ⟨b, off + k * 4 + 3, none⟩ = some (.int .i64 x.value) := by
  intro k x hk
  obtain ⟨A', cap', e, _, _, _, h5⟩ := h
  injection e with e1 _ _
  subst e1
  obtain ⟨b, off, e, hlt, _, hc⟩ := h5 (by have := (List.getElem?_eq_some_iff.1 hk).1; omega)
  have hr := rows_at FieldV.cells 4 (fun _ => rfl) l k x hk
  exact ⟨b, off, e, hlt, hc _ _ ((hr 0 (by omega)).trans rfl), hc _ _ ((hr 1 (by omega)).trans rfl), hc _ _ ((hr 2 (by omega)).trans rfl), hc _ _ ((hr 3 (by omega)).trans rfl)⟩
theorem mth_cells {w : World} {ok : Nat → Prop} {l : List (MethV × Value × Value)} {n : Nat} {A : Option Addr} {cap : Nat} (h : SlAt w ok 8 n (methCells l) (.slice A n cap)) (hn : l.length = n) : ∀ (k : Nat) (x : MethV) (cv tv : Value), l[k]? = some (x, cv, tv) → ∃ b off, A = some ⟨b, off, none⟩ ∧ b < w.heap.size ∧
    w.cell? ⟨b, off + k * 8, none⟩ = some (.int .i64 x.acc) ∧ w.cell? ⟨b, off + k * 8 + 1, none⟩ = some (.int .i64 x.name) ∧ w.cell? ⟨b, off + k * 8 + 2, none⟩ = some (.int .i64 x.desc) ∧ w.cell? ⟨b, off + k * 8 + 3, none⟩ = some (.bool x.has) ∧
    w.cell? ⟨b, off + k * 8 + 4, none⟩ = some (.int .i64 x.stack) ∧ w.cell? ⟨b, off + k * 8 + 5, none⟩ = some (.int .i64 x.locals) ∧ w.cell? ⟨b, off + k * 8 + 6, none⟩ = some cv ∧ w.cell? ⟨b, off + k * 8 + 7, none⟩ = some tv := by
  intro k x cv tv hk
  obtain ⟨A', cap', e, _, _, _, h5⟩ := h
  injection e with e1 _ _
  subst e1
  obtain ⟨b, off, e, hlt, _, hc⟩ := h5 (by have := (List.getElem?_eq_some_iff.1 hk).1; omega)
  have hr := rows_at (fun m : MethV × Value × Value => m.1.cells m.2.1 m.2.2) 8 (fun _ => rfl) l k (x, cv, tv) hk
  exact ⟨b, off, e, hlt, hc _ _ ((hr 0 (by omega)).trans rfl), hc _ _ ((hr 1 (by omega)).trans rfl), hc _ _ ((hr 2 (by omega)).trans rfl), hc _ _ ((hr 3 (by omega)).trans rfl), hc _ _ ((hr 4 (by omega)).trans rfl), hc _ _ ((hr 5 (by omega)).trans rfl), hc _ _ ((hr 6 (by omega)).trans rfl), hc _ _ ((hr 7 (by omega)).trans rfl)⟩
theorem jump_ret (l : Nat) (J : Act → World → Prop) (Q : Exit → Act → World → Prop) (a : Act) (w : World) : Exit.jump l J Q .ret a w = Q .ret a w := rfl
structure ChW (w : World) (cells : List Value) (wk : World) : Prop where
  bel : Below w.heap.size w wk
  bc : Bx wk w.heap.size cells 58
  bb : Bx wk (w.heap.size + 1) cells 179
theorem ChW.but {w : World} {cells : List Value} {wk wq : World} {S : List Nat} (h : ChW w cells wk) (hb : But wk.heap.size S wk wq) (hS : ∀ k ∈ S, w.heap.size + 2 ≤ k) : ChW w cells wq :=
  ⟨h.bel.trans ((hb.mono (S' := []) h.bel.size (fun k hk hm => by have := hS k hm; omega)).below), h.bc.but hb (fun hm => by have := hS _ hm; omega), h.bb.but hb (fun hm => by have := hS _ hm; omega)⟩
theorem ChW.below {w : World} {cells : List Value} {wk wq : World} (h : ChW w cells wk) (hb : Below wk.heap.size wk wq) : ChW w cells wq := h.but (S := []) (But.of_below hb) (by simp)
theorem SeenC.below {α : Type} {F : List α → Nat → World → Prop} (hF : SeenC α F) {fs : List α} {b : Nat} {W W' : World} (h : F fs b W) (hb : Below W.heap.size W W') (hl : b < W.heap.size) : F fs b W' := hF.keep fs b W W' h (hb.block b hl)
def contE (fldE : List FieldV → FieldV → Int) (mthE : List MethV → MethV → Int) (c : ClassV) (x : Int) : Int := if x ≠ 0 then x else if headE c ≠ 0 then headE c else if firstS fldE [] c.flds ≠ 0 then firstS fldE [] c.flds else firstS mthE [] c.mths
def contF (mthE : List MethV → MethV → Int) (c : ClassV) (x : Int) : Int := if x ≠ 0 then x else firstS mthE [] c.mths
theorem check_any (c : ClassV) (p i f m : Value) (ok : Nat → Prop) (w : World) (h : ClassAt w ok c p i f m) (hok : ∀ g, ok g → g < w.heap.size) (hn1 : Fine c.this) (hn2 : Fine c.sup) (hf : ∀ k ∈ c.pool, Fine k.a) (hfi : ∀ n ∈ c.ifs, Fine n) (hft : ∀ k ∈ c.pool, k.text.size ≤ 65536)
    (conE : Ko → Int) (fldE : List FieldV → FieldV → Int) (mthE : List MethV → MethV → Int) (FS : List FieldV → Nat → World → Prop) (MS : List MethV → Nat → World → Prop) (hFS : SeenC FieldV FS) (hMS : SeenC MethV MS)
    (hcon : ∀ k ∈ c.pool, ∀ W, ClassAt W ok c p i f m → Calls Tryz.prog 125 #[bookV c p i f m, koV k] W fun e W' => e = .returned (.int .i64 (conE k)) ∧ Below W.heap.size W W')
    (hfld : ∀ k x, c.flds[k]? = some x → ∀ W b, ClassAt W ok c p i f m → w.heap.size ≤ b → FS (c.flds.take k) b W → Calls Tryz.prog 127 #[bookV c p i f m, fieldV x, .map (some b)] W fun e W' => e = .returned (.int .i64 (fldE (c.flds.take k) x)) ∧ But W.heap.size [b] W W' ∧ FS (c.flds.take (k + 1)) b W')
    (hmth : ∀ k x, c.mths[k]? = some x → ∀ W b cv tv, ClassAt W ok c p i f m → MethAt W ok x cv tv → w.heap.size ≤ b → MS (c.mths.take k) b W → Calls Tryz.prog 128 #[bookV c p i f m, methV x cv tv, .map (some b)] W fun e W' => e = .returned (.int .i64 (mthE (c.mths.take k) x)) ∧ But W.heap.size [b] W W' ∧ MS (c.mths.take (k + 1)) b W') :
    Calls Tryz.prog 95 #[bookV c p i f m] w fun e w' => e = .returned (.int .i64 (checkE conE fldE mthE c)) ∧ Below w.heap.size w w' := by
  obtain ⟨Ap, kp, rfl, hkp1, hkp2⟩ := sl_len h.hpool
  obtain ⟨Ai, ki, rfl, hki1, hki2⟩ := sl_len h.hifs
  obtain ⟨Af, kf, rfl, hkf1, hkf2⟩ := sl_len h.hflds
  obtain ⟨ms, hms1, hms2, hms3⟩ := h.hmths
  obtain ⟨Am, km, rfl, hkm1, hkm2⟩ := sl_len hms2
  have H0 := Lib.hid h
  have HMS := Lib.hid hms1
  have HFS := Lib.hid hFS
  have HMM := Lib.hid hMS
  have HN1 := Lib.hid hn1
  have HN2 := Lib.hid hn2
  have HF := Lib.hid hf
  have HFI := Lib.hid hfi
  have HFT := Lib.hid hft
  have HCON := Lib.hid hcon
  have HFLD := Lib.hid hfld
  have HMTH := Lib.hid hmth
  obtain ⟨E, hE⟩ : ∃ E, checkE conE fldE mthE c = E := ⟨_, rfl⟩
  rw [hE]
  have HE := Lib.hid hE
  have hmm := @run_makeMap Tryz.prog
  have B1 := Lib.hid (bx_new w [.int .i64 c.minor, .int .i64 c.major, .slice Ap c.pool.length kp, .int .i64 c.acc, .int .i64 c.this, .int .i64 c.sup, .slice Ai c.ifs.length ki, .slice Af c.flds.length kf, .slice Am c.mths.length km] 58)
  have B2 := Lib.hid (bx_new_at (w.alloc (.cells #[.int .i64 c.minor, .int .i64 c.major, .slice Ap c.pool.length kp, .int .i64 c.acc, .int .i64 c.this, .int .i64 c.sup, .slice Ai c.ifs.length ki, .slice Af c.flds.length kf, .slice Am c.mths.length km] 58)) [.int .i64 0, .int .i64 0, .slice none 0 0, .int .i64 0, .int .i64 0, .int .i64 0, .slice none 0 0, .slice none 0 0, .slice none 0 0] 179 (w.heap.size + 1) (by simp))
  clear h hn1 hn2 hf hfi hft hcon hfld hmth hms1 hms2 hms3 hFS hMS hE
  rw [bookV_open]
  go_enter Tryz.func95, Tryz.ntmps95
  go_wp2_with fail
  refine wp_scope_jumps 0 (fun a w' => ∃ t : Array Value, a = ⟨t, []⟩ ∧ t.size = 73 ∧ t[4]? = some (.int .i64 E) ∧ Hid (Below w.heap.size w w')) (fun _ _ => 0) rfl ?_ ?_
  · go_wp2_with (first
      | (refine wpList_load_row rfl _ _ rfl w.heap.size rfl _ _ _ _ B1.out Tryz.underlying58 rfl (by kernel_rfl) ?_)
      | (refine wpList_store_row rfl _ _ _ rfl (w.heap.size + 1) _ rfl rfl _ _ B2.out (by kernel_rfl) rfl (by simp [Value.oneCell']) ?_; refine stop_here ?_))
    refine go_on ?_
    have B3 := Lib.hid (show ChW w [.int .i64 c.minor, .int .i64 c.major, .slice Ap c.pool.length kp, .int .i64 c.acc, .int .i64 c.this, .int .i64 c.sup, .slice Ai c.ifs.length ki, .slice Af c.flds.length kf, .slice Am c.mths.length km] (((w.alloc (.cells ([.int .i64 c.minor, .int .i64 c.major, .slice Ap c.pool.length kp, .int .i64 c.acc, .int .i64 c.this, .int .i64 c.sup, .slice Ai c.ifs.length ki, .slice Af c.flds.length kf, .slice Am c.mths.length km]).toArray 58)).alloc (.cells #[.int .i64 0, .int .i64 0, .slice none 0 0, .int .i64 0, .int .i64 0, .int .i64 0, .slice none 0 0, .slice none 0 0, .slice none 0 0] 179)).setRow (w.heap.size + 1) ([.int .i64 c.minor, .int .i64 c.major, .slice Ap c.pool.length kp, .int .i64 c.acc, .int .i64 c.this, .int .i64 c.sup, .slice Ai c.ifs.length ki, .slice Af c.flds.length kf, .slice Am c.mths.length km]).toArray) from
      ⟨(((Below.refl _ _).alloc (Nat.le_refl _) _).alloc (by simp) _).trans ⟨rfl, rfl, rfl, by simp, fun k hk => setRow_other _ _ _ _ (by omega)⟩, (show _ = _ from (setRow_other _ _ _ _ (by omega)).trans (B1.out.below ((Below.refl _ _).alloc (Nat.le_refl _) _) B1.out.lt)), B2.out.row _⟩)
    have hz2 : (((w.alloc (.cells ([.int .i64 c.minor, .int .i64 c.major, .slice Ap c.pool.length kp, .int .i64 c.acc, .int .i64 c.this, .int .i64 c.sup, .slice Ai c.ifs.length ki, .slice Af c.flds.length kf, .slice Am c.mths.length km]).toArray 58)).alloc (.cells #[.int .i64 0, .int .i64 0, .slice none 0 0, .int .i64 0, .int .i64 0, .int .i64 0, .slice none 0 0, .slice none 0 0, .slice none 0 0] 179)).setRow (w.heap.size + 1) ([.int .i64 c.minor, .int .i64 c.major, .slice Ap c.pool.length kp, .int .i64 c.acc, .int .i64 c.this, .int .i64 c.sup, .slice Ai c.ifs.length ki, .slice Af c.flds.length kf, .slice Am c.mths.length km]).toArray).heap.size = w.heap.size + 2 := by simp
    generalize (((w.alloc (.cells ([.int .i64 c.minor, .int .i64 c.major, .slice Ap c.pool.length kp, .int .i64 c.acc, .int .i64 c.this, .int .i64 c.sup, .slice Ai c.ifs.length ki, .slice Af c.flds.length kf, .slice Am c.mths.length km]).toArray 58)).alloc (.cells #[.int .i64 0, .int .i64 0, .slice none 0 0, .int .i64 0, .int .i64 0, .int .i64 0, .slice none 0 0, .slice none 0 0, .slice none 0 0] 179)).setRow (w.heap.size + 1) ([.int .i64 c.minor, .int .i64 c.major, .slice Ap c.pool.length kp, .int .i64 c.acc, .int .i64 c.this, .int .i64 c.sup, .slice Ai c.ifs.length ki, .slice Af c.flds.length kf, .slice Am c.mths.length km]).toArray) = w2 at *
    have FS0 := Lib.hid (HFS.out.new (w2.alloc (.map #[] 0)) w2.heap.size (heap_alloc_new _ _))
    have hM : (w2.alloc (.map #[] 0)).heap.size = w2.heap.size + 1 := by simp
    have MS0 := Lib.hid (HMM.out.new ((w2.alloc (.map #[] 0)).alloc (.map #[] 0)) (w2.heap.size + 1) (by rw [← hM]; exact heap_alloc_new _ _))
    have FS1 := Lib.hid (HFS.out.below (W' := (w2.alloc (.map #[] 0)).alloc (.map #[] 0)) FS0.out ((Below.refl _ _).alloc (Nat.le_refl _) _) (by simp))
    have B4 := Lib.hid (B3.out.below (((Below.refl w2.heap.size w2).alloc (Nat.le_refl _) (.map #[] 0)).alloc (by simp) (.map #[] 0)))
    rw [hz2] at MS0 FS1
    clear FS0 hM B1 B2
    go_wp2_with (first
      | (refine wpList_load_row rfl _ _ rfl w.heap.size rfl _ _ _ _ B4.out.bc Tryz.underlying58 rfl (by kernel_rfl) ?_)
      | (go_at_call 124; refine stop_here ?_))
    refine go_on ?_
    refine (long_any c _ _ _ _ ok _ (H0.out.keep (Kept.of_below B4.out.bel))).mono ?_
    rintro e w5 ⟨rfl, hb⟩
    have hz5 := hb.size
    simp only [World.size_alloc] at hz5
    have B5 := Lib.hid (B4.out.below hb)
    have FS5 := Lib.hid (HFS.out.below FS1.out hb (by simp; omega))
    have MS5 := Lib.hid (HMM.out.below MS0.out hb (by simp; omega))
    clear hb B4 FS1 MS0
    by_cases hL : longC c = true
    · have HE2 := Lib.hid (show E = 2 by rw [← HE.out]; unfold checkE; rw [if_pos hL])
      rw [hL]
      clear hL
      go_wp2_with fail
      go_step3
      exact ⟨rfl, _, rfl, rfl, (by rw [HE2.out]; rfl), Lib.hid B5.out.bel⟩
    have HE1 := Lib.hid (show E = if c.major < 45 ∨ 52 < c.major then 12 else contE fldE mthE c (firstE conE c.pool) by rw [← HE.out]; unfold checkE contE; rw [if_neg hL])
    rw [show longC c = false by simpa using hL]
    clear hL HE
    have m1 := B5.out.bc.cell 1 rfl
    by_cases hV : c.major < 45 ∨ 52 < c.major
    · have HE2 := Lib.hid (show E = 12 by rw [HE1.out, if_pos hV])
      rcases hV with hV | hV
      · have hb1 : decide (c.major < 45) = true := by simpa using hV
        go_wp2_with fail
        go_step3
        exact ⟨rfl, _, rfl, rfl, (by rw [HE2.out]; rfl), Lib.hid B5.out.bel⟩
      · have hb1 : decide (c.major < 45) = false := by simp; omega
        have hb2 : decide (52 < c.major) = true := by simpa using hV
        go_wp2_with fail
        go_step3
        exact ⟨rfl, _, rfl, rfl, (by rw [HE2.out]; rfl), Lib.hid B5.out.bel⟩
    have HE2 := Lib.hid (show E = contE fldE mthE c (firstE conE (c.pool.drop 0)) by rw [HE1.out, if_neg hV]; rfl)
    have hb1 : decide (c.major < 45) = false := by simp; omega
    have hb2 : decide (52 < c.major) = false := by simp; omega
    have m2 := B5.out.bc.cell 2 rfl
    clear hV HE1
    go_wp2_with fail
    clear m1 m2
    go_loopw [4, 30] (fun e i wr => ∃ k : Nat, k ≤ c.pool.length ∧ i = .int .i64 k ∧ e = .int .i64 0 ∧ w.heap.size + 4 ≤ wr.heap.size ∧ Hid (ChW w [.int .i64 c.minor, .int .i64 c.major, .slice Ap c.pool.length kp, .int .i64 c.acc, .int .i64 c.this, .int .i64 c.sup, .slice Ai c.ifs.length ki, .slice Af c.flds.length kf, .slice Am c.mths.length km] wr) ∧ Hid (FS [] (w.heap.size + 2) wr) ∧ Hid (MS [] (w.heap.size + 2 + 1) wr) ∧ Hid (E = contE fldE mthE c (firstE conE (c.pool.drop k)))) (fun e i _ => c.pool.length - (RowKit.intOf i).toNat)
    case atStart => exact ⟨0, by omega, rfl, rfl, by omega, B5, FS5, MS5, HE2⟩
    case round =>
      obtain ⟨wr1, hwr⟩ : ∃ W, W = wr := ⟨_, rfl⟩
      subst hwr
      obtain ⟨k, hk, rfl, rfl, hzr, Br, FSr, MSr, HEr⟩ := hrel
      by_cases hlt : k < c.pool.length
      · obtain ⟨x, hx⟩ : ∃ x, c.pool[k]? = some x := ⟨_, List.getElem?_eq_getElem hlt⟩
        have HR := Lib.hid (firstE_more (f := conE) hx)
        have HCX := Lib.hid (fun W => HCON.out x (List.mem_of_getElem? hx) W)
        have HRD := pool_cells (H0.out.keep (Kept.of_below Br.out.bel)).hpool k x hx
        obtain ⟨b, off, hAp, hbl, p0, p1, p2, p3, p4⟩ := HRD
        subst hAp
        obtain ⟨x1, x2, x3, x4, x5, x6, x7, x8, x9, x10, x11, x12⟩ := far b wr1.heap.size hbl
        clear hx
        go_wp2_with (first
          | (refine wpList_load_row rfl _ _ rfl (w.heap.size + 1) rfl _ _ _ _ (Br.out.below ((Below.refl _ _).alloc (Nat.le_refl _) _)).bb Tryz.underlying179 rfl (by kernel_rfl) ?_)
          | (go_at_call 125; refine stop_here ?_))
        refine go_on ?_
        have B6 := Lib.hid (Br.out.below ((Below.refl _ _).alloc (Nat.le_refl _) (.cells #[.int .i64 x.tag, .string x.text, .int .i64 x.num, .int .i64 x.a, .int .i64 x.b] 78)))
        refine (HCX.out _ (H0.out.keep (Kept.of_below B6.out.bel))).mono ?_
        by_cases hc0 : conE x = 0
        · rw [hc0] at HR ⊢
          rintro e w6 ⟨rfl, hb⟩
          have hz6 := hb.size
          simp only [World.size_alloc] at hz6
          have B7 := Lib.hid (B6.out.below hb)
          have hbb := Lib.hid (((Below.refl _ _).alloc (Nat.le_refl _) (.cells #[.int .i64 x.tag, .string x.text, .int .i64 x.num, .int .i64 x.a, .int .i64 x.b] 78)).trans (hb.mono (by simp)))
          clear hb hc0 p0 p1 p2 p3 p4
          go_wp2_with fail
          go_roundw
          case rel => exact ⟨k + 1, by omega, by go_num, rfl, by omega, B7, Lib.hid (HFS.out.below FSr.out hbb.out (by omega)), Lib.hid (HMM.out.below MSr.out hbb.out (by omega)), Lib.hid (by rw [HEr.out, HR.out]; rfl)⟩
          case measure => simp [RowKit.intOf]; omega
        · have HEx := Lib.hid (show E = conE x by rw [HEr.out, HR.out, if_pos hc0]; unfold contE; rw [if_pos hc0])
          rintro e w6 ⟨rfl, hb⟩
          have B7 := Lib.hid (B6.out.below hb)
          obtain ⟨ce, hce⟩ : ∃ ce, conE x = ce := ⟨_, rfl⟩
          rw [hce] at HEx hc0 ⊢
          have hbn : (ce != 0) = true := by simpa using hc0
          clear hb hc0 hce p0 p1 p2 p3 p4
          go_wp2_with fail
          go_step3
          exact ⟨rfl, _, rfl, rfl, (by rw [HEx.out]; rfl), Lib.hid B7.out.bel⟩
      · obtain rfl : k = c.pool.length := by omega
        have HE3 := Lib.hid (show E = if headE c ≠ 0 then headE c else contF mthE c (firstS fldE (c.flds.take 0) (c.flds.drop 0)) by rw [HEr.out, List.drop_length]; rfl)
        clear hlt HEr
        go_wp2_with (first
          | (refine wpList_load_row rfl _ _ rfl (w.heap.size + 1) rfl _ _ _ _ (Br.out).bb Tryz.underlying179 rfl (by kernel_rfl) ?_)
          | (go_at_call 126; refine stop_here ?_))
        refine go_on ?_
        have HCA := H0.out.keep (Kept.of_below Br.out.bel)
        refine (head_any c Ap kp _ _ _ ok _ ⟨HCA.hpool, rfl, rfl, rfl⟩ HCA.hifs HN1.out HN2.out HF.out HFI.out HFT.out).mono ?_
        clear HCA
        by_cases hh0 : headE c = 0
        · rw [hh0]
          rintro e w6 ⟨rfl, hb⟩
          have HE4 := Lib.hid (show E = contF mthE c (firstS fldE (c.flds.take 0) (c.flds.drop 0)) by rw [HE3.out, if_neg (fun h => h hh0)])
          have hz6 := hb.size
          have B6 := Lib.hid (Br.out.below hb)
          have FS6 := Lib.hid (HFS.out.below FSr.out hb (by omega))
          have MS6 := Lib.hid (HMM.out.below MSr.out hb (by omega))
          clear hb hh0 HE3 Br FSr MSr
          have m7 := B6.out.bc.cell 7 rfl
          go_wp2_with fail
          clear m7
          go_loopw [4, 47] (fun e i wr => ∃ k : Nat, k ≤ c.flds.length ∧ i = .int .i64 k ∧ e = .int .i64 0 ∧ w.heap.size + 4 ≤ wr.heap.size ∧ Hid (ChW w [.int .i64 c.minor, .int .i64 c.major, .slice Ap c.pool.length kp, .int .i64 c.acc, .int .i64 c.this, .int .i64 c.sup, .slice Ai c.ifs.length ki, .slice Af c.flds.length kf, .slice Am c.mths.length km] wr) ∧ Hid (FS (c.flds.take k) (w.heap.size + 2) wr) ∧ Hid (MS [] (w.heap.size + 2 + 1) wr) ∧ Hid (E = contF mthE c (firstS fldE (c.flds.take k) (c.flds.drop k)))) (fun e i _ => c.flds.length - (RowKit.intOf i).toNat)
          case atStart => exact ⟨0, by omega, rfl, rfl, by omega, B6, FS6, MS6, HE4⟩
          case round =>
            obtain ⟨wr2, hwr⟩ : ∃ W, W = wr := ⟨_, rfl⟩
            subst hwr
            obtain ⟨k, hk, rfl, rfl, hzr2, Br, FSr, MSr, HEr⟩ := hrel
            by_cases hlt : k < c.flds.length
            · obtain ⟨x, hx⟩ : ∃ x, c.flds[k]? = some x := ⟨_, List.getElem?_eq_getElem hlt⟩
              have HR := Lib.hid (firstS_more (f := fldE) hx)
              have HCX := Lib.hid (fun W b => HFLD.out k x hx W b)
              have HRD := fld_cells (H0.out.keep (Kept.of_below Br.out.bel)).hflds k x hx
              obtain ⟨b, off, hAp, hbl, p0, p1, p2, p3⟩ := HRD
              subst hAp
              obtain ⟨x1, x2, x3, x4, x5, x6, x7, x8, x9, x10, x11, x12⟩ := far b wr2.heap.size hbl
              clear hx
              go_wp2_with (first
                | (refine wpList_load_row rfl _ _ rfl (w.heap.size + 1) rfl _ _ _ _ (Br.out.below ((Below.refl _ _).alloc (Nat.le_refl _) _)).bb Tryz.underlying179 rfl (by kernel_rfl) ?_)
                | (go_at_call 127; refine stop_here ?_))
              refine go_on ?_
              have B6 := Lib.hid (Br.out.below ((Below.refl _ _).alloc (Nat.le_refl _) (.cells #[.int .i64 x.acc, .int .i64 x.name, .int .i64 x.desc, .int .i64 x.value] 119)))
              have FS6 := Lib.hid (HFS.out.below FSr.out ((Below.refl _ _).alloc (Nat.le_refl _) (.cells #[.int .i64 x.acc, .int .i64 x.name, .int .i64 x.desc, .int .i64 x.value] 119)) (by omega))
              have MS6 := Lib.hid (HMM.out.below MSr.out ((Below.refl _ _).alloc (Nat.le_refl _) (.cells #[.int .i64 x.acc, .int .i64 x.name, .int .i64 x.desc, .int .i64 x.value] 119)) (by omega))
              refine (HCX.out _ (w.heap.size + 2) (H0.out.keep (Kept.of_below B6.out.bel)) (by omega) FS6.out).mono ?_
              by_cases hc0 : fldE (c.flds.take k) x = 0
              · rw [hc0] at HR ⊢
                rintro e w6 ⟨rfl, hb, hfs⟩
                have hz6 := hb.size
                simp only [World.size_alloc] at hz6
                have B7 := Lib.hid (B6.out.but hb (by simp))
                have FS7 := Lib.hid hfs
                have MS7 := Lib.hid (HMM.out.keep _ _ _ _ MS6.out (hb.block _ (by simp; omega) (by simp)))
                clear hb hc0 p0 p1 p2 p3 hfs
                go_wp2_with fail
                go_roundw
                case rel => exact ⟨k + 1, by omega, by go_num, rfl, by omega, B7, FS7, MS7, Lib.hid (by rw [HEr.out, HR.out]; rfl)⟩
                case measure => simp [RowKit.intOf]; omega
              · have HEx := Lib.hid (show E = fldE (c.flds.take k) x by rw [HEr.out, HR.out, if_pos hc0]; unfold contF; rw [if_pos hc0])
                rintro e w6 ⟨rfl, hb, _⟩
                have B7 := Lib.hid (B6.out.but hb (by simp))
                obtain ⟨ce, hce⟩ : ∃ ce, fldE (c.flds.take k) x = ce := ⟨_, rfl⟩
                rw [hce] at HEx hc0 ⊢
                have hbn : (ce != 0) = true := by simpa using hc0
                clear hb hc0 hce p0 p1 p2 p3
                go_wp2_with fail
                go_step3
                exact ⟨rfl, _, rfl, rfl, (by rw [HEx.out]; rfl), Lib.hid B7.out.bel⟩
            · obtain rfl : k = c.flds.length := by omega
              have HE4 := Lib.hid (show E = firstS mthE (c.mths.take 0) (c.mths.drop 0) by rw [HEr.out, List.drop_length]; rfl)
              have m8 := Br.out.bc.cell 8 rfl
              clear hlt HEr
              go_wp2_with fail
              clear m8
              go_loopw [4, 61] (fun e i wr => ∃ k : Nat, k ≤ c.mths.length ∧ i = .int .i64 k ∧ e = .int .i64 0 ∧ w.heap.size + 4 ≤ wr.heap.size ∧ Hid (ChW w [.int .i64 c.minor, .int .i64 c.major, .slice Ap c.pool.length kp, .int .i64 c.acc, .int .i64 c.this, .int .i64 c.sup, .slice Ai c.ifs.length ki, .slice Af c.flds.length kf, .slice Am c.mths.length km] wr) ∧ Hid (MS (c.mths.take k) (w.heap.size + 2 + 1) wr) ∧ Hid (E = firstS mthE (c.mths.take k) (c.mths.drop k))) (fun e i _ => c.mths.length - (RowKit.intOf i).toNat)
              case atStart => exact ⟨0, by omega, rfl, rfl, by omega, Br, MSr, HE4⟩
              case round =>
                obtain ⟨wr3, hwr⟩ : ∃ W, W = wr := ⟨_, rfl⟩
                subst hwr
                obtain ⟨k, hk, rfl, rfl, hzr3, Br, MSr, HEr⟩ := hrel
                by_cases hlt : k < c.mths.length
                · obtain ⟨ms', e1, e2, e3⟩ := (H0.out.keep (Kept.of_below Br.out.bel)).hmths
                  have hml : ms'.length = c.mths.length := by rw [← e1, List.length_map]
                  obtain ⟨x, cv, tv, hx⟩ : ∃ x cv tv, ms'[k]? = some (x, cv, tv) := ⟨_, _, _, List.getElem?_eq_getElem (by omega)⟩
                  have hx' : c.mths[k]? = some x := by rw [← e1, List.getElem?_map, hx]; rfl
                  have HME := Lib.hid (e3 (x, cv, tv) (List.mem_of_getElem? hx))
                  have HR := Lib.hid (firstS_more (f := mthE) hx')
                  have HCX := Lib.hid (fun W b cv tv => HMTH.out k x hx' W b cv tv)
                  have HRD := mth_cells e2 hml k x cv tv hx
                  obtain ⟨Ac, kc, hcv, _⟩ := id HME.out.hcode
                  obtain ⟨At, kt, htv, _⟩ := id HME.out.htraps
                  simp only at hcv htv
                  subst hcv
                  subst htv
                  obtain ⟨b, off, hAp, hbl, p0, p1, p2, p3, p4, p5, p6, p7⟩ := HRD
                  subst hAp
                  obtain ⟨x1, x2, x3, x4, x5, x6, x7, x8, x9, x10, x11, x12⟩ := far b wr3.heap.size hbl
                  clear hx hx' e1 e2 e3 hml
                  go_wp2_with (first
                    | (refine wpList_load_row rfl _ _ rfl (w.heap.size + 1) rfl _ _ _ _ (Br.out.below ((Below.refl _ _).alloc (Nat.le_refl _) _)).bb Tryz.underlying179 rfl (by kernel_rfl) ?_)
                    | (go_at_call 128; refine stop_here ?_))
                  refine go_on ?_
                  have B6 := Lib.hid (Br.out.below ((Below.refl _ _).alloc (Nat.le_refl _) (.cells #[.int .i64 x.acc, .int .i64 x.name, .int .i64 x.desc, .bool x.has, .int .i64 x.stack, .int .i64 x.locals, .slice Ac x.code.length kc, .slice At x.traps.length kt] 91)))
                  have MS6 := Lib.hid (HMM.out.below MSr.out ((Below.refl _ _).alloc (Nat.le_refl _) (.cells #[.int .i64 x.acc, .int .i64 x.name, .int .i64 x.desc, .bool x.has, .int .i64 x.stack, .int .i64 x.locals, .slice Ac x.code.length kc, .slice At x.traps.length kt] 91)) (by omega))
                  have HK6 := Lib.hid (Kept.of_below (ok := ok) ((Below.refl wr3.heap.size wr3).alloc (Nat.le_refl _) (.cells #[.int .i64 x.acc, .int .i64 x.name, .int .i64 x.desc, .bool x.has, .int .i64 x.stack, .int .i64 x.locals, .slice Ac x.code.length kc, .slice At x.traps.length kt] 91)))
                  refine (HCX.out _ (w.heap.size + 2 + 1) _ _ (H0.out.keep (Kept.of_below B6.out.bel)) ⟨HME.out.hcode.keep HK6.out, HME.out.htraps.keep HK6.out⟩ (by omega) MS6.out).mono ?_
                  by_cases hc0 : mthE (c.mths.take k) x = 0
                  · rw [hc0] at HR ⊢
                    rintro e w6 ⟨rfl, hb, hms⟩
                    have hz6 := hb.size
                    simp only [World.size_alloc] at hz6
                    have B7 := Lib.hid (B6.out.but hb (by simp))
                    have MS7 := Lib.hid hms
                    clear hb hc0 p0 p1 p2 p3 p4 p5 p6 p7 hms
                    go_wp2_with fail
                    go_roundw
                    case rel => exact ⟨k + 1, by omega, by go_num, rfl, by omega, B7, MS7, Lib.hid (by rw [HEr.out, HR.out]; rfl)⟩
                    case measure => simp [RowKit.intOf]; omega
                  · have HEx := Lib.hid (show E = mthE (c.mths.take k) x by rw [HEr.out, HR.out, if_pos hc0])
                    rintro e w6 ⟨rfl, hb, _⟩
                    have B7 := Lib.hid (B6.out.but hb (by simp))
                    obtain ⟨ce, hce⟩ : ∃ ce, mthE (c.mths.take k) x = ce := ⟨_, rfl⟩
                    rw [hce] at HEx hc0 ⊢
                    have hbn : (ce != 0) = true := by simpa using hc0
                    clear hb hc0 hce p0 p1 p2 p3 p4 p5 p6 p7
                    go_wp2_with fail
                    go_step3
                    exact ⟨rfl, _, rfl, rfl, (by rw [HEx.out]; rfl), Lib.hid B7.out.bel⟩
                · obtain rfl : k = c.mths.length := by omega
                  have HE5 := Lib.hid (show E = 0 by rw [HEr.out, List.drop_length]; rfl)
                  clear hlt HEr
                  go_wp2_with fail
                  go_step3
                  go_wp2_with fail
                  rw [jump_ret]
                  go_ret
                  exact ⟨by rw [HE5.out]; rfl, Br.out.bel⟩
        · have HEx := Lib.hid (show E = headE c by rw [HE3.out, if_pos hh0])
          rintro e w6 ⟨rfl, hb⟩
          have B7 := Lib.hid (Br.out.below hb)
          obtain ⟨ce, hce⟩ : ∃ ce, headE c = ce := ⟨_, rfl⟩
          rw [hce] at HEx hh0 ⊢
          have hbn : (ce != 0) = true := by simpa using hh0
          clear hb hh0 hce HE3
          go_wp2_with fail
          go_step3
          exact ⟨rfl, _, rfl, rfl, (by rw [HEx.out]; rfl), Lib.hid B7.out.bel⟩
  · intro a w' ha
    obtain ⟨t, rfl, hs, h4, hb⟩ := ha
    go_wp2_with fail
    rw [jump_ret]
    refine bodyPost_ret (v := .int .i64 E) ?_ rfl ⟨rfl, hb.out⟩
    obtain ⟨hlt, h5⟩ := Array.getElem?_eq_some_iff.1 h4
    simp [results, Tryz.results95, h5, hs, go_sem]
end Go.Proofs.YtdbniocnjhfhdaaGreatDoor

set_option linter.unusedSimpArgs false
set_option linter.unusedVariables false
set_option maxRecDepth 100000
set_option maxHeartbeats 2000000
namespace Go.Proofs.YtdbniocnjhfhdaaGreatDoor
open Go Go.RowKit Lib
structure MemV where
  acc : Int
  name : ByteArray
  desc : ByteArray
  has : Bool
  value : Int
def MemV.cells (m : MemV) : List Value := [.int .i64 m.acc, .string m.name, .string m.desc, .bool m.has, .int .i64 m.value]
structure TypV where
  name : ByteArray
  sup : ByteArray
  acc : Int
  ifs : List ByteArray
  flds : List MemV
  mths : List MemV
def nameD (pool : List Ko) (n : Int) : ByteArray := (nameAt pool n).getD ⟨#[]⟩
def textD (pool : List Ko) (n : Int) : ByteArray := (textAt pool n).getD ⟨#[]⟩
def memF (pool : List Ko) (f : FieldV) : MemV := ⟨f.acc, textD pool f.name, textD pool f.desc, f.value != 0, ((kindAt pool f.value 3).getD koZero).num⟩
def memM (pool : List Ko) (m : MethV) : MemV := ⟨m.acc, textD pool m.name, textD pool m.desc, m.has, 0⟩
def outT (c : ClassV) : TypV := ⟨nameD c.pool c.this, nameD c.pool c.sup, c.acc, c.ifs.map (nameD c.pool), c.flds.map (memF c.pool), c.mths.map (memM c.pool)⟩
def TypV.vals (t : TypV) (iv fv mv : Value) : List Value := [.string t.name, .string t.sup, .int .i64 t.acc, iv, fv, mv]
structure TypAt (w : World) (ok : Nat → Prop) (t : TypV) (iv fv mv : Value) : Prop where
  hi : SlAt w ok 1 t.ifs.length (t.ifs.map .string) iv
  hf : SlAt w ok 5 t.flds.length (t.flds.flatMap MemV.cells) fv
  hm : SlAt w ok 5 t.mths.length (t.mths.flatMap MemV.cells) mv
theorem TypAt.keep {w w' : World} {ok : Nat → Prop} {t : TypV} {iv fv mv : Value} (h : TypAt w ok t iv fv mv) (hk : Kept ok w w') : TypAt w' ok t iv fv mv := ⟨h.hi.keep hk, h.hf.keep hk, h.hm.keep hk⟩
theorem TypAt.mono {w : World} {ok ok' : Nat → Prop} {t : TypV} {iv fv mv : Value} (h : TypAt w ok t iv fv mv) (hs : ∀ g, g < w.heap.size → ok g → ok' g) : TypAt w ok' t iv fv mv := ⟨h.hi.mono hs, h.hf.mono hs, h.hm.mono hs⟩
def zeroTyp : List Value := [.string ⟨#[]⟩, .string ⟨#[]⟩, .int .i64 0, .slice none 0 0, .slice none 0 0, .slice none 0 0]
def OutPost (c : ClassV) (E : Int) (w : World) (e : Ending) (w' : World) : Prop := Below w.heap.size w w' ∧
  ((E ≠ 0 ∧ e = .returned (.tuple #[.agg zeroTyp.toArray, .int .i64 E])) ∨ (E = 0 ∧ ∃ iv fv mv, e = .returned (.tuple #[.agg ((outT c).vals iv fv mv).toArray, .int .i64 0]) ∧ TypAt w' (fun g => w.heap.size ≤ g) (outT c) iv fv mv))
theorem results_two_cell {P : Program} {fn : Func} {tmps : Array Value} {a b : Tmp} {T : TypeId} {g : Nat} {vs : List Value} {t : TypeId} {w : World} {d : TypeDesc} {x : Value} (hr : fn.results = #[.cell a T, .tmp b]) (ha : tmps.getD a undef = .pointer (some ⟨g, 0, none⟩)) (hx : tmps.getD b undef = x) (hb : Bx w g vs t)
    (hu : P.underlying T = some d) (hd : (match d with | .struct _ | .array _ _ => true | _ => false) = true) (hi : (P.info? T).map (·.size) = some vs.length) : (results fn tmps).run P w = .ok (.tuple #[.agg vs.toArray, x]) w := by
  have := run_loadVar_row (P := P) w g t T vs.toArray (0, 0) d hb hu hd (by simpa using hi)
  unfold results
  rw [hr]
  rw [Array.getD_eq_getD_getElem?] at ha hx
  simp [ha, hx, asAddr, this, Result.andThen]
end Go.Proofs.YtdbniocnjhfhdaaGreatDoor

set_option linter.unusedSimpArgs false
set_option linter.unusedVariables false
set_option maxRecDepth 100000
set_option maxHeartbeats 2000000
namespace Go.Proofs.YtdbniocnjhfhdaaGreatDoor
open Go Go.RowKit Lib
structure OlW (w : World) (cells : List Value) (wk : World) : Prop where
  bel : Below w.heap.size w wk
  bc : Bx wk w.heap.size cells 58
  nr : Bx wk (w.heap.size + 1) zeroTyp 39
theorem OlW.low {w : World} {cells : List Value} {wk wq : World} {B : Nat} (h : OlW w cells wk) (hb : Below B wk wq) (hB : w.heap.size + 2 ≤ B) : OlW w cells wq := ⟨h.bel.trans (hb.mono (by omega)), h.bc.below hb (by omega), h.nr.below hb (by omega)⟩
theorem OlW.below {w : World} {cells : List Value} {wk wq : World} (h : OlW w cells wk) (hb : Below wk.heap.size wk wq) : OlW w cells wq := ⟨h.bel.trans (hb.mono h.bel.size), h.bc.below hb h.bc.lt, h.nr.below hb h.nr.lt⟩
theorem OlW.set {w : World} {cells : List Value} {wk : World} (h : OlW w cells wk) (p : Addr) (v : Value) (hp : w.heap.size + 2 ≤ p.block) : OlW w cells (wk.setCell p v) := ⟨h.bel.setCell (by omega) v, h.bc.set_other _ _ (by omega), h.nr.set_other _ _ (by omega)⟩
theorem OlW.row {w : World} {cells : List Value} {wk : World} (h : OlW w cells wk) (g : Nat) (cs : Array Value) (hp : w.heap.size + 2 ≤ g) : OlW w cells (wk.setRow g cs) :=
  ⟨h.bel.trans ⟨rfl, rfl, rfl, by simp, fun k hk => setRow_other _ _ _ _ (by omega)⟩, (setRow_other wk g _ cs (by omega)).trans h.bc, (setRow_other wk g _ cs (by omega)).trans h.nr⟩
structure OlB (w : World) (cells : List Value) (G : Nat) (tc : List Value) (wk : World) : Prop where
  ol : OlW w cells wk
  bb : Bx wk G cells 179
  tb : Bx wk (G + 1) tc 39
theorem OlB.below {w : World} {cells tc : List Value} {G : Nat} {wk wq : World} (h : OlB w cells G tc wk) (hb : Below wk.heap.size wk wq) : OlB w cells G tc wq := ⟨h.ol.below hb, h.bb.below hb h.bb.lt, h.tb.below hb h.tb.lt⟩
theorem OlB.low {w : World} {cells tc : List Value} {G : Nat} {wk wq : World} (h : OlB w cells G tc wk) (hb : Below (G + 2) wk wq) (hG : w.heap.size + 2 ≤ G) : OlB w cells G tc wq := ⟨h.ol.low hb (by omega), h.bb.below hb (by omega), h.tb.below hb (by omega)⟩
theorem OlB.set {w : World} {cells tc : List Value} {G : Nat} {wk : World} (h : OlB w cells G tc wk) (hG : w.heap.size + 2 ≤ G) (j : Nat) (v : Value) : OlB w cells G (tc.set j v) (wk.setCell ⟨G + 1, j, none⟩ v) := ⟨h.ol.set _ _ (by simp; omega), h.bb.set_other _ _ (by simp), h.tb.set j v⟩
theorem OlB.at {w : World} {ok : Nat → Prop} {c : ClassV} {p i f m : Value} {cells tc : List Value} {G : Nat} {wk : World} (h : OlB w cells G tc wk) (h0 : ClassAt w ok c p i f m) : ClassAt wk ok c p i f m := h0.keep (Kept.of_below h.ol.bel)
theorem outline_bare (c : ClassV) (p i f m : Value) (ok : Nat → Prop) (w : World) (h : ClassAt w ok c p i f m) (hn1 : Fine c.this) (hn2 : Fine c.sup) (hf : ∀ k ∈ c.pool, Fine k.a) (hfi : ∀ n ∈ c.ifs, Fine n) (E : Int)
    (hchk : ∀ W, ClassAt W ok c p i f m → Calls Tryz.prog 95 #[bookV c p i f m] W fun e W' => e = .returned (.int .i64 E) ∧ Below W.heap.size W W') (hil : c.ifs.length ≤ 64) (hfl : c.flds = []) (hml : c.mths = []) :
    Calls Tryz.prog 68 #[bookV c p i f m] w (OutPost c E w) := by
  obtain ⟨Ap, kp, rfl, hkp1, hkp2⟩ := sl_len h.hpool
  obtain ⟨Ai, ki, rfl, hki1, hki2⟩ := sl_len h.hifs
  obtain ⟨Af, kf, rfl, hkf1, hkf2⟩ := sl_len h.hflds
  obtain ⟨ms, hms1, hms2, hms3⟩ := h.hmths
  obtain ⟨Am, km, rfl, hkm1, hkm2⟩ := sl_len hms2
  have H0 := Lib.hid h
  have HN1 := Lib.hid hn1
  have HN2 := Lib.hid hn2
  have HF := Lib.hid hf
  have HFI := Lib.hid hfi
  have HCH := Lib.hid hchk
  have HFL := Lib.hid hfl
  have HML := Lib.hid hml
  have B1 := Lib.hid (show OlW w [.int .i64 c.minor, .int .i64 c.major, .slice Ap c.pool.length kp, .int .i64 c.acc, .int .i64 c.this, .int .i64 c.sup, .slice Ai c.ifs.length ki, .slice Af c.flds.length kf, .slice Am c.mths.length km] ((w.alloc (.cells ([.int .i64 c.minor, .int .i64 c.major, .slice Ap c.pool.length kp, .int .i64 c.acc, .int .i64 c.this, .int .i64 c.sup, .slice Ai c.ifs.length ki, .slice Af c.flds.length kf, .slice Am c.mths.length km]).toArray 58)).alloc (.cells zeroTyp.toArray 39)) from ⟨((Below.refl _ _).alloc (Nat.le_refl _) _).alloc (by simp) _, (bx_new w _ _).below ((Below.refl _ _).alloc (Nat.le_refl _) _) (by simp), bx_new_at _ _ _ _ (by simp)⟩)
  clear h hn1 hn2 hf hfi hchk hms1 hms2 hms3 hfl hml
  rw [bookV_open]
  go_enter Tryz.func68, Tryz.ntmps68
  go_wp2_with (first
    | (refine wpList_load_row rfl _ _ rfl w.heap.size rfl _ _ _ _ B1.out.bc Tryz.underlying58 rfl (by kernel_rfl) ?_)
    | (go_at_call 95; refine stop_here ?_))
  refine go_on ?_
  refine (HCH.out _ (H0.out.keep (Kept.of_below B1.out.bel))).mono ?_
  rintro e w2 ⟨rfl, hb⟩
  have B2 := Lib.hid (B1.out.below hb)
  have hz2 := B2.out.nr.lt
  clear hb B1 HCH
  by_cases hE : E = 0
  · subst hE
    go_wp2_with (first
      | (refine wpList_load_row rfl _ _ rfl w.heap.size rfl _ _ _ _ (B2.out.below ((Below.refl _ _).alloc (Nat.le_refl _) _)).bc Tryz.underlying58 rfl (by kernel_rfl) ?_)
      | (refine wpList_load_row rfl _ _ rfl w.heap.size rfl _ _ _ _ B2.out.bc Tryz.underlying58 rfl (by kernel_rfl) ?_)
      | (refine wpList_store_row rfl _ _ _ rfl w2.heap.size _ rfl rfl _ _ (bx_new _ [.int .i64 0, .int .i64 0, .slice none 0 0, .int .i64 0, .int .i64 0, .int .i64 0, .slice none 0 0, .slice none 0 0, .slice none 0 0] _) (by kernel_rfl) rfl (by simp [Value.oneCell']) ?_; refine stop_here ?_))
    refine go_on ?_
    have B3 := Lib.hid ((B2.out.below ((Below.refl _ _).alloc (Nat.le_refl _) (.cells #[.int .i64 0, .int .i64 0, .slice none 0 0, .int .i64 0, .int .i64 0, .int .i64 0, .slice none 0 0, .slice none 0 0, .slice none 0 0] 179))).row w2.heap.size ([.int .i64 c.minor, .int .i64 c.major, .slice Ap c.pool.length kp, .int .i64 c.acc, .int .i64 c.this, .int .i64 c.sup, .slice Ai c.ifs.length ki, .slice Af c.flds.length kf, .slice Am c.mths.length km]).toArray (by omega))
    have K3 := Lib.hid ((bx_new w2 [.int .i64 0, .int .i64 0, .slice none 0 0, .int .i64 0, .int .i64 0, .int .i64 0, .slice none 0 0, .slice none 0 0, .slice none 0 0] 179).row [.int .i64 c.minor, .int .i64 c.major, .slice Ap c.pool.length kp, .int .i64 c.acc, .int .i64 c.this, .int .i64 c.sup, .slice Ai c.ifs.length ki, .slice Af c.flds.length kf, .slice Am c.mths.length km])
    have hz3 : ((w2.alloc (.cells #[.int .i64 0, .int .i64 0, .slice none 0 0, .int .i64 0, .int .i64 0, .int .i64 0, .slice none 0 0, .slice none 0 0, .slice none 0 0] 179)).setRow w2.heap.size ([.int .i64 c.minor, .int .i64 c.major, .slice Ap c.pool.length kp, .int .i64 c.acc, .int .i64 c.this, .int .i64 c.sup, .slice Ai c.ifs.length ki, .slice Af c.flds.length kf, .slice Am c.mths.length km]).toArray).heap.size = w2.heap.size + 1 := by simp
    generalize (w2.alloc (.cells #[.int .i64 0, .int .i64 0, .slice none 0 0, .int .i64 0, .int .i64 0, .int .i64 0, .slice none 0 0, .slice none 0 0, .slice none 0 0] 179)).setRow w2.heap.size ([.int .i64 c.minor, .int .i64 c.major, .slice Ap c.pool.length kp, .int .i64 c.acc, .int .i64 c.this, .int .i64 c.sup, .slice Ai c.ifs.length ki, .slice Af c.flds.length kf, .slice Am c.mths.length km]).toArray = w3 at *
    obtain ⟨G, hG⟩ : ∃ G, w2.heap.size = G := ⟨_, rfl⟩
    rw [hG] at hz3 hz2 K3 ⊢
    have HG2 : w.heap.size + 2 ≤ G := by omega
    clear B2 hG
    have m3 := B3.out.bc.cell 3 rfl
    go_wp2_with (first
      | (refine wpList_store_row rfl _ _ _ rfl (G + 1) _ rfl rfl _ _ (bx_new_at w3 zeroTyp _ (G + 1) hz3.symm) (by kernel_rfl) rfl (by simp [Value.oneCell']) ?_; refine stop_here ?_))
    refine go_on ?_
    have B4 := Lib.hid (show OlB w [.int .i64 c.minor, .int .i64 c.major, .slice Ap c.pool.length kp, .int .i64 c.acc, .int .i64 c.this, .int .i64 c.sup, .slice Ai c.ifs.length ki, .slice Af c.flds.length kf, .slice Am c.mths.length km] G [.string ⟨#[]⟩, .string ⟨#[]⟩, .int .i64 c.acc, .slice none 0 0, .slice none 0 0, .slice none 0 0] ((w3.alloc (.cells #[.string ⟨#[]⟩, .string ⟨#[]⟩, .int .i64 0, .slice none 0 0, .slice none 0 0, .slice none 0 0] 39)).setRow (G + 1) #[.string ⟨#[]⟩, .string ⟨#[]⟩, .int .i64 c.acc, .slice none 0 0, .slice none 0 0, .slice none 0 0]) from
      ⟨(B3.out.below ((Below.refl _ _).alloc (Nat.le_refl _) _)).row _ _ (by omega), (show _ = _ from (setRow_other _ _ _ _ (by omega)).trans (K3.out.below ((Below.refl _ _).alloc (Nat.le_refl _) _) K3.out.lt)), (bx_new_at w3 [.string ⟨#[]⟩, .string ⟨#[]⟩, .int .i64 0, .slice none 0 0, .slice none 0 0, .slice none 0 0] _ (G + 1) hz3.symm).row _⟩)
    have hz4 : ((w3.alloc (.cells #[.string ⟨#[]⟩, .string ⟨#[]⟩, .int .i64 0, .slice none 0 0, .slice none 0 0, .slice none 0 0] 39)).setRow (G + 1) #[.string ⟨#[]⟩, .string ⟨#[]⟩, .int .i64 c.acc, .slice none 0 0, .slice none 0 0, .slice none 0 0]).heap.size = G + 2 := by simp; omega
    generalize (w3.alloc (.cells #[.string ⟨#[]⟩, .string ⟨#[]⟩, .int .i64 0, .slice none 0 0, .slice none 0 0, .slice none 0 0] 39)).setRow (G + 1) #[.string ⟨#[]⟩, .string ⟨#[]⟩, .int .i64 c.acc, .slice none 0 0, .slice none 0 0, .slice none 0 0] = w4 at *
    clear B3 K3 m3
    have m4 := B4.out.ol.bc.cell 4 rfl
    go_wp2_with (first
      | (refine wpList_load_row rfl _ _ rfl G rfl _ _ _ _ B4.out.bb Tryz.underlying179 rfl (by kernel_rfl) ?_)
      | (go_at_call 96; refine stop_here ?_))
    refine go_on ?_
    refine (name_book c Ap kp (.slice Ai c.ifs.length ki) (.slice Af c.flds.length kf) (.slice Am c.mths.length km) c.this ok _ ⟨(B4.out.at H0.out).hpool, rfl, rfl, rfl⟩ HN1.out HF.out).mono ?_
    rintro e w5 ⟨rfl, hb⟩
    simp only [optV]
    have hz5 := hb.size
    have B5 := Lib.hid (B4.out.below hb)
    have B6 := Lib.hid ((B4.out.below hb).set HG2 0 (.string ((nameAt c.pool c.this).getD ⟨#[]⟩)))
    have t0 := B5.out.tb.cell 0 rfl
    have z0 := B5.out.tb.frozen 0
    have m5 := B6.out.ol.bc.cell 5 rfl
    clear hb m4 B4
    go_wp2_with (first
      | (refine wpList_load_row rfl _ _ rfl G rfl _ _ _ _ B6.out.bb Tryz.underlying179 rfl (by kernel_rfl) ?_)
      | (go_at_call 96; refine stop_here ?_))
    refine go_on ?_
    refine (name_book c Ap kp (.slice Ai c.ifs.length ki) (.slice Af c.flds.length kf) (.slice Am c.mths.length km) c.sup ok _ ⟨(B6.out.at H0.out).hpool, rfl, rfl, rfl⟩ HN2.out HF.out).mono ?_
    rintro e w6 ⟨rfl, hb⟩
    simp only [optV]
    have hz6 := hb.size
    simp only [World.size_setCell] at hz6
    have B7 := Lib.hid (B6.out.below hb)
    have B8 := Lib.hid ((B6.out.below hb).set HG2 1 (.string ((nameAt c.pool c.sup).getD ⟨#[]⟩)))
    have t1 := B7.out.tb.cell 1 rfl
    have z1 := B7.out.tb.frozen 1
    have m6 := B8.out.ol.bc.cell 6 rfl
    clear hb m5 B6 t0 z0
    go_wp2_with fail
    have hz7 : (w6.setCell ⟨G + 1, 1, none⟩ (.string ((nameAt c.pool c.sup).getD ⟨#[]⟩))).heap.size = w6.heap.size := by simp
    generalize w6.setCell ⟨G + 1, 1, none⟩ (.string ((nameAt c.pool c.sup).getD ⟨#[]⟩)) = w7 at *
    clear m6 t1 z1 B5 B7
    go_loopw [55] (fun i wr => ∃ (k : Nat) (pv : Value), k ≤ c.ifs.length ∧ i = .int .i64 k ∧ G + 2 ≤ wr.heap.size ∧ Hid (OlB w [.int .i64 c.minor, .int .i64 c.major, .slice Ap c.pool.length kp, .int .i64 c.acc, .int .i64 c.this, .int .i64 c.sup, .slice Ai c.ifs.length ki, .slice Af c.flds.length kf, .slice Am c.mths.length km] G [.string ((nameAt c.pool c.this).getD ⟨#[]⟩), .string ((nameAt c.pool c.sup).getD ⟨#[]⟩), .int .i64 c.acc, pv, .slice none 0 0, .slice none 0 0] wr) ∧ Hid (wr.ownsRow (G + 2) 9 1 pv k ((c.ifs.take k).map fun n => .string (nameD c.pool n)))) (fun i _ => c.ifs.length - (RowKit.intOf i).toNat)
    case atStart => exact ⟨0, .slice none 0 0, by omega, rfl, by omega, B8, Lib.hid (World.ownsRow_nil _ _ _ _)⟩
    case round =>
      obtain ⟨wr1, hwr⟩ : ∃ W, W = wr := ⟨_, rfl⟩
      subst hwr
      obtain ⟨k, pv, hk, rfl, hzr, Br, HO⟩ := hrel
      by_cases hlt : k < c.ifs.length
      · obtain ⟨x, hx⟩ : ∃ x, c.ifs[k]? = some x := ⟨_, List.getElem?_eq_getElem hlt⟩
        have HX := Lib.hid (show c.ifs.take (k + 1) = c.ifs.take k ++ [x] by rw [List.take_succ_eq_append_getElem hlt, (List.getElem?_eq_some_iff.1 hx).2])
        have HFX := Lib.hid (HFI.out x (List.mem_of_getElem? hx))
        obtain ⟨A', cap', e', _, _, _, h5⟩ := (Br.out.at H0.out).hifs
        injection e' with e1 _ e3
        subst e1
        subst e3
        obtain ⟨b, off, hAi, hbl, _, hc⟩ := h5 (by omega)
        have ci := hc k (.int .i64 x) (by rw [List.getElem?_map, hx]; rfl)
        subst hAi
        obtain ⟨x1, x2, x3, x4, x5, x6, x7, x8, x9, x10, x11, x12⟩ := far b wr1.heap.size hbl
        clear hx h5 hc
        go_wp2_with (first
          | (refine wpList_load_row rfl _ _ rfl G rfl _ _ _ _ Br.out.bb Tryz.underlying179 rfl (by kernel_rfl) ?_)
          | (go_at_call 96; refine stop_here ?_))
        refine go_on ?_
        refine (name_book c Ap kp (.slice (some ⟨b, off, none⟩) c.ifs.length ki) (.slice Af c.flds.length kf) (.slice Am c.mths.length km) x ok _ ⟨(Br.out.at H0.out).hpool, rfl, rfl, rfl⟩ HFX.out HF.out).mono ?_
        rintro e w8 ⟨rfl, hb⟩
        simp only [optV]
        have hz8 := hb.size
        have B9 := Lib.hid (Br.out.below hb)
        have HO9 := Lib.hid (own_heap HO.out fun q hq => hb.block q (HO.out.lt q hq).2)
        have t3 := B9.out.tb.cell 3 rfl
        clear hb ci
        go_wp2_with (at_builtin; refine wpl_lies rfl _ _ 36 rfl Tryz.underlying36 info_string rfl (by omega) (G + 2) rfl (HO9.out.alloc _) rfl rfl (fun _ => ⟨_, rfl, cells_new_at _ _ _ _ (by simp)⟩) (by simp [Value.oneCell']) (by omega) (by simp only [maxLen]; omega) (by omega) (by simp; omega) ?_; intro g3 c3 w9 ho3 hg3 hb3 hgg3 hlt3; refine stop_here ?_)
        refine go_on ?_
        have hz9 := hb3.size
        simp only [World.size_alloc] at hz9
        have B10 := Lib.hid ((B9.out.below ((Below.refl _ _).alloc (Nat.le_refl _) _)).low hb3 HG2)
        have B11 := Lib.hid (B10.out.set HG2 3 (.slice (some ⟨g3, 0, none⟩) (k + 1) c3))
        have hge := (ho3.lt g3 rfl).1
        have HO11 := Lib.hid (own_set ho3 (p := ⟨G + 1, 3, none⟩) (by simp; omega) (.slice (some ⟨g3, 0, none⟩) (k + 1) c3))
        have t3' := B10.out.tb.cell 3 rfl
        have z3' := B10.out.tb.frozen 3
        clear t3 ho3 hg3 hb3 hgg3
        go_wp2_with fail
        go_roundw
        case rel => exact ⟨k + 1, _, by omega, by go_num, by simp; omega, B11, Lib.hid (own_eq HO11.out rfl (by rw [HX.out, List.map_append]; rfl))⟩
        case measure => simp [RowKit.intOf]; omega
      · obtain rfl : k = c.ifs.length := by omega
        obtain ⟨Ao, ko, hpv⟩ := own_slice HO.out
        subst hpv
        have hf0 : c.flds.length = 0 := by rw [HFL.out]; rfl
        have hm0 : c.mths.length = 0 := by rw [HML.out]; rfl
        have hf1 : decide (0 < c.flds.length) = false := decide_eq_false (by omega)
        have hm1 : decide (0 < c.mths.length) = false := decide_eq_false (by omega)
        have m7 := Br.out.ol.bc.cell 7 rfl
        have m8 := Br.out.ol.bc.cell 8 rfl
        clear hlt
        go_wp2_with fail
        refine wp_loop_rounds 1 ?_
        rw [rounds_succ]
        go_wp2_with fail
        refine wp_loop_rounds 1 ?_
        rw [rounds_succ]
        go_wp2_with (first
          | (refine wpList_load_row rfl _ _ rfl (G + 1) rfl _ _ _ _ Br.out.tb Tryz.underlying39 rfl (by kernel_rfl) ?_)
          | (refine wpList_store_row rfl _ _ _ rfl (w.heap.size + 1) _ rfl rfl _ _ Br.out.ol.nr (by kernel_rfl) rfl (by simp [Value.oneCell']) ?_))
        have hkp := Kept.of_but (ok := fun g => G + 2 ≤ g) (show But wr1.heap.size [w.heap.size + 1] wr1 (wr1.setRow (w.heap.size + 1) #[.string ((nameAt c.pool c.this).getD ⟨#[]⟩), .string ((nameAt c.pool c.sup).getD ⟨#[]⟩), .int .i64 c.acc, .slice Ao c.ifs.length ko, .slice none 0 0, .slice none 0 0]) from ⟨rfl, rfl, rfl, by simp, fun q _ hm => setRow_other _ _ _ _ (by simpa using hm)⟩) (fun q hq hm => by simp at hm; omega)
        have hrow := HO.out
        rw [List.take_length] at hrow
        refine bodyPost_ret (results_two_cell rfl rfl rfl (Br.out.ol.nr.row _) rfl rfl (by kernel_rfl)) rfl ⟨Br.out.ol.bel.trans ⟨rfl, rfl, rfl, by simp, fun q hq => setRow_other _ _ _ _ (by omega)⟩, .inr ⟨rfl, _, _, _, rfl, ?_, ?_, ?_⟩⟩
        · have := ((slAt_own hrow (fun g => G + 2 ≤ g) (by omega) (by omega) (fun q hq => (hrow.lt q hq).1)).keep hkp).mono (ok' := fun g => w.heap.size ≤ g) fun q _ hq => by omega
          simpa [outT, List.map_map, Function.comp_def] using this
        · simp only [outT, HFL.out, List.map_nil, List.length_nil, List.flatMap_nil]
          exact slAt_nil _ _ _
        · simp only [outT, HML.out, List.map_nil, List.length_nil, List.flatMap_nil]
          exact slAt_nil _ _ _
  · have hEb : (E != 0) = true := by simpa using hE
    go_wp2_with (refine wpList_store_row rfl _ _ _ rfl (w.heap.size + 1) _ rfl rfl _ _ B2.out.nr (by kernel_rfl) rfl (by simp [Value.oneCell']) ?_)
    refine bodyPost_ret (results_two_cell rfl rfl rfl (B2.out.nr.row zeroTyp) rfl rfl (by kernel_rfl)) rfl ⟨B2.out.bel.trans ⟨rfl, rfl, rfl, by simp, fun k hk => setRow_other _ _ _ _ (by omega)⟩, .inl ⟨hE, rfl⟩⟩
end Go.Proofs.YtdbniocnjhfhdaaGreatDoor
