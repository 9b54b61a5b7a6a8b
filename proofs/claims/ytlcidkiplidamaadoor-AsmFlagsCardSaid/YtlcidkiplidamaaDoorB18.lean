/-
  What the laws rest on, part 18: walks of the program's functions and plain laws. Conditions: none but those that each theorem names.
-/
import Derived.Test.YtlcidkiplidamaaDoorB17
import Derived.Test.YtlcidkiplidamaaDoorB15
import Derived.Test.YtlcidkiplidamaaDoorB13
import Derived.Test.YtlcidkiplidamaaDoorB03
import Derived.Test.YtlcidkiplidamaaDoorB01
import Derived.Test.YtlcidkiplidamaaDoorB11
import Derived.Test.YtlcidkiplidamaaDoorB05
set_option linter.unusedSimpArgs false
set_option linter.unusedVariables false
set_option maxRecDepth 100000
set_option maxHeartbeats 4000000
namespace Go.Proofs.YtlcidkiplidamaaDoor
open Go Go.RowKit Lib
theorem argsKm_len : ∀ (f : Nat) (r : ByteArray) (args : List UInt8) (e : Nat), args.length ≤ 16 → (argsK f r args e).2.1.length ≤ 16
  | 0, r, args, e, h => by rw [argsK]; exact h
  | f + 1, r, args, e, h => by
    rw [argsK]
    by_cases h1 : r.size = 0
    · rw [if_pos h1]; exact h
    · rw [if_neg h1]
      by_cases h2 : r.data.toList.headD 0 = 41
      · rw [if_pos h2]; exact h
      · rw [if_neg h2]
        by_cases h3 : fieldB (r.extract 0 (partLen r)).data.toList = false ∨ args.length = 16
        · rw [if_pos h3]; exact h
        · rw [if_neg h3]
          exact argsKm_len f _ _ _ (by rw [List.length_append]; simp only [List.length_cons, List.length_nil]; omega)
theorem kinds_small (s : ByteArray) : (kindsV s).1.size ≤ 16 := by
  unfold kindsV
  by_cases h1 : s.size = 0 ∨ s.data.toList.headD 0 ≠ 40 ∨ 255 < s.size
  · rw [if_pos h1]; decide
  · rw [if_neg h1]
    have hl := argsKm_len 256 (s.extract 1 s.size) [] 1 (by simp)
    obtain ⟨⟨good, args, e⟩, hv⟩ : ∃ v, argsK 256 (s.extract 1 s.size) [] 1 = v := ⟨_, rfl⟩
    rw [hv] at hl ⊢
    dsimp only
    by_cases h2 : good = false ∨ s.size ≤ e ∨ s.data.toList.getD e 0 ≠ 41
    · rw [if_pos h2]; decide
    · rw [if_neg h2]
      by_cases h3 : (s.extract (e + 1) s.size).data.toList ≠ [86] ∧ fieldB (s.extract (e + 1) s.size).data.toList = false
      · rw [if_pos h3]; decide
      · rw [if_neg h3]
        show args.toArray.size ≤ 16
        simpa using hl
def mthBad (pool : List Ko) (cacc : Int) (x : MethV) : Bool := (!(textAt pool x.name).isSome || !(textAt pool x.desc).isSome) || !methodNB ((textAt pool x.name).getD ⟨#[]⟩).data.toList || !(kindsV ((textAt pool x.desc).getD ⟨#[]⟩)).2.2 || mflags cacc x.acc ((textAt pool x.name).getD ⟨#[]⟩).data.toList || mthRet ((textAt pool x.name).getD ⟨#[]⟩).data.toList (kindsV ((textAt pool x.desc).getD ⟨#[]⟩)).2.1.data.toList ((textAt pool x.desc).getD ⟨#[]⟩).data.toList
def mthIn (pool : List Ko) (cacc : Int) (seen : List NmD) (x : MethV) : Int := mthRes (!(textAt pool x.name).isSome || !(textAt pool x.desc).isSome) (!methodNB ((textAt pool x.name).getD ⟨#[]⟩).data.toList) (!(kindsV ((textAt pool x.desc).getD ⟨#[]⟩)).2.2) (mflags cacc x.acc ((textAt pool x.name).getD ⟨#[]⟩).data.toList) (mthRet ((textAt pool x.name).getD ⟨#[]⟩).data.toList (kindsV ((textAt pool x.desc).getD ⟨#[]⟩)).2.1.data.toList ((textAt pool x.desc).getD ⟨#[]⟩).data.toList) (decide ((((textAt pool x.name).getD ⟨#[]⟩).data.toList, ((textAt pool x.desc).getD ⟨#[]⟩).data.toList) ∈ seen)) (codeBad x (kindsV ((textAt pool x.desc).getD ⟨#[]⟩)).1.size) (trapsNo pool x)
theorem method_book (c : ClassV) (A : Option Addr) (cap : Nat) (ifs flds mths : Value) (ok ok2 : Nat → Prop) (x : MethV) (cv tv : Value) (b : Nat) (seen : List NmD) (w : World) (h : BookOk w ok c A cap ifs flds mths) (hM : MethAt w ok2 x cv tv) (hs : SeenM w b seen) (hlen : seen.length ≤ 1048576) (hn1 : Fine x.name) (hn2 : Fine x.desc) (hn3 : ∀ t ∈ x.traps, Fine t.kind) (ht : ∀ k ∈ c.pool, k.text.size ≤ 65536) :
    Calls Tryd.prog 31 #[bookV c (.slice A c.pool.length cap) ifs flds mths, methV x cv tv, .map (some b)] w fun e w' =>
      e = .returned (.int .i64 (mthIn c.pool c.acc seen x)) ∧ But w.heap.size [b] w w' ∧ SeenM w' b (if mthBad c.pool c.acc x then seen else nmOf c.pool x.name x.desc :: seen) := by
  have hcv : cv.oneCell' = true := by obtain ⟨Ac, kc, rfl, _, zc⟩ := sl_len hM.hcode; rfl
  have htv : tv.oneCell' = true := by obtain ⟨Ac, kc, rfl, _, zc⟩ := sl_len hM.htraps; rfl
  have hmf : ∀ (fn : Fn) (first cap : Array Value) (w : World), (Instr.makeFunc fn first cap).run Tryd.prog w = .ok (.func fn first cap) w := fun _ _ _ _ => rfl
  have BW0 := Lib.hid ((((Below.refl w.heap.size w).alloc (Nat.le_refl _) (.cells #[.int .i64 c.minor, .int .i64 c.major, .slice A c.pool.length cap, .int .i64 c.acc, .int .i64 c.this, .int .i64 c.sup, ifs, flds, mths] 69)).alloc (by simp) (.cells #[.int .i64 x.acc, .int .i64 x.name, .int .i64 x.desc, .bool x.has, .int .i64 x.stack, .int .i64 x.locals, cv, tv] 37)).alloc (by simp <;> omega) (.cells #[.map (some b)] 70))
  have X0 := Lib.hid ((bx_new w [.int .i64 c.minor, .int .i64 c.major, .slice A c.pool.length cap, .int .i64 c.acc, .int .i64 c.this, .int .i64 c.sup, ifs, flds, mths] 69).below (((Below.refl _ _).alloc (Nat.le_refl _) (.cells #[.int .i64 x.acc, .int .i64 x.name, .int .i64 x.desc, .bool x.has, .int .i64 x.stack, .int .i64 x.locals, cv, tv] 37)).alloc (by simp) (.cells #[.map (some b)] 70)) (by simp))
  have F0 := Lib.hid ((bx_new_at (w.alloc (.cells #[.int .i64 c.minor, .int .i64 c.major, .slice A c.pool.length cap, .int .i64 c.acc, .int .i64 c.this, .int .i64 c.sup, ifs, flds, mths] 69)) [.int .i64 x.acc, .int .i64 x.name, .int .i64 x.desc, .bool x.has, .int .i64 x.stack, .int .i64 x.locals, cv, tv] 37 (w.heap.size + 1) (by simp)).below ((Below.refl _ _).alloc (Nat.le_refl _) (.cells #[.map (some b)] 70)) (by simp))
  have C5 := Lib.hid (show CapB _ (w.heap.size + 2) (.map (some b)) from (bx_new_at ((w.alloc (.cells #[.int .i64 c.minor, .int .i64 c.major, .slice A c.pool.length cap, .int .i64 c.acc, .int .i64 c.this, .int .i64 c.sup, ifs, flds, mths] 69)).alloc (.cells #[.int .i64 x.acc, .int .i64 x.name, .int .i64 x.desc, .bool x.has, .int .i64 x.stack, .int .i64 x.locals, cv, tv] 37)) [.map (some b)] 70 (w.heap.size + 2) (by simp)).cell 0 rfl)
  have H0 := Lib.hid (h.below BW0.out)
  have S0 := Lib.hid (hs.below BW0.out)
  have hbl := hs.lt
  have HM := Lib.hid hM
  have HN1 := Lib.hid hn1
  have HN2 := Lib.hid hn2
  have HN3 := Lib.hid hn3
  have HT := Lib.hid ht
  have hs2 := text_le (n := x.name) ht
  have hs3 := text_le (n := x.desc) ht
  clear h hs hn1 hn2 hn3 ht hM
  rw [bookV_open]
  unfold methV mthIn mthBad nmOf
  obtain ⟨tn, htn⟩ : ∃ s, textAt c.pool x.name = s := ⟨_, rfl⟩
  obtain ⟨td, htd⟩ : ∃ s, textAt c.pool x.desc = s := ⟨_, rfl⟩
  rw [htn] at hs2 ⊢
  rw [htd] at hs3 ⊢
  have HTD := Lib.hid htd
  have HTN := Lib.hid htn
  clear htn htd
  have hs4 := kinds_small (td.getD ⟨#[]⟩)
  have HKD := Lib.hid (fun W => kinds_any (td.getD ⟨#[]⟩) W (by omega))
  obtain ⟨⟨args, ret, is⟩, hkv⟩ : ∃ v, kindsV (td.getD ⟨#[]⟩) = v := ⟨_, rfl⟩
  rw [hkv] at HKD hs4 ⊢
  clear hkv
  dsimp only at HKD hs4 ⊢
  obtain ⟨SN, hSN⟩ : ∃ s, (if (!tn.isSome || !td.isSome) || !methodNB (tn.getD ⟨#[]⟩).data.toList || !is || mflags c.acc x.acc (tn.getD ⟨#[]⟩).data.toList || mthRet (tn.getD ⟨#[]⟩).data.toList ret.data.toList (td.getD ⟨#[]⟩).data.toList then seen else ((tn.getD ⟨#[]⟩).data.toList, (td.getD ⟨#[]⟩).data.toList) :: seen) = s := ⟨_, rfl⟩
  rw [hSN]
  have HSN := Lib.hid hSN
  clear hSN
  obtain ⟨R, hR⟩ : ∃ r, mthRes (!tn.isSome || !td.isSome) (!methodNB (tn.getD ⟨#[]⟩).data.toList) (!is) (mflags c.acc x.acc (tn.getD ⟨#[]⟩).data.toList) (mthRet (tn.getD ⟨#[]⟩).data.toList ret.data.toList (td.getD ⟨#[]⟩).data.toList) (decide (((tn.getD ⟨#[]⟩).data.toList, (td.getD ⟨#[]⟩).data.toList) ∈ seen)) (codeBad x args.size) (trapsNo c.pool x) = r := ⟨_, rfl⟩
  rw [hR]
  have HR := Lib.hid hR
  clear hR
  have hz0 : (((w.alloc (.cells #[.int .i64 c.minor, .int .i64 c.major, .slice A c.pool.length cap, .int .i64 c.acc, .int .i64 c.this, .int .i64 c.sup, ifs, flds, mths] 69)).alloc (.cells #[.int .i64 x.acc, .int .i64 x.name, .int .i64 x.desc, .bool x.has, .int .i64 x.stack, .int .i64 x.locals, cv, tv] 37)).alloc (.cells #[.map (some b)] 70)).heap.size = w.heap.size + 3 := by simp
  go_enter Tryd.func31, Tryd.ntmps31
  go_wp2_with (first
    | (refine wpList_load_row rfl _ _ rfl w.heap.size rfl _ _ _ _ X0.out Tryd.underlying69 rfl (by kernel_rfl) ?_)
    | (go_at_call 48; refine stop_here ?_))
  generalize (((w.alloc (.cells #[.int .i64 c.minor, .int .i64 c.major, .slice A c.pool.length cap, .int .i64 c.acc, .int .i64 c.this, .int .i64 c.sup, ifs, flds, mths] 69)).alloc (.cells #[.int .i64 x.acc, .int .i64 x.name, .int .i64 x.desc, .bool x.has, .int .i64 x.stack, .int .i64 x.locals, cv, tv] 37)).alloc (.cells #[.map (some b)] 70)) = w0 at *
  refine go_on ?_
  refine (text_book c A cap _ flds mths x.name ok _ H0.out HN1.out).mono ?_
  rw [HTN.out]
  rintro e w1 ⟨rfl, hb⟩
  simp only [optV]
  have hz1 := hb.size
  have B1 := Lib.hid (BW0.out.trans (hb.mono (by omega)))
  have X1 := Lib.hid (X0.out.below hb X0.out.lt)
  have F1 := Lib.hid (F0.out.below hb F0.out.lt)
  have C51 := Lib.hid (CapB.below C5.out hb)
  have H1 := Lib.hid (H0.out.below hb)
  have S1 := Lib.hid (S0.out.below hb)
  clear hb X0 F0 C5 H0 S0 BW0
  have f2 := F1.out.cell 2 rfl
  obtain ⟨x1, x2, x3, x4, x5, x6, x7, x8, x9, x10, x11, x12⟩ := far w.heap.size w1.heap.size (by omega)
  obtain ⟨y1, y2, y3, y4, y5, y6, y7, y8, y9, y10, y11, y12⟩ := far (w.heap.size + 1) w1.heap.size (by omega)
  have BW1 := Lib.hid (((Below.refl w1.heap.size w1).alloc (Nat.le_refl _) (.cells #[.string (tn.getD ⟨#[]⟩)] 9)).alloc (by simp <;> omega) (.cells #[.bool tn.isSome] 4))
  have C7 := Lib.hid ((bx_new_at w1 [.string (tn.getD ⟨#[]⟩)] 9 _ rfl).below ((Below.refl _ _).alloc (Nat.le_refl _) (.cells #[.bool tn.isSome] 4)) (by simp <;> omega))
  have C8 := Lib.hid (bx_new_at (w1.alloc (.cells #[.string (tn.getD ⟨#[]⟩)] 9)) [.bool tn.isSome] 4 (w1.heap.size + 1) (by simp))
  have XX1 := Lib.hid (X1.out.below BW1.out X1.out.lt)
  go_wp2_with (first
    | (refine wpList_load_row rfl _ _ rfl w.heap.size rfl _ _ _ _ XX1.out Tryd.underlying69 rfl (by kernel_rfl) ?_)
    | (go_at_call 48; refine stop_here ?_))
  refine go_on ?_
  clear x1 x2 x3 x4 x5 x6 x7 x8 x9 x10 x11 x12 y1 y2 y3 y4 y5 y6 y7 y8 y9 y10 y11 y12 f2 XX1
  refine (text_book c A cap _ flds mths x.desc ok _ (H1.out.below BW1.out) HN2.out).mono ?_
  rw [HTD.out]
  rintro e w2 ⟨rfl, hb⟩
  simp only [optV]
  have hz2 := hb.size
  simp only [World.size_alloc] at hz2
  have hb' := BW1.out.trans (hb.mono (by simp <;> omega))
  have B2 := Lib.hid (B1.out.trans (hb'.mono (by omega)))
  have X2 := Lib.hid (X1.out.below hb' X1.out.lt)
  have F2 := Lib.hid (F1.out.below hb' F1.out.lt)
  have C52 := Lib.hid (CapB.below C51.out hb')
  have H2 := Lib.hid (H1.out.below hb')
  have S2 := Lib.hid (S1.out.below hb')
  have C72 := Lib.hid (C7.out.below hb (by simp <;> omega))
  have C82 := Lib.hid (C8.out.below hb (by simp <;> omega))
  clear hb hb' X1 F1 C51 H1 S1 BW1 B1 C7 C8 HTD HTN
  have BW2 := Lib.hid (((Below.refl w2.heap.size w2).alloc (Nat.le_refl _) (.cells #[.string (td.getD ⟨#[]⟩)] 9)).alloc (by simp <;> omega) (.cells #[.bool td.isSome] 4))
  have C9 := Lib.hid ((bx_new_at w2 [.string (td.getD ⟨#[]⟩)] 9 _ rfl).below ((Below.refl _ _).alloc (Nat.le_refl _) (.cells #[.bool td.isSome] 4)) (by simp <;> omega))
  have C10 := Lib.hid (bx_new_at (w2.alloc (.cells #[.string (td.getD ⟨#[]⟩)] 9)) [.bool td.isSome] 4 (w2.heap.size + 1) (by simp))
  go_wp2_with (go_at_call 46; refine stop_here ?_)
  refine go_on ?_
  refine (HKD.out _).mono ?_
  rintro e w3 ⟨rfl, hb⟩
  have hz3 := hb.size
  simp only [World.size_alloc] at hz3
  have hb' := BW2.out.trans (hb.mono (by simp <;> omega))
  have B3 := Lib.hid (B2.out.trans (hb'.mono (by omega)))
  have X3 := Lib.hid (X2.out.below hb' X2.out.lt)
  have F3 := Lib.hid (F2.out.below hb' F2.out.lt)
  have C53 := Lib.hid (CapB.below C52.out hb')
  have H3 := Lib.hid (H2.out.below hb')
  have S3 := Lib.hid (S2.out.below hb')
  have C73 := Lib.hid (C72.out.below hb' C72.out.lt)
  have C83 := Lib.hid (C82.out.below hb' C82.out.lt)
  have C93 := Lib.hid (C9.out.below hb (by simp <;> omega))
  have C103 := Lib.hid (C10.out.below hb (by simp <;> omega))
  clear hb hb' X2 F2 C52 H2 S2 BW2 B2 C9 C10 C72 C82 HKD
  obtain ⟨y1, y2, y3, y4, y5, y6, y7, y8, y9, y10, y11, y12⟩ := far (w.heap.size + 1) w3.heap.size (by omega)
  have BW3a := Lib.hid ((((Below.refl w3.heap.size w3).alloc (Nat.le_refl _) (.cells #[.string args] 9)).alloc (by simp <;> omega) (.cells #[.string ret] 9)).alloc (by simp <;> omega) (.cells #[.bool is] 4))
  have BW3 := Lib.hid (BW3a.out.alloc (by simp <;> omega) (.cells (mthRules w.heap.size (w.heap.size + 2) w1.heap.size (w1.heap.size + 1) w2.heap.size (w2.heap.size + 1) w3.heap.size (w3.heap.size + 1) (w3.heap.size + 1 + 1)).toArray 117))
  have FF3 := Lib.hid (F3.out.below BW3a.out F3.out.lt)
  have C11 := Lib.hid ((bx_new_at w3 [.string args] 9 _ rfl).below ((((Below.refl _ _).alloc (Nat.le_refl _) (.cells #[.string ret] 9)).alloc (by simp <;> omega) (.cells #[.bool is] 4)).alloc (by simp <;> omega) (.cells (mthRules w.heap.size (w.heap.size + 2) w1.heap.size (w1.heap.size + 1) w2.heap.size (w2.heap.size + 1) w3.heap.size (w3.heap.size + 1) (w3.heap.size + 1 + 1)).toArray 117)) (by simp <;> omega))
  have C12 := Lib.hid ((bx_new_at (w3.alloc (.cells #[.string args] 9)) [.string ret] 9 (w3.heap.size + 1) (by simp)).below (((Below.refl _ _).alloc (Nat.le_refl _) (.cells #[.bool is] 4)).alloc (by simp <;> omega) (.cells (mthRules w.heap.size (w.heap.size + 2) w1.heap.size (w1.heap.size + 1) w2.heap.size (w2.heap.size + 1) w3.heap.size (w3.heap.size + 1) (w3.heap.size + 1 + 1)).toArray 117)) (by simp <;> omega))
  have C13 := Lib.hid ((bx_new_at ((w3.alloc (.cells #[.string args] 9)).alloc (.cells #[.string ret] 9)) [.bool is] 4 (w3.heap.size + 1 + 1) (by simp)).below ((Below.refl _ _).alloc (Nat.le_refl _) (.cells (mthRules w.heap.size (w.heap.size + 2) w1.heap.size (w1.heap.size + 1) w2.heap.size (w2.heap.size + 1) w3.heap.size (w3.heap.size + 1) (w3.heap.size + 1 + 1)).toArray 117)) (by simp <;> omega))
  have G3 := Lib.hid (bx_new_at (((w3.alloc (.cells #[.string args] 9)).alloc (.cells #[.string ret] 9)).alloc (.cells #[.bool is] 4)) (mthRules w.heap.size (w.heap.size + 2) w1.heap.size (w1.heap.size + 1) w2.heap.size (w2.heap.size + 1) w3.heap.size (w3.heap.size + 1) (w3.heap.size + 1 + 1)) 117 (w3.heap.size + 1 + 1 + 1) (by simp))
  have hz4 : ((((w3.alloc (.cells #[.string args] 9)).alloc (.cells #[.string ret] 9)).alloc (.cells #[.bool is] 4)).alloc (.cells (mthRules w.heap.size (w.heap.size + 2) w1.heap.size (w1.heap.size + 1) w2.heap.size (w2.heap.size + 1) w3.heap.size (w3.heap.size + 1) (w3.heap.size + 1 + 1)).toArray 117)).heap.size = w3.heap.size + 4 := by simp
  go_wp2_with (first
    | (refine wpList_load_row rfl _ _ rfl (w.heap.size + 1) rfl _ _ _ _ FF3.out Tryd.underlying37 rfl (by kernel_rfl) ?_)
    | (go_at_call 71; refine stop_here ?_))
  refine go_on ?_
  clear y1 y2 y3 y4 y5 y6 y7 y8 y9 y10 y11 y12 FF3
  have HF := MthW.mk (c := c) (A := A) (cap := cap) (ifs := ifs) (flds := flds) (mths := mths) (ok := ok) (ok2 := ok2) (x := x) (seen := seen) G3.out (X3.out.below BW3.out X3.out.lt)
    (Bx.below F3.out (w' := _) BW3.out F3.out.lt) (CapB.below C53.out BW3.out) ((C73.out.below BW3.out C73.out.lt).cell 0 rfl) ((C83.out.below BW3.out C83.out.lt).cell 0 rfl) ((C93.out.below BW3.out C93.out.lt).cell 0 rfl) ((C103.out.below BW3.out C103.out.lt).cell 0 rfl) (C11.out.cell 0 rfl) (C12.out.cell 0 rfl) (C13.out.cell 0 rfl) (H3.out.below BW3.out)
    ⟨HM.out.hcode.keep (Kept.of_below (B3.out.trans (BW3.out.mono (by omega)))), HM.out.htraps.keep (Kept.of_below (B3.out.trans (BW3.out.mono (by omega))))⟩ (S3.out.below BW3.out)
  have HF2 := HF.below ((Below.refl _ _).alloc (Nat.le_refl _) (.cells #[.int .i64 x.acc, .int .i64 x.name, .int .i64 x.desc, .bool x.has, .int .i64 x.stack, .int .i64 x.locals, cv, tv] 37))
  have HF3 := MthW.mk HF2.gg HF2.kk (bx_new _ [.int .i64 x.acc, .int .i64 x.name, .int .i64 x.desc, .bool x.has, .int .i64 x.stack, .int .i64 x.locals, cv, tv] 37) HF2.c5 HF2.c7 HF2.c8 HF2.c9 HF2.c10 HF2.c11 HF2.c12 HF2.c13 HF2.bo HF2.ma HF2.sm
  refine (first_method c A cap ifs flds mths ok ok2 _ w.heap.size (w.heap.size + 2) w1.heap.size (w1.heap.size + 1) w2.heap.size (w2.heap.size + 1) w3.heap.size (w3.heap.size + 1) (w3.heap.size + 1 + 1) b _ _ args ret tn.isSome td.isSome is x cv tv hcv htv seen _ HF3 (by omega) hs2 hs3 (by omega) hlen HN3.out).mono ?_
  rintro e w4 ⟨he, hb, hsm⟩
  have he : e = .returned (.int .i64 R) := he.trans (by rw [← HR.out])
  subst he
  have B4 := Lib.hid ((But.of_below (S := [b]) (B3.out.trans (BW3.out.mono (by omega)))).trans (hb.mono (by omega) (fun _ _ h => h)))
  have S4 := Lib.hid (show SeenM w4 b SN by rw [← HSN.out]; exact hsm)
  clear hb hsm HF HF2 HF3
  go_wp2_with fail
  go_ret
  exact ⟨rfl, B4.out, S4.out⟩
end Go.Proofs.YtlcidkiplidamaaDoor
set_option maxRecDepth 100000
set_option maxHeartbeats 1000000
namespace Go.Proofs.YtlcidkiplidamaaDoor
open Go Go.RowKit Lib
def conF (pool : List Ko) (k : Ko) : Int := if k.tag = 7 then classE pool k.a else if k.tag = 12 then namedE pool k.a k.b else if k.tag = 9 ∨ k.tag = 10 ∨ k.tag = 11 then memberE pool k.tag k.a k.b else 0
def seenFl (pool : List Ko) (cacc : Int) (l : List FieldV) : List NmD := l.foldl (fun s x => if fldBad pool cacc x then s else nmOf pool x.name x.desc :: s) []
def seenMt (pool : List Ko) (cacc : Int) (l : List MethV) : List NmD := l.foldl (fun s x => if mthBad pool cacc x then s else nmOf pool x.name x.desc :: s) []
theorem seenFl_len (pool : List Ko) (cacc : Int) : ∀ (l : List FieldV) (s : List NmD), (l.foldl (fun s x => if fldBad pool cacc x then s else nmOf pool x.name x.desc :: s) s).length ≤ s.length + l.length
  | [], s => Nat.le_refl _
  | x :: l, s => by
    rw [List.foldl_cons]
    refine Nat.le_trans (seenFl_len pool cacc l _) ?_
    split <;> simp <;> omega
theorem seenM_len (pool : List Ko) (cacc : Int) : ∀ (l : List MethV) (s : List NmD), (l.foldl (fun s x => if mthBad pool cacc x then s else nmOf pool x.name x.desc :: s) s).length ≤ s.length + l.length
  | [], s => Nat.le_refl _
  | x :: l, s => by
    rw [List.foldl_cons]
    refine Nat.le_trans (seenM_len pool cacc l _) ?_
    split <;> simp <;> omega
def checkF (c : ClassV) : Int := checkE (conF c.pool) (fun l x => fldIn c.pool c.acc (seenFl c.pool c.acc l) x) (fun l x => mthIn c.pool c.acc (seenMt c.pool c.acc l) x) c
theorem seen_new (W : World) (b : Nat) (h : W.heap[b]? = some (.map #[] 0)) : SeenM W b [] := ⟨#[], 0, h, by
  refine ⟨?_, ?_, ?_, ?_, ?_⟩ <;> simp⟩
theorem seen_keep {s : List NmD} (W W' : World) (b : Nat) (h : SeenM W b s) (hb : W'.heap[b]? = W.heap[b]?) : SeenM W' b s := by
  obtain ⟨es, clock, hm, hg⟩ := h
  exact ⟨es, clock, hb.trans hm, hg⟩
theorem check_full (c : ClassV) (p i f m : Value) (ok : Nat → Prop) (w : World) (h : ClassAt w ok c p i f m) (hF : ClassFine c) :
    Calls Tryd.prog 16 #[bookV c p i f m] w fun e w' => e = .returned (.int .i64 (checkF c)) ∧ Below w.heap.size w w' := by
  have h' := h.mono (ok' := fun g => ok g ∧ g < w.heap.size) fun g hg ho => ⟨ho, hg⟩
  have hlf : c.flds.length ≤ 1048576 := by obtain ⟨A3, k3, e3, q3, z3⟩ := sl_len h.hflds; exact z3
  have hlm : c.mths.length ≤ 1048576 := by obtain ⟨ms, m1, m2, m3⟩ := h.hmths; obtain ⟨A4, k4, e4, q4, z4⟩ := sl_len m2; exact z4
  have htx : ∀ k ∈ c.pool, k.text.size ≤ 65536 := fun k hk => (hF.pool k hk).2.2.1
  refine check_any c p i f m (fun g => ok g ∧ g < w.heap.size) w h' (fun g hg => hg.2) hF.this hF.sup (fun k hk => (hF.pool k hk).1) hF.ifs htx
    (conF c.pool) (fun l x => fldIn c.pool c.acc (seenFl c.pool c.acc l) x) (fun l x => mthIn c.pool c.acc (seenMt c.pool c.acc l) x)
    (fun l b W => SeenM W b (seenFl c.pool c.acc l)) (fun l b W => SeenM W b (seenMt c.pool c.acc l)) ⟨fun W b hb => seen_new W b hb, fun l b W W' hs hb => seen_keep W W' b hs hb⟩ ⟨fun W b hb => seen_new W b hb, fun l b W W' hs hb => seen_keep W W' b hs hb⟩
    (fun k hk W hW => ?_) (fun k x hx W b hW hb hs => ?_) (fun k x hx W b cv tv hW hM hb hs => ?_)
  · obtain ⟨A1, k1, rfl, q1, z1⟩ := sl_len hW.hpool
    obtain ⟨A2, k2, rfl, q2, z2⟩ := sl_len hW.hifs
    obtain ⟨A3, k3, rfl, q3, z3⟩ := sl_len hW.hflds
    obtain ⟨ms, m1, m2, m3⟩ := hW.hmths
    obtain ⟨A4, k4, rfl, q4, z4⟩ := sl_len m2
    have hk' := hF.pool k hk
    have hbo : BookOk W (fun g => ok g ∧ g < w.heap.size) c A1 k1 (.slice A2 c.ifs.length k2) (.slice A3 c.flds.length k3) (.slice A4 c.mths.length k4) := ⟨hW.hpool, rfl, rfl, rfl⟩
    obtain ⟨tag, tx, nu, a, b⟩ := k
    obtain ⟨ha, hb, ht, htag⟩ := hk'
    unfold conF
    simp only at ha hb htag ⊢
    rcases htag with rfl | rfl | rfl | rfl | rfl | rfl | rfl
    · exact constant_plain c _ _ _ _ ⟨1, tx, nu, a, b⟩ (.inl rfl) W
    · exact constant_plain c _ _ _ _ ⟨3, tx, nu, a, b⟩ (.inr rfl) W
    · exact constant_seven c A1 k1 _ _ _ _ tx nu a b W hbo ha htx
    · exact constant_ref c A1 k1 _ _ _ _ 9 tx nu a b W hbo ha hb (fun k hk => ⟨(hF.pool k hk).1, (hF.pool k hk).2.1⟩) htx (.inl rfl)
    · exact constant_ref c A1 k1 _ _ _ _ 10 tx nu a b W hbo ha hb (fun k hk => ⟨(hF.pool k hk).1, (hF.pool k hk).2.1⟩) htx (.inr (.inl rfl))
    · exact constant_ref c A1 k1 _ _ _ _ 11 tx nu a b W hbo ha hb (fun k hk => ⟨(hF.pool k hk).1, (hF.pool k hk).2.1⟩) htx (.inr (.inr rfl))
    · exact constant_twelve c A1 k1 _ _ _ _ tx nu a b W hbo ha hb htx
  · obtain ⟨A1, k1, rfl, q1, z1⟩ := sl_len hW.hpool
    obtain ⟨A2, k2, rfl, q2, z2⟩ := sl_len hW.hifs
    obtain ⟨A3, k3, rfl, q3, z3⟩ := sl_len hW.hflds
    obtain ⟨ms, m1, m2, m3⟩ := hW.hmths
    obtain ⟨A4, k4, rfl, q4, z4⟩ := sl_len m2
    have hx' := hF.flds x (List.mem_of_getElem? hx)
    have hl := seenFl_len c.pool c.acc (c.flds.take k) []
    have hl2 : (c.flds.take k).length ≤ c.flds.length := List.length_take_le' _ _
    have hst : seenFl c.pool c.acc (c.flds.take (k + 1)) = if fldBad c.pool c.acc x then seenFl c.pool c.acc (c.flds.take k) else nmOf c.pool x.name x.desc :: seenFl c.pool c.acc (c.flds.take k) := by
      obtain ⟨hlt, hg⟩ := List.getElem?_eq_some_iff.1 hx
      rw [List.take_succ_eq_append_getElem hlt, hg]
      unfold seenFl
      rw [List.foldl_append]
      rfl
    rw [hst]
    exact field_book c A1 k1 _ _ _ _ x b _ W ⟨hW.hpool, rfl, rfl, rfl⟩ hs (by unfold seenFl; simp only [List.length_nil] at hl; omega) hx'.1 hx'.2.1 hx'.2.2 htx
  · obtain ⟨A1, k1, rfl, q1, z1⟩ := sl_len hW.hpool
    obtain ⟨A2, k2, rfl, q2, z2⟩ := sl_len hW.hifs
    obtain ⟨A3, k3, rfl, q3, z3⟩ := sl_len hW.hflds
    obtain ⟨ms, m1, m2, m3⟩ := hW.hmths
    obtain ⟨A4, k4, rfl, q4, z4⟩ := sl_len m2
    have hx' := hF.mths x (List.mem_of_getElem? hx)
    have hl := seenM_len c.pool c.acc (c.mths.take k) []
    have hl2 : (c.mths.take k).length ≤ c.mths.length := List.length_take_le' _ _
    have hst : seenMt c.pool c.acc (c.mths.take (k + 1)) = if mthBad c.pool c.acc x then seenMt c.pool c.acc (c.mths.take k) else nmOf c.pool x.name x.desc :: seenMt c.pool c.acc (c.mths.take k) := by
      obtain ⟨hlt, hg⟩ := List.getElem?_eq_some_iff.1 hx
      rw [List.take_succ_eq_append_getElem hlt, hg]
      unfold seenMt
      rw [List.foldl_append]
      rfl
    rw [hst]
    exact method_book c A1 k1 _ _ _ _ _ x cv tv b _ W ⟨hW.hpool, rfl, rfl, rfl⟩ hM hs (by unfold seenMt; simp only [List.length_nil] at hl; omega) hx'.1 hx'.2.1 (fun t ht => (hx'.2.2.2.2 t ht).2.2.2) htx
end Go.Proofs.YtlcidkiplidamaaDoor
namespace Go.Proofs
def Tryd.maxB : Nat := 0
end Go.Proofs
set_option maxRecDepth 100000
set_option maxHeartbeats 2000000
namespace Go.Proofs.YtlcidkiplidamaaDoor
open Go Go.RowKit Lib Go.Maps
theorem wpl_load_pre {P : Program} {ops : Array Oper} {rest : List Oper} {o : Oper} {a : Act} {w : World} {Q : Exit → Act → World → Prop} (hgd : o.guard = none) (ty : TypeId) (x : Operand) (ho : o.op = .load ty x) (g : Nat) (hx : a.eval x = .pointer (some ⟨g, 0, none⟩)) (l : List Value)
    (hc : ∀ j v, l[j]? = some v → w.cell? ⟨g, j, none⟩ = some v) (d : TypeDesc) (hu : P.underlying ty = some d) (hd : (match d with | .struct _ | .array _ _ => true | _ => false) = true) (hi : (P.info? ty).map (·.size) = some l.length) (h : wpList P ops Q rest (a.put o.dst (.agg l.toArray)) w) : wpList P ops Q (o :: rest) a w := by
  have hl : (loadCells ⟨g, 0, none⟩ l.length).run P w = .ok l.toArray w :=
    run_loadCells_list (P := P) w ⟨g, 0, none⟩ l (fun j v hv => by
      have hadd : (⟨g, 0, none⟩ : Addr).add j = ⟨g, j, none⟩ := by unfold Addr.add; split <;> simp_all
      rw [hadd]
      exact hc j v hv)
  have hv : (loadVar ty ⟨g, 0, none⟩).run P w = .ok (.agg l.toArray) w := by
    cases hq : P.info? ty with
    | none => simp [hq] at hi
    | some i =>
      have hs : i.size = l.length := by simpa [hq] using hi
      have hagg : (isAgg ty).run P w = .ok true w := by
        unfold isAgg
        rw [Sem.run_bind, run_underlying hu w]
        cases d <;> simp_all
      simp [loadVar, Sem.run_bind, hagg, sizeOf, typeInfo, hq, hs, hl]
  refine wpList_plain hgd fun K hK => ?_
  unfold Oper.wp execOp
  simp only [ho, hx, Instr.loadAt, Instr.sureAddr, Sem.run_bind, Sem.run_pure, Result.andThen_ok, hv]
  exact hK _ _ h
def zeroA : List Value := [.int .i64 0, .int .i64 0, .slice none 0 0, .int .i64 0, .int .i64 0, .int .i64 0, .slice none 0 0, .slice none 0 0, .slice none 0 0]
theorem resultsA {P : Program} {fn : Func} {tmps : Array Value} {a b c : Tmp} {T U V : TypeId} {g p q : Nat} {vs : List Value} {x y : Value} {t u v : TypeId} {w : World} {d d1 d2 : TypeDesc} (hr : fn.results = #[.cell a T, .cell b U, .cell c V])
    (ha : tmps.getD a undef = .pointer (some ⟨g, 0, none⟩)) (hb : tmps.getD b undef = .pointer (some ⟨p, 0, none⟩)) (hc : tmps.getD c undef = .pointer (some ⟨q, 0, none⟩)) (h1 : Bx w g vs t) (h2 : Bx w p [x] u) (h3 : Bx w q [y] v)
    (hu : P.underlying T = some d) (hd : (match d with | .struct _ | .array _ _ => true | _ => false) = true) (hi : (P.info? T).map (·.size) = some vs.length)
    (hu1 : P.underlying U = some d1) (hd1 : (match d1 with | .struct _ => true | .array _ _ => true | _ => false) = false) (hu2 : P.underlying V = some d2) (hd2 : (match d2 with | .struct _ => true | .array _ _ => true | _ => false) = false) :
    (results fn tmps).run P w = .ok (.tuple #[.agg vs.toArray, x, y]) w := by
  have k1 := run_loadVar_row (P := P) w g t T vs.toArray (0, 0) d h1 hu hd (by simpa using hi)
  have k2 : (loadVar U ⟨p, 0, none⟩).run P w = .ok x w := by
    have := h2.cell 0 rfl
    simp only [loadVar, isAgg, run_underlying hu1, Sem.run_bind, Result.andThen]
    cases d1 <;> simp_all [go_sem]
  have k3 : (loadVar V ⟨q, 0, none⟩).run P w = .ok y w := by
    have := h3.cell 0 rfl
    simp only [loadVar, isAgg, run_underlying hu2, Sem.run_bind, Result.andThen]
    cases d2 <;> simp_all [go_sem]
  unfold results
  rw [hr]
  rw [Array.getD_eq_getD_getElem?] at ha hb hc
  simp [ha, hb, hc, asAddr, k1, k2, k3, Result.andThen]
def AsmPost (w : World) (p : Except (Nat × Int) ClassV) (e : Ending) (w' : World) : Prop :=
  Below w.heap.size w w' ∧ match p with
    | .ok c => ∃ ρ B kb σ V, w.heap.size ≤ B ∧ σ.c = c ∧ AsSm σ 900000 ∧ MkC w' ρ B kb σ V ∧ e = .returned (.tuple #[.agg (c.cells V.pv V.iv V.fv V.tv).toArray, .int .i64 0, .int .i64 0])
    | .error (n, er) => e = .returned (.tuple #[.agg zeroA.toArray, .int .i64 n, .int .i64 er])
theorem asmpost_err {w w' : World} {p : Except (Nat × Int) ClassV} {n : Nat} {er : Int} {e : Ending} (hp : p = .error (n, er)) (he : e = .returned (.tuple #[.agg zeroA.toArray, .int .i64 n, .int .i64 er])) (hb : Below w.heap.size w w') : AsmPost w p e w' := by
  subst hp
  exact ⟨hb, he⟩
theorem asmpost_ok {w w' : World} {p : Except (Nat × Int) ClassV} {c : ClassV} {ρ : Nat → Nat} {B kb : Nat} {σ : AsK} {V : MkV} {e : Ending} (hp : p = .ok c) (hB : w.heap.size ≤ B) (hc : σ.c = c) (hs : AsSm σ 900000) (hm : MkC w' ρ B kb σ V) (he : e = .returned (.tuple #[.agg (c.cells V.pv V.iv V.fv V.tv).toArray, .int .i64 0, .int .i64 0])) (hb : Below w.heap.size w w') : AsmPost w p e w' := by
  subst hp
  exact ⟨hb, ρ, B, kb, σ, V, hB, hc, hs, hm, he⟩
theorem class_mk {w : World} {ρ : Nat → Nat} {B kb : Nat} {σ : AsK} {V : MkV} (h : MkC w ρ B kb σ V) {N : Nat} (hs : AsSm σ N) (hN : N ≤ 900000) : ClassAt w (fun g => B ≤ g ∧ g < w.heap.size) σ.c V.pv V.iv V.fv V.tv where
  hpool := slAt_own h.pool.1 _ (by omega) (by have := hs.npool; omega) fun g hg => h.pool.1.lt g hg
  hifs := slAt_own h.ifs.1 _ (by omega) (by have := hs.nifs; omega) fun g hg => h.ifs.1.lt g hg
  hflds := slAt_own h.flds.1 _ (by omega) (by have := hs.nflds; omega) fun g hg => h.flds.1.lt g hg
  hmths := by
    obtain ⟨ms, m1, m2, m3⟩ := h.mths
    have hl : ms.length ≤ 1048576 := by
      have h1 := congrArg List.length m1
      rw [List.length_map] at h1
      have := hs.nmths
      have h2 : ms.length = σ.c.mths.length := h1
      omega
    have hlw : ∀ g, g < w.heap.size → ρ g = 7 → B ≤ g ∧ g < w.heap.size := fun g _ hg => h.low g (by omega)
    have he : ms.length = σ.c.mths.length := by rw [← m1, List.length_map]
    exact ⟨ms, m1, by rw [← he]; exact slAt_own m2.1 _ (by omega) hl fun g hg => m2.1.lt g hg, fun q hq => ⟨(m3 q hq).hcode.mono hlw, (m3 q hq).htraps.mono hlw⟩⟩
theorem below_of_butA {B B' : Nat} {S : List Nat} {w w' : World} (h : But B S w w') (hB : B' ≤ B) (hS : ∀ k ∈ S, B' ≤ k) : Below B' w w' := (h.mono (S' := []) hB (fun k hk hm => by have := hS k hm; omega)).below
theorem doLine_eq (σ : AsK) (s : ByteArray) : σ.doLine s = if aWords s = [] ∨ ((aWords s).headD ⟨#[]⟩).data.toList.headD 0 = 35 then .ok σ else match σ.m with
    | some m => σ.inside m (aWords s)
    | none => match σ.outside (aWords s) with
      | none => .error σ.line
      | some x => .ok x := rfl
theorem doLine_none {σ : AsK} {s : ByteArray} (hn : ¬ (aWords s = [] ∨ ((aWords s).headD ⟨#[]⟩).data.toList.headD 0 = 35)) (hm : σ.m = none) (h : σ.outside (aWords s) = none) : σ.doLine s = .error σ.line := by
  rw [doLine_eq, if_neg hn, hm]
  simp only [h]
theorem doLine_some {σ σ' : AsK} {s : ByteArray} (hn : ¬ (aWords s = [] ∨ ((aWords s).headD ⟨#[]⟩).data.toList.headD 0 = 35)) (hm : σ.m = none) (h : σ.outside (aWords s) = some σ') : σ.doLine s = .ok σ' := by
  rw [doLine_eq, if_neg hn, hm]
  simp only [h]
theorem doLine_in {σ : AsK} {m : AsM} {s : ByteArray} (hn : ¬ (aWords s = [] ∨ ((aWords s).headD ⟨#[]⟩).data.toList.headD 0 = 35)) (hm : σ.m = some m) : σ.doLine s = σ.inside m (aWords s) := by
  rw [doLine_eq, if_neg hn, hm]
theorem run_next {l : List ByteArray} {i : Nat} {σ x : AsK} {s : ByteArray} (hs : l[i]? = some s) (h : AsK.doLine { σ with line := i + 1 } s = .ok x) : aRun (l.drop i) i σ = aRun (l.drop (i + 1)) (i + 1) x := by
  have hlt := (List.getElem?_eq_some_iff.1 hs).1
  rw [List.drop_eq_getElem_cons hlt, (List.getElem?_eq_some_iff.1 hs).2, aRun, h]
theorem run_stop {l : List ByteArray} {i n : Nat} {σ : AsK} {s : ByteArray} (hs : l[i]? = some s) (h : AsK.doLine { σ with line := i + 1 } s = .error n) : aRun (l.drop i) i σ = .error n := by
  have hlt := (List.getElem?_eq_some_iff.1 hs).1
  rw [List.drop_eq_getElem_cons hlt, (List.getElem?_eq_some_iff.1 hs).2, aRun, h]
theorem lines_of (s : ByteArray) : ∃ L z, Lib.splitB ⟨#[10]⟩ 0 (Lib.countB s ⟨#[10]⟩) s = L ++ [z] ∧ L.length = Lib.countB s ⟨#[10]⟩ ∧ aLines s = if z.size = 0 then L else L ++ [z] := by
  have hlen := Lib.splitB_all ⟨#[10]⟩ (by decide) 0 (Lib.countB s ⟨#[10]⟩) s rfl
  rcases List.eq_nil_or_concat (Lib.splitB ⟨#[10]⟩ 0 (Lib.countB s ⟨#[10]⟩) s) with h | ⟨L, z, h⟩
  · rw [h] at hlen; simp at hlen
  · rw [List.concat_eq_append] at h
    refine ⟨L, z, h, ?_, ?_⟩
    · rw [h] at hlen; simpa using hlen
    · unfold aLines
      simp only [h, List.getLastD_eq_getLast?, List.getLast?_concat, Option.getD_some, List.dropLast_concat]
theorem wd_own {w : World} {ρ : Nat → Nat} {B : Nat} {v : Value} {ws : List ByteArray} (h : w.ownsRow B 9 1 v ws.length (ws.map Value.string)) (hr : ∀ g, v.ownBlock = some g → ρ g = 0) : ∃ A cap, v = .slice A ws.length cap ∧ WdA w (Un ρ) A ws.length cap ws := by
  obtain ⟨A, cap, e⟩ := own_slice h
  subst e
  refine ⟨A, cap, rfl, rfl, ?_, ?_, fun h0 => ?_⟩
  · rcases h.2 with h2 | ⟨g, cap', cur, e, h3, h4, h5, h6, _⟩
    · have := h2.1
      injection this with _ h7 h8
      omega
    · injection e with _ _ h8
      omega
  · rcases h.2 with h2 | ⟨g, cap', cur, e, h3, h4, h5, h6, _⟩
    · have := h2.1
      injection this with _ h7 h8
      omega
    · injection e with _ _ h8
      simp only [maxLen] at h6
      omega
  · obtain ⟨g, cap', e⟩ : ∃ g cap', Value.slice A ws.length cap = .slice (some ⟨g, 0, none⟩) ws.length cap' := by
      rcases Go.Joins.ownsRow_forms h with ⟨_, h9⟩ | ⟨g, cap', e⟩
      · omega
      · exact ⟨g, cap', e⟩
    injection e with e1 _ e2
    subst e1
    refine ⟨g, 0, rfl, (h.lt g rfl).2, hr g rfl, fun j s hs => ?_⟩
    have hlt := (List.getElem?_eq_some_iff.1 hs).1
    have := h.cellAt j (by omega)
    rw [Nat.zero_add, this]
    simp [hs]
theorem mk_new {w : World} {B kb mb : Nat} (hk : kb < w.heap.size) (hm : mb < w.heap.size) (hkb : B ≤ kb) (hmb : B ≤ mb) (hne : kb ≠ mb) (hbox : Bx w kb [.int .i64 0, .int .i64 52, .slice none 0 0, .int .i64 0, .int .i64 0, .int .i64 0, .slice none 0 0, .slice none 0 0, .slice none 0 0, .map (some mb), .int .i64 0, .int .i64 0, .pointer none] 50) (hmap : PoolM w mb []) (hB : B ≤ w.heap.size) :
    MkC w (paint (paint (fun _ => 0) kb 1) mb 2) B kb .new ⟨.slice none 0 0, .slice none 0 0, .slice none 0 0, .slice none 0 0, mb, .pointer none⟩ where
  low := fun g hg => by
    by_cases h1 : g = mb
    · subst h1; exact ⟨hmb, hm⟩
    · rw [paint_other h1] at hg
      by_cases h2 : g = kb
      · subst h2; exact ⟨hkb, hk⟩
      · rw [paint_other h2] at hg
        exact absurd rfl hg
  hB := hB
  box := hbox
  kc := by rw [paint_other hne]; exact paint_same _ _ _
  map := hmap
  mc := paint_same _ _ _
  pool := ownC_nil _ _ _ _ _ _
  ifs := ownC_nil _ _ _ _ _ _
  flds := ownC_nil _ _ _ _ _ _
  mths := ⟨[], rfl, ownC_nil _ _ _ _ _ _, fun q hq => by cases hq⟩
theorem cut_le : ∀ (l x : List UInt8), x ∈ cutL l → x.length ≤ l.length
  | [], x, h => by
    rw [cutL] at h
    simp at h
    subst h
    simp
  | c :: l, x, h => by
    rw [cutL] at h
    split at h
    · rcases List.mem_cons.1 h with rfl | h
      · simp
      · exact Nat.le_trans (cut_le l x h) (by simp)
    · split at h
      · rename_i h0
        exact absurd h0 (cutL_ne l)
      · rename_i a r h0
        rcases List.mem_cons.1 h with rfl | h
        · have := cut_le l a (by rw [h0]; simp)
          simp
          omega
        · exact Nat.le_trans (cut_le l x (by rw [h0]; simp [h])) (by simp)
theorem line_le {text s : ByteArray} (h : s ∈ aLines text) : s.size ≤ text.size := by
  have h1 := lines_list text
  have h2 : s.data.toList ∈ linesL text.data.toList := by rw [← h1]; exact List.mem_map.2 ⟨s, h, rfl⟩
  have e1 : s.data.toList.length = s.size := Array.length_toList
  have e2 : text.data.toList.length = text.size := Array.length_toList
  rw [← e1, ← e2]
  unfold linesL at h2
  split at h2
  · exact cut_le _ _ ((List.dropLast_sublist _).mem h2)
  · exact cut_le _ _ h2
theorem asm_stop {ck : ClassV → Int} {text : ByteArray} {n : Nat} (hb : ¬ (262144 < text.size ∨ 8000 < (aLines text).length)) (h : aRun (aLines text) 0 .new = .error n) : aAsm ck text = .error (n, 60) := by
  unfold aAsm
  rw [if_neg hb, h]
theorem asm_open {ck : ClassV → Int} {text : ByteArray} {σ : AsK} {m : AsM} (hb : ¬ (262144 < text.size ∨ 8000 < (aLines text).length)) (h : aRun (aLines text) 0 .new = .ok σ) (hm : σ.m = some m) : aAsm ck text = .error (m.line, 60) := by
  unfold aAsm
  rw [if_neg hb, h]
  simp only [hm]
theorem asm_none {ck : ClassV → Int} {text : ByteArray} {σ : AsK} (hb : ¬ (262144 < text.size ∨ 8000 < (aLines text).length)) (h : aRun (aLines text) 0 .new = .ok σ) (hm : σ.m = none) (hp : σ.part = 0) : aAsm ck text = .error (0, 60) := by
  unfold aAsm
  rw [if_neg hb, h]
  simp only [hm, if_pos hp]
theorem asm_bad {ck : ClassV → Int} {text : ByteArray} {σ : AsK} (hb : ¬ (262144 < text.size ∨ 8000 < (aLines text).length)) (h : aRun (aLines text) 0 .new = .ok σ) (hm : σ.m = none) (hp : σ.part ≠ 0) (hk : ck σ.object.c ≠ 0) : aAsm ck text = .error (0, ck σ.object.c) := by
  unfold aAsm
  rw [if_neg hb, h]
  simp only [hm, if_neg hp, if_pos hk]
theorem asm_good {ck : ClassV → Int} {text : ByteArray} {σ : AsK} (hb : ¬ (262144 < text.size ∨ 8000 < (aLines text).length)) (h : aRun (aLines text) 0 .new = .ok σ) (hm : σ.m = none) (hp : σ.part ≠ 0) (hk : ck σ.object.c = 0) : aAsm ck text = .ok σ.object.c := by
  unfold aAsm
  rw [if_neg hb, h]
  simp only [hm, if_neg hp]
  rw [if_neg (by rw [hk]; simp)]
theorem mk_pre {w : World} {g : Nat} {σ : AsK} {V : MkV} (h : Bx w g (mkCells σ V) 50) (j : Nat) (v : Value) (hv : (σ.c.cells V.pv V.iv V.fv V.tv)[j]? = some v) : w.cell? ⟨g, j, none⟩ = some v := by
  refine h.cell j ?_
  show (σ.c.cells V.pv V.iv V.fv V.tv ++ [.map (some V.mb), .int .i64 σ.part, .int .i64 σ.line, V.mv])[j]? = some v
  rw [List.getElem?_append_left (List.getElem?_eq_some_iff.1 hv).1]
  exact hv
theorem cells_one {w : World} {ρ : Nat → Nat} {B kb : Nat} {σ : AsK} {V : MkV} (h : MkC w ρ B kb σ V) : ((σ.c.cells V.pv V.iv V.fv V.tv).toArray.all (·.oneCell')) = true := by
  obtain ⟨A1, k1, e1⟩ := own_slice h.pool.1
  obtain ⟨A2, k2, e2⟩ := own_slice h.ifs.1
  obtain ⟨A3, k3, e3⟩ := own_slice h.flds.1
  obtain ⟨ms, m1, m2, m3⟩ := h.mths
  obtain ⟨A4, k4, e4⟩ := own_slice m2.1
  rw [e1, e2, e3, e4]
  simp [ClassV.cells, Value.oneCell']
theorem object_c0 (σ : AsK) : ({ σ with line := 0 } : AsK).object.c = σ.object.c := by
  unfold AsK.object
  split <;> rfl
theorem below_rowA {B : Nat} {a w : World} (h : Below B a w) (g : Nat) (cs : Array Value) (hg : B ≤ g) : Below B a (w.setRow g cs) := h.trans ⟨rfl, rfl, rfl, by simp, fun k hk => setRow_other w g k cs (by omega)⟩
theorem chg0_row {w : World} {ρ : Nat → Nat} {g : Nat} (hg : ρ g = 0) (cs : Array Value) : Chg [0] w ρ (w.setRow g cs) ρ :=
  ⟨rfl, rfl, rfl, by simp, fun q hq hc => ⟨setRow_other w g q cs (by rintro rfl; exact hc (by rw [hg]; simp)), rfl⟩⟩
theorem chg0_cell {w W : World} {ρ : Nat → Nat} (h : Chg [0] w ρ W ρ) {p : Addr} (hp : ρ p.block = 0) (v : Value) : Chg [0] w ρ (W.setCell p v) ρ :=
  ⟨h.os, h.tape, h.output, by simpa using h.size, fun q hq hc => ⟨(Below.heap_setCell _ _ _ _ (by rintro rfl; exact hc (by rw [hp]; simp))).trans (h.blk q hq hc).1, rfl⟩⟩
end Go.Proofs.YtlcidkiplidamaaDoor
