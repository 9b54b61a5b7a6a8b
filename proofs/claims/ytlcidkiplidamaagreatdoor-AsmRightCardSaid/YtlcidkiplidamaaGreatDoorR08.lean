/-
  What the laws rest on, part 8: walks of the program's functions and plain laws. Conditions: none but those that each theorem names.
-/
import Derived.Test.YtlcidkiplidamaaGreatDoorR07
import Derived.WalkMore
import Derived.ScopeJumps
import Derived.Test.YtlcidkiplidamaaGreatDoorR06
import Derived.Test.YtlcidkiplidamaaGreatDoorR01
import Derived.Test.YtlcidkiplidamaaGreatDoorR03
set_option linter.unusedSimpArgs false
set_option linter.unusedVariables false
set_option maxRecDepth 100000
set_option maxHeartbeats 2000000
namespace Go.Proofs.YtlcidkiplidamaaGreatDoor
open Go Go.RowKit Lib
def firstE {α:Type} (f:α→Int):List α→Int
 | []=>0
 |x::r=>if f x≠0 then f x else firstE f r
def firstS {α:Type} (f:List α→α→Int):List α→List α→Int
 |_, []=>0
 |d,x::r=>if f d x≠0 then f d x else firstS f (d++ [x]) r
def checkE (conE:Ko→Int) (fldE:List FieldV→FieldV→Int) (mthE:List MethV→MethV→Int) (c:ClassV):Int:=if longC c=true then 2 else if c.major<45∨52<c.major then 12 else
 if firstE conE c.pool≠0 then firstE conE c.pool else if headE c≠0 then headE c else if firstS fldE [] c.flds≠0 then firstS fldE [] c.flds else firstS mthE [] c.mths
theorem firstE_more {α:Type} {f:α→Int} {l:List α} {k:Nat} {x:α} (h:l[k]?=some x):firstE f (l.drop k)=if f x≠0 then f x else firstE f (l.drop (k+1)):=by
 have hlt:=(List.getElem?_eq_some_iff.1 h).1
 rw [List.drop_eq_getElem_cons hlt,(List.getElem?_eq_some_iff.1 h).2,firstE]
theorem firstS_more {α:Type} {f:List α→α→Int} {l:List α} {k:Nat} {x:α} (h:l[k]?=some x):firstS f (l.take k) (l.drop k)=if f (l.take k) x≠0 then f (l.take k) x else firstS f (l.take (k+1)) (l.drop (k+1)):=by
 have hlt:=(List.getElem?_eq_some_iff.1 h).1
 rw [List.drop_eq_getElem_cons hlt,(List.getElem?_eq_some_iff.1 h).2,firstS,List.take_succ_eq_append_getElem hlt,(List.getElem?_eq_some_iff.1 h).2]
theorem long_any (c:ClassV) (p i f m:Value) (ok:Nat→Prop) (w:World) (h:ClassAt w ok c p i f m):
  Calls Tryz.prog 35 #[bookV c p i f m] w fun e w'=>e= .returned (.bool (longC c))∧Below w.heap.size w w':=by
 by_cases hl:1024<c.pool.length∨64<c.ifs.length∨64<c.flds.length∨64<c.mths.length
 ·refine(long_rows c p i f m ok w h hl).mono fun e w' hq=> ⟨hq.1.trans ?_,hq.2⟩
  have:longC c=true:=by unfold longC;simp;omega
  rw [this]
 ·refine(long_meths c p i f m ok w h (by omega) (by omega) (by omega) (by omega)).mono fun e w' hq=> ⟨hq.1.trans ?_,hq.2⟩
  have e1: ¬1024<c.pool.length:=by omega
  have e2: ¬64<c.ifs.length:=by omega
  have e3: ¬64<c.flds.length:=by omega
  have e4: ¬64<c.mths.length:=by omega
  have:longC c=c.mths.any longM:=by unfold longC;simp [e1,e2,e3,e4]
  rw [this]
structure SeenC (α:Type) (F:List α→Nat→World→Prop):Prop where
 new: ∀W b,W.heap[b]?=some (.map #[] 0)→F [] b W
 keep: ∀fs b W W',F fs b W→W'.heap[b]?=W.heap[b]?→F fs b W'
theorem fld_cells {w:World} {ok:Nat→Prop} {l:List FieldV} {A:Option Addr} {cap:Nat} (h:SlAt w ok 4 l.length (l.flatMap FieldV.cells) (.slice A l.length cap)): ∀(k:Nat) (x:FieldV),l[k]?=some x→ ∃b off,A=some ⟨b,off,none⟩∧b<w.heap.size∧
  w.cell? ⟨b,off+k*4,none⟩=some (.int .i64 x.acc)∧w.cell? ⟨b,off+k*4+1,none⟩=some (.int .i64 x.name)∧w.cell? ⟨b,off+k*4+2,none⟩=some (.int .i64 x.desc)∧w.cell? ⟨b,off+k*4+3,none⟩=some (.int .i64 x.value):=by
 intro k x hk
 obtain⟨A',cap',e,_,_,_,h5⟩:=h
 injection e with e1 _ _
 subst e1
 obtain⟨b,off,e,hlt,_,hc⟩:=h5 (by have:=(List.getElem?_eq_some_iff.1 hk).1;omega)
 have hr:=rows_at FieldV.cells 4 (fun _=>rfl) l k x hk
 exact⟨b,off,e,hlt,hc _ _ ((hr 0 (by omega)).trans rfl),hc _ _ ((hr 1 (by omega)).trans rfl),hc _ _ ((hr 2 (by omega)).trans rfl),hc _ _ ((hr 3 (by omega)).trans rfl)⟩
theorem mth_cells {w:World} {ok:Nat→Prop} {l:List (MethV×Value×Value)} {n:Nat} {A:Option Addr} {cap:Nat} (h:SlAt w ok 8 n (methCells l) (.slice A n cap)) (hn:l.length=n): ∀(k:Nat) (x:MethV) (cv tv:Value),l[k]?=some (x,cv,tv)→ ∃b off,A=some ⟨b,off,none⟩∧b<w.heap.size∧
  w.cell? ⟨b,off+k*8,none⟩=some (.int .i64 x.acc)∧w.cell? ⟨b,off+k*8+1,none⟩=some (.int .i64 x.name)∧w.cell? ⟨b,off+k*8+2,none⟩=some (.int .i64 x.desc)∧w.cell? ⟨b,off+k*8+3,none⟩=some (.bool x.has)∧
  w.cell? ⟨b,off+k*8+4,none⟩=some (.int .i64 x.stack)∧w.cell? ⟨b,off+k*8+5,none⟩=some (.int .i64 x.locals)∧w.cell? ⟨b,off+k*8+6,none⟩=some cv∧w.cell? ⟨b,off+k*8+7,none⟩=some tv:=by
 intro k x cv tv hk
 obtain⟨A',cap',e,_,_,_,h5⟩:=h
 injection e with e1 _ _
 subst e1
 obtain⟨b,off,e,hlt,_,hc⟩:=h5 (by have:=(List.getElem?_eq_some_iff.1 hk).1;omega)
 have hr:=rows_at (fun m:MethV×Value×Value=>m.1.cells m.2.1 m.2.2) 8 (fun _=>rfl) l k (x,cv,tv) hk
 exact⟨b,off,e,hlt,hc _ _ ((hr 0 (by omega)).trans rfl),hc _ _ ((hr 1 (by omega)).trans rfl),hc _ _ ((hr 2 (by omega)).trans rfl),hc _ _ ((hr 3 (by omega)).trans rfl),hc _ _ ((hr 4 (by omega)).trans rfl),hc _ _ ((hr 5 (by omega)).trans rfl),hc _ _ ((hr 6 (by omega)).trans rfl),hc _ _ ((hr 7 (by omega)).trans rfl)⟩
theorem jump_ret (l:Nat) (J:Act→World→Prop) (Q:Exit→Act→World→Prop) (a:Act) (w:World):Exit.jump l J Q .ret a w=Q .ret a w:=rfl
structure ChW (w:World) (cells:List Value) (wk:World):Prop where
 bel:Below w.heap.size w wk
 bc:Bx wk w.heap.size cells 28
 bb:Bx wk (w.heap.size+1) cells 94
theorem ChW.but {w:World} {cells:List Value} {wk wq:World} {S:List Nat} (h:ChW w cells wk) (hb:But wk.heap.size S wk wq) (hS: ∀k∈S,w.heap.size+2≤k):ChW w cells wq:=
 ⟨h.bel.trans ((hb.mono (S':= []) h.bel.size (fun k hk hm=>by have:=hS k hm;omega)).below),h.bc.but hb (fun hm=>by have:=hS _ hm;omega),h.bb.but hb (fun hm=>by have:=hS _ hm;omega)⟩
theorem ChW.below {w:World} {cells:List Value} {wk wq:World} (h:ChW w cells wk) (hb:Below wk.heap.size wk wq):ChW w cells wq:=h.but (S:= []) (But.of_below hb) (by simp)
theorem SeenC.below {α:Type} {F:List α→Nat→World→Prop} (hF:SeenC α F) {fs:List α} {b:Nat} {W W':World} (h:F fs b W) (hb:Below W.heap.size W W') (hl:b<W.heap.size):F fs b W':=hF.keep fs b W W' h (hb.block b hl)
def contE (fldE:List FieldV→FieldV→Int) (mthE:List MethV→MethV→Int) (c:ClassV) (x:Int):Int:=if x≠0 then x else if headE c≠0 then headE c else if firstS fldE [] c.flds≠0 then firstS fldE [] c.flds else firstS mthE [] c.mths
def contF (mthE:List MethV→MethV→Int) (c:ClassV) (x:Int):Int:=if x≠0 then x else firstS mthE [] c.mths
theorem check_any (c:ClassV) (p i f m:Value) (ok:Nat→Prop) (w:World) (h:ClassAt w ok c p i f m) (hok: ∀g,ok g→g<w.heap.size) (hn1:Fine c.this) (hn2:Fine c.sup) (hf: ∀k∈c.pool,Fine k.a) (hfi: ∀n∈c.ifs,Fine n) (hft: ∀k∈c.pool,k.text.size≤65536)
  (conE:Ko→Int) (fldE:List FieldV→FieldV→Int) (mthE:List MethV→MethV→Int) (FS:List FieldV→Nat→World→Prop) (MS:List MethV→Nat→World→Prop) (hFS:SeenC FieldV FS) (hMS:SeenC MethV MS)
  (hcon: ∀k∈c.pool, ∀W,ClassAt W ok c p i f m→Calls Tryz.prog 36 #[bookV c p i f m,koV k] W fun e W'=>e= .returned (.int .i64 (conE k))∧Below W.heap.size W W')
  (hfld: ∀k x,c.flds[k]?=some x→ ∀W b,ClassAt W ok c p i f m→w.heap.size≤b→FS (c.flds.take k) b W→Calls Tryz.prog 38 #[bookV c p i f m,fieldV x, .map (some b)] W fun e W'=>e= .returned (.int .i64 (fldE (c.flds.take k) x))∧But W.heap.size [b] W W'∧FS (c.flds.take (k+1)) b W')
  (hmth: ∀k x,c.mths[k]?=some x→ ∀W b cv tv,ClassAt W ok c p i f m→MethAt W ok x cv tv→w.heap.size≤b→MS (c.mths.take k) b W→Calls Tryz.prog 39 #[bookV c p i f m,methV x cv tv, .map (some b)] W fun e W'=>e= .returned (.int .i64 (mthE (c.mths.take k) x))∧But W.heap.size [b] W W'∧MS (c.mths.take (k+1)) b W'):
  Calls Tryz.prog 17 #[bookV c p i f m] w fun e w'=>e= .returned (.int .i64 (checkE conE fldE mthE c))∧Below w.heap.size w w':=by
 obtain⟨Ap,kp,rfl,hkp1,hkp2⟩:=sl_len h.hpool
 obtain⟨Ai,ki,rfl,hki1,hki2⟩:=sl_len h.hifs
 obtain⟨Af,kf,rfl,hkf1,hkf2⟩:=sl_len h.hflds
 obtain⟨ms,hms1,hms2,hms3⟩:=h.hmths
 obtain⟨Am,km,rfl,hkm1,hkm2⟩:=sl_len hms2
 have H0:=Lib.hid h
 have HMS:=Lib.hid hms1
 have HFS:=Lib.hid hFS
 have HMM:=Lib.hid hMS
 have HN1:=Lib.hid hn1
 have HN2:=Lib.hid hn2
 have HF:=Lib.hid hf
 have HFI:=Lib.hid hfi
 have HFT:=Lib.hid hft
 have HCON:=Lib.hid hcon
 have HFLD:=Lib.hid hfld
 have HMTH:=Lib.hid hmth
 obtain⟨E,hE⟩: ∃E,checkE conE fldE mthE c=E:=⟨_,rfl⟩
 rw [hE]
 have HE:=Lib.hid hE
 have hmm:= @run_makeMap Tryz.prog
 have B1:=Lib.hid (bx_new w [.int .i64 c.minor, .int .i64 c.major, .slice Ap c.pool.length kp, .int .i64 c.acc, .int .i64 c.this, .int .i64 c.sup, .slice Ai c.ifs.length ki, .slice Af c.flds.length kf, .slice Am c.mths.length km] 28)
 have B2:=Lib.hid (bx_new_at (w.alloc (.cells #[.int .i64 c.minor, .int .i64 c.major, .slice Ap c.pool.length kp, .int .i64 c.acc, .int .i64 c.this, .int .i64 c.sup, .slice Ai c.ifs.length ki, .slice Af c.flds.length kf, .slice Am c.mths.length km] 28)) [.int .i64 0, .int .i64 0, .slice none 0 0, .int .i64 0, .int .i64 0, .int .i64 0, .slice none 0 0, .slice none 0 0, .slice none 0 0] 94 (w.heap.size+1) (by simp))
 clear h hn1 hn2 hf hfi hft hcon hfld hmth hms1 hms2 hms3 hFS hMS hE
 rw [bookV_open]
 go_enter Tryz.func17,Tryz.ntmps17
 go_wp2_with fail
 refine wp_scope_jumps 0 (fun a w'=> ∃t:Array Value,a=⟨t, []⟩∧t.size=73∧t[4]?=some (.int .i64 E)∧Hid (Below w.heap.size w w')) (fun _ _=>0) rfl ?_ ?_
 ·go_wp2_with (first
   | (refine wpList_load_row rfl _ _ rfl w.heap.size rfl _ _ _ _ B1.out Tryz.underlying28 rfl (by kernel_rfl) ?_)
   | (refine wpList_store_row rfl _ _ _ rfl (w.heap.size+1) _ rfl rfl _ _ B2.out (by kernel_rfl) rfl (by simp [Value.oneCell']) ?_;refine stop_here ?_))
  refine go_on ?_
  have B3:=Lib.hid (show ChW w [.int .i64 c.minor, .int .i64 c.major, .slice Ap c.pool.length kp, .int .i64 c.acc, .int .i64 c.this, .int .i64 c.sup, .slice Ai c.ifs.length ki, .slice Af c.flds.length kf, .slice Am c.mths.length km] (((w.alloc (.cells ([.int .i64 c.minor, .int .i64 c.major, .slice Ap c.pool.length kp, .int .i64 c.acc, .int .i64 c.this, .int .i64 c.sup, .slice Ai c.ifs.length ki, .slice Af c.flds.length kf, .slice Am c.mths.length km]).toArray 28)).alloc (.cells #[.int .i64 0, .int .i64 0, .slice none 0 0, .int .i64 0, .int .i64 0, .int .i64 0, .slice none 0 0, .slice none 0 0, .slice none 0 0] 94)).setRow (w.heap.size+1) ([.int .i64 c.minor, .int .i64 c.major, .slice Ap c.pool.length kp, .int .i64 c.acc, .int .i64 c.this, .int .i64 c.sup, .slice Ai c.ifs.length ki, .slice Af c.flds.length kf, .slice Am c.mths.length km]).toArray) from
   ⟨(((Below.refl _ _).alloc (Nat.le_refl _) _).alloc (by simp) _).trans ⟨rfl,rfl,rfl,by simp,fun k hk=>setRow_other _ _ _ _ (by omega)⟩,(show _=_ from(setRow_other _ _ _ _ (by omega)).trans (B1.out.below ((Below.refl _ _).alloc (Nat.le_refl _) _) B1.out.lt)),B2.out.row _⟩)
  have hz2:(((w.alloc (.cells ([.int .i64 c.minor, .int .i64 c.major, .slice Ap c.pool.length kp, .int .i64 c.acc, .int .i64 c.this, .int .i64 c.sup, .slice Ai c.ifs.length ki, .slice Af c.flds.length kf, .slice Am c.mths.length km]).toArray 28)).alloc (.cells #[.int .i64 0, .int .i64 0, .slice none 0 0, .int .i64 0, .int .i64 0, .int .i64 0, .slice none 0 0, .slice none 0 0, .slice none 0 0] 94)).setRow (w.heap.size+1) ([.int .i64 c.minor, .int .i64 c.major, .slice Ap c.pool.length kp, .int .i64 c.acc, .int .i64 c.this, .int .i64 c.sup, .slice Ai c.ifs.length ki, .slice Af c.flds.length kf, .slice Am c.mths.length km]).toArray).heap.size=w.heap.size+2:=by simp
  generalize (((w.alloc (.cells ([.int .i64 c.minor, .int .i64 c.major, .slice Ap c.pool.length kp, .int .i64 c.acc, .int .i64 c.this, .int .i64 c.sup, .slice Ai c.ifs.length ki, .slice Af c.flds.length kf, .slice Am c.mths.length km]).toArray 28)).alloc (.cells #[.int .i64 0, .int .i64 0, .slice none 0 0, .int .i64 0, .int .i64 0, .int .i64 0, .slice none 0 0, .slice none 0 0, .slice none 0 0] 94)).setRow (w.heap.size+1) ([.int .i64 c.minor, .int .i64 c.major, .slice Ap c.pool.length kp, .int .i64 c.acc, .int .i64 c.this, .int .i64 c.sup, .slice Ai c.ifs.length ki, .slice Af c.flds.length kf, .slice Am c.mths.length km]).toArray)=w2 at*
  have FS0:=Lib.hid (HFS.out.new (w2.alloc (.map #[] 0)) w2.heap.size (heap_alloc_new _ _))
  have hM:(w2.alloc (.map #[] 0)).heap.size=w2.heap.size+1:=by simp
  have MS0:=Lib.hid (HMM.out.new ((w2.alloc (.map #[] 0)).alloc (.map #[] 0)) (w2.heap.size+1) (by rw [←hM];exact heap_alloc_new _ _))
  have FS1:=Lib.hid (HFS.out.below (W':=(w2.alloc (.map #[] 0)).alloc (.map #[] 0)) FS0.out ((Below.refl _ _).alloc (Nat.le_refl _) _) (by simp))
  have B4:=Lib.hid (B3.out.below (((Below.refl w2.heap.size w2).alloc (Nat.le_refl _) (.map #[] 0)).alloc (by simp) (.map #[] 0)))
  rw [hz2] at MS0 FS1
  clear FS0 hM B1 B2
  go_wp2_with (first
   | (refine wpList_load_row rfl _ _ rfl w.heap.size rfl _ _ _ _ B4.out.bc Tryz.underlying28 rfl (by kernel_rfl) ?_)
   | (go_at_call 35;refine stop_here ?_))
  refine go_on ?_
  refine(long_any c _ _ _ _ ok _ (H0.out.keep (Kept.of_below B4.out.bel))).mono ?_
  rintro e w5 ⟨rfl,hb⟩
  have hz5:=hb.size
  simp only [World.size_alloc] at hz5
  have B5:=Lib.hid (B4.out.below hb)
  have FS5:=Lib.hid (HFS.out.below FS1.out hb (by simp;omega))
  have MS5:=Lib.hid (HMM.out.below MS0.out hb (by simp;omega))
  clear hb B4 FS1 MS0
  by_cases hL:longC c=true
  ·have HE2:=Lib.hid (show E=2 by rw [←HE.out];unfold checkE;rw [if_pos hL])
   rw [hL]
   clear hL
   go_wp2_with fail
   go_step3
   exact⟨rfl,_,rfl,rfl,(by rw [HE2.out];rfl),Lib.hid B5.out.bel⟩
  have HE1:=Lib.hid (show E=if c.major<45∨52<c.major then 12 else contE fldE mthE c (firstE conE c.pool) by rw [←HE.out];unfold checkE contE;rw [if_neg hL])
  rw [show longC c=false by simpa using hL]
  clear hL HE
  have m1:=B5.out.bc.cell 1 rfl
  by_cases hV:c.major<45∨52<c.major
  ·have HE2:=Lib.hid (show E=12 by rw [HE1.out,if_pos hV])
   rcases hV with hV|hV
   ·have hb1:decide (c.major<45)=true:=by simpa using hV
    go_wp2_with fail
    go_step3
    exact⟨rfl,_,rfl,rfl,(by rw [HE2.out];rfl),Lib.hid B5.out.bel⟩
   ·have hb1:decide (c.major<45)=false:=by simp;omega
    have hb2:decide (52<c.major)=true:=by simpa using hV
    go_wp2_with fail
    go_step3
    exact⟨rfl,_,rfl,rfl,(by rw [HE2.out];rfl),Lib.hid B5.out.bel⟩
  have HE2:=Lib.hid (show E=contE fldE mthE c (firstE conE (c.pool.drop 0)) by rw [HE1.out,if_neg hV];rfl)
  have hb1:decide (c.major<45)=false:=by simp;omega
  have hb2:decide (52<c.major)=false:=by simp;omega
  have m2:=B5.out.bc.cell 2 rfl
  clear hV HE1
  go_wp2_with fail
  clear m1 m2
  go_loopw [4,30] (fun e i wr=> ∃k:Nat,k≤c.pool.length∧i= .int .i64 k∧e= .int .i64 0∧w.heap.size+4≤wr.heap.size∧Hid (ChW w [.int .i64 c.minor, .int .i64 c.major, .slice Ap c.pool.length kp, .int .i64 c.acc, .int .i64 c.this, .int .i64 c.sup, .slice Ai c.ifs.length ki, .slice Af c.flds.length kf, .slice Am c.mths.length km] wr)∧Hid (FS [] (w.heap.size+2) wr)∧Hid (MS [] (w.heap.size+2+1) wr)∧Hid (E=contE fldE mthE c (firstE conE (c.pool.drop k)))) (fun e i _=>c.pool.length - (RowKit.intOf i).toNat)
  case atStart=>exact⟨0,by omega,rfl,rfl,by omega,B5,FS5,MS5,HE2⟩
  case round=>
   obtain⟨wr1,hwr⟩: ∃W,W=wr:=⟨_,rfl⟩
   subst hwr
   obtain⟨k,hk,rfl,rfl,hzr,Br,FSr,MSr,HEr⟩:=hrel
   by_cases hlt:k<c.pool.length
   ·obtain⟨x,hx⟩: ∃x,c.pool[k]?=some x:=⟨_,List.getElem?_eq_getElem hlt⟩
    have HR:=Lib.hid (firstE_more (f:=conE) hx)
    have HCX:=Lib.hid (fun W=>HCON.out x (List.mem_of_getElem? hx) W)
    have HRD:=pool_cells (H0.out.keep (Kept.of_below Br.out.bel)).hpool k x hx
    obtain⟨b,off,hAp,hbl,p0,p1,p2,p3,p4⟩:=HRD
    subst hAp
    obtain⟨x1,x2,x3,x4,x5,x6,x7,x8,x9,x10,x11,x12⟩:=far b wr1.heap.size hbl
    clear hx
    go_wp2_with (first
     | (refine wpList_load_row rfl _ _ rfl (w.heap.size+1) rfl _ _ _ _ (Br.out.below ((Below.refl _ _).alloc (Nat.le_refl _) _)).bb Tryz.underlying94 rfl (by kernel_rfl) ?_)
     | (go_at_call 36;refine stop_here ?_))
    refine go_on ?_
    have B6:=Lib.hid (Br.out.below ((Below.refl _ _).alloc (Nat.le_refl _) (.cells #[.int .i64 x.tag, .string x.text, .int .i64 x.num, .int .i64 x.a, .int .i64 x.b] 33)))
    refine(HCX.out _ (H0.out.keep (Kept.of_below B6.out.bel))).mono ?_
    by_cases hc0:conE x=0
    ·rw [hc0] at HR⊢
     rintro e w6 ⟨rfl,hb⟩
     have hz6:=hb.size
     simp only [World.size_alloc] at hz6
     have B7:=Lib.hid (B6.out.below hb)
     have hbb:=Lib.hid (((Below.refl _ _).alloc (Nat.le_refl _) (.cells #[.int .i64 x.tag, .string x.text, .int .i64 x.num, .int .i64 x.a, .int .i64 x.b] 33)).trans (hb.mono (by simp)))
     clear hb hc0 p0 p1 p2 p3 p4
     go_wp2_with fail
     go_roundw
     case rel=>exact⟨k+1,by omega,by go_num,rfl,by omega,B7,Lib.hid (HFS.out.below FSr.out hbb.out (by omega)),Lib.hid (HMM.out.below MSr.out hbb.out (by omega)),Lib.hid (by rw [HEr.out,HR.out];rfl)⟩
     case measure=>simp [RowKit.intOf];omega
    ·have HEx:=Lib.hid (show E=conE x by rw [HEr.out,HR.out,if_pos hc0];unfold contE;rw [if_pos hc0])
     rintro e w6 ⟨rfl,hb⟩
     have B7:=Lib.hid (B6.out.below hb)
     obtain⟨ce,hce⟩: ∃ce,conE x=ce:=⟨_,rfl⟩
     rw [hce] at HEx hc0⊢
     have hbn:(ce !=0)=true:=by simpa using hc0
     clear hb hc0 hce p0 p1 p2 p3 p4
     go_wp2_with fail
     go_step3
     exact⟨rfl,_,rfl,rfl,(by rw [HEx.out];rfl),Lib.hid B7.out.bel⟩
   ·obtain rfl:k=c.pool.length:=by omega
    have HE3:=Lib.hid (show E=if headE c≠0 then headE c else contF mthE c (firstS fldE (c.flds.take 0) (c.flds.drop 0)) by rw [HEr.out,List.drop_length];rfl)
    clear hlt HEr
    go_wp2_with (first
     | (refine wpList_load_row rfl _ _ rfl (w.heap.size+1) rfl _ _ _ _ (Br.out).bb Tryz.underlying94 rfl (by kernel_rfl) ?_)
     | (go_at_call 37;refine stop_here ?_))
    refine go_on ?_
    have HCA:=H0.out.keep (Kept.of_below Br.out.bel)
    refine(head_any c Ap kp _ _ _ ok _ ⟨HCA.hpool,rfl,rfl,rfl⟩ HCA.hifs HN1.out HN2.out HF.out HFI.out HFT.out).mono ?_
    clear HCA
    by_cases hh0:headE c=0
    ·rw [hh0]
     rintro e w6 ⟨rfl,hb⟩
     have HE4:=Lib.hid (show E=contF mthE c (firstS fldE (c.flds.take 0) (c.flds.drop 0)) by rw [HE3.out,if_neg (fun h=>h hh0)])
     have hz6:=hb.size
     have B6:=Lib.hid (Br.out.below hb)
     have FS6:=Lib.hid (HFS.out.below FSr.out hb (by omega))
     have MS6:=Lib.hid (HMM.out.below MSr.out hb (by omega))
     clear hb hh0 HE3 Br FSr MSr
     have m7:=B6.out.bc.cell 7 rfl
     go_wp2_with fail
     clear m7
     go_loopw [4,47] (fun e i wr=> ∃k:Nat,k≤c.flds.length∧i= .int .i64 k∧e= .int .i64 0∧w.heap.size+4≤wr.heap.size∧Hid (ChW w [.int .i64 c.minor, .int .i64 c.major, .slice Ap c.pool.length kp, .int .i64 c.acc, .int .i64 c.this, .int .i64 c.sup, .slice Ai c.ifs.length ki, .slice Af c.flds.length kf, .slice Am c.mths.length km] wr)∧Hid (FS (c.flds.take k) (w.heap.size+2) wr)∧Hid (MS [] (w.heap.size+2+1) wr)∧Hid (E=contF mthE c (firstS fldE (c.flds.take k) (c.flds.drop k)))) (fun e i _=>c.flds.length - (RowKit.intOf i).toNat)
     case atStart=>exact⟨0,by omega,rfl,rfl,by omega,B6,FS6,MS6,HE4⟩
     case round=>
      obtain⟨wr2,hwr⟩: ∃W,W=wr:=⟨_,rfl⟩
      subst hwr
      obtain⟨k,hk,rfl,rfl,hzr2,Br,FSr,MSr,HEr⟩:=hrel
      by_cases hlt:k<c.flds.length
      ·obtain⟨x,hx⟩: ∃x,c.flds[k]?=some x:=⟨_,List.getElem?_eq_getElem hlt⟩
       have HR:=Lib.hid (firstS_more (f:=fldE) hx)
       have HCX:=Lib.hid (fun W b=>HFLD.out k x hx W b)
       have HRD:=fld_cells (H0.out.keep (Kept.of_below Br.out.bel)).hflds k x hx
       obtain⟨b,off,hAp,hbl,p0,p1,p2,p3⟩:=HRD
       subst hAp
       obtain⟨x1,x2,x3,x4,x5,x6,x7,x8,x9,x10,x11,x12⟩:=far b wr2.heap.size hbl
       clear hx
       go_wp2_with (first
        | (refine wpList_load_row rfl _ _ rfl (w.heap.size+1) rfl _ _ _ _ (Br.out.below ((Below.refl _ _).alloc (Nat.le_refl _) _)).bb Tryz.underlying94 rfl (by kernel_rfl) ?_)
        | (go_at_call 38;refine stop_here ?_))
       refine go_on ?_
       have B6:=Lib.hid (Br.out.below ((Below.refl _ _).alloc (Nat.le_refl _) (.cells #[.int .i64 x.acc, .int .i64 x.name, .int .i64 x.desc, .int .i64 x.value] 83)))
       have FS6:=Lib.hid (HFS.out.below FSr.out ((Below.refl _ _).alloc (Nat.le_refl _) (.cells #[.int .i64 x.acc, .int .i64 x.name, .int .i64 x.desc, .int .i64 x.value] 83)) (by omega))
       have MS6:=Lib.hid (HMM.out.below MSr.out ((Below.refl _ _).alloc (Nat.le_refl _) (.cells #[.int .i64 x.acc, .int .i64 x.name, .int .i64 x.desc, .int .i64 x.value] 83)) (by omega))
       refine(HCX.out _ (w.heap.size+2) (H0.out.keep (Kept.of_below B6.out.bel)) (by omega) FS6.out).mono ?_
       by_cases hc0:fldE (c.flds.take k) x=0
       ·rw [hc0] at HR⊢
        rintro e w6 ⟨rfl,hb,hfs⟩
        have hz6:=hb.size
        simp only [World.size_alloc] at hz6
        have B7:=Lib.hid (B6.out.but hb (by simp))
        have FS7:=Lib.hid hfs
        have MS7:=Lib.hid (HMM.out.keep _ _ _ _ MS6.out (hb.block _ (by simp;omega) (by simp)))
        clear hb hc0 p0 p1 p2 p3 hfs
        go_wp2_with fail
        go_roundw
        case rel=>exact⟨k+1,by omega,by go_num,rfl,by omega,B7,FS7,MS7,Lib.hid (by rw [HEr.out,HR.out];rfl)⟩
        case measure=>simp [RowKit.intOf];omega
       ·have HEx:=Lib.hid (show E=fldE (c.flds.take k) x by rw [HEr.out,HR.out,if_pos hc0];unfold contF;rw [if_pos hc0])
        rintro e w6 ⟨rfl,hb,_⟩
        have B7:=Lib.hid (B6.out.but hb (by simp))
        obtain⟨ce,hce⟩: ∃ce,fldE (c.flds.take k) x=ce:=⟨_,rfl⟩
        rw [hce] at HEx hc0⊢
        have hbn:(ce !=0)=true:=by simpa using hc0
        clear hb hc0 hce p0 p1 p2 p3
        go_wp2_with fail
        go_step3
        exact⟨rfl,_,rfl,rfl,(by rw [HEx.out];rfl),Lib.hid B7.out.bel⟩
      ·obtain rfl:k=c.flds.length:=by omega
       have HE4:=Lib.hid (show E=firstS mthE (c.mths.take 0) (c.mths.drop 0) by rw [HEr.out,List.drop_length];rfl)
       have m8:=Br.out.bc.cell 8 rfl
       clear hlt HEr
       go_wp2_with fail
       clear m8
       go_loopw [4,61] (fun e i wr=> ∃k:Nat,k≤c.mths.length∧i= .int .i64 k∧e= .int .i64 0∧w.heap.size+4≤wr.heap.size∧Hid (ChW w [.int .i64 c.minor, .int .i64 c.major, .slice Ap c.pool.length kp, .int .i64 c.acc, .int .i64 c.this, .int .i64 c.sup, .slice Ai c.ifs.length ki, .slice Af c.flds.length kf, .slice Am c.mths.length km] wr)∧Hid (MS (c.mths.take k) (w.heap.size+2+1) wr)∧Hid (E=firstS mthE (c.mths.take k) (c.mths.drop k))) (fun e i _=>c.mths.length - (RowKit.intOf i).toNat)
       case atStart=>exact⟨0,by omega,rfl,rfl,by omega,Br,MSr,HE4⟩
       case round=>
        obtain⟨wr3,hwr⟩: ∃W,W=wr:=⟨_,rfl⟩
        subst hwr
        obtain⟨k,hk,rfl,rfl,hzr3,Br,MSr,HEr⟩:=hrel
        by_cases hlt:k<c.mths.length
        ·obtain⟨ms',e1,e2,e3⟩:=(H0.out.keep (Kept.of_below Br.out.bel)).hmths
         have hml:ms'.length=c.mths.length:=by rw [←e1,List.length_map]
         obtain⟨x,cv,tv,hx⟩: ∃x cv tv,ms'[k]?=some (x,cv,tv):=⟨_,_,_,List.getElem?_eq_getElem (by omega)⟩
         have hx':c.mths[k]?=some x:=by rw [←e1,List.getElem?_map,hx];rfl
         have HME:=Lib.hid (e3 (x,cv,tv) (List.mem_of_getElem? hx))
         have HR:=Lib.hid (firstS_more (f:=mthE) hx')
         have HCX:=Lib.hid (fun W b cv tv=>HMTH.out k x hx' W b cv tv)
         have HRD:=mth_cells e2 hml k x cv tv hx
         obtain⟨Ac,kc,hcv,_⟩:=id HME.out.hcode
         obtain⟨At,kt,htv,_⟩:=id HME.out.htraps
         simp only at hcv htv
         subst hcv
         subst htv
         obtain⟨b,off,hAp,hbl,p0,p1,p2,p3,p4,p5,p6,p7⟩:=HRD
         subst hAp
         obtain⟨x1,x2,x3,x4,x5,x6,x7,x8,x9,x10,x11,x12⟩:=far b wr3.heap.size hbl
         clear hx hx' e1 e2 e3 hml
         go_wp2_with (first
          | (refine wpList_load_row rfl _ _ rfl (w.heap.size+1) rfl _ _ _ _ (Br.out.below ((Below.refl _ _).alloc (Nat.le_refl _) _)).bb Tryz.underlying94 rfl (by kernel_rfl) ?_)
          | (go_at_call 39;refine stop_here ?_))
         refine go_on ?_
         have B6:=Lib.hid (Br.out.below ((Below.refl _ _).alloc (Nat.le_refl _) (.cells #[.int .i64 x.acc, .int .i64 x.name, .int .i64 x.desc, .bool x.has, .int .i64 x.stack, .int .i64 x.locals, .slice Ac x.code.length kc, .slice At x.traps.length kt] 37)))
         have MS6:=Lib.hid (HMM.out.below MSr.out ((Below.refl _ _).alloc (Nat.le_refl _) (.cells #[.int .i64 x.acc, .int .i64 x.name, .int .i64 x.desc, .bool x.has, .int .i64 x.stack, .int .i64 x.locals, .slice Ac x.code.length kc, .slice At x.traps.length kt] 37)) (by omega))
         have HK6:=Lib.hid (Kept.of_below (ok:=ok) ((Below.refl wr3.heap.size wr3).alloc (Nat.le_refl _) (.cells #[.int .i64 x.acc, .int .i64 x.name, .int .i64 x.desc, .bool x.has, .int .i64 x.stack, .int .i64 x.locals, .slice Ac x.code.length kc, .slice At x.traps.length kt] 37)))
         refine(HCX.out _ (w.heap.size+2+1) _ _ (H0.out.keep (Kept.of_below B6.out.bel)) ⟨HME.out.hcode.keep HK6.out,HME.out.htraps.keep HK6.out⟩ (by omega) MS6.out).mono ?_
         by_cases hc0:mthE (c.mths.take k) x=0
         ·rw [hc0] at HR⊢
          rintro e w6 ⟨rfl,hb,hms⟩
          have hz6:=hb.size
          simp only [World.size_alloc] at hz6
          have B7:=Lib.hid (B6.out.but hb (by simp))
          have MS7:=Lib.hid hms
          clear hb hc0 p0 p1 p2 p3 p4 p5 p6 p7 hms
          go_wp2_with fail
          go_roundw
          case rel=>exact⟨k+1,by omega,by go_num,rfl,by omega,B7,MS7,Lib.hid (by rw [HEr.out,HR.out];rfl)⟩
          case measure=>simp [RowKit.intOf];omega
         ·have HEx:=Lib.hid (show E=mthE (c.mths.take k) x by rw [HEr.out,HR.out,if_pos hc0])
          rintro e w6 ⟨rfl,hb,_⟩
          have B7:=Lib.hid (B6.out.but hb (by simp))
          obtain⟨ce,hce⟩: ∃ce,mthE (c.mths.take k) x=ce:=⟨_,rfl⟩
          rw [hce] at HEx hc0⊢
          have hbn:(ce !=0)=true:=by simpa using hc0
          clear hb hc0 hce p0 p1 p2 p3 p4 p5 p6 p7
          go_wp2_with fail
          go_step3
          exact⟨rfl,_,rfl,rfl,(by rw [HEx.out];rfl),Lib.hid B7.out.bel⟩
        ·obtain rfl:k=c.mths.length:=by omega
         have HE5:=Lib.hid (show E=0 by rw [HEr.out,List.drop_length];rfl)
         clear hlt HEr
         go_wp2_with fail
         go_step3
         go_wp2_with fail
         rw [jump_ret]
         go_ret
         exact⟨by rw [HE5.out];rfl,Br.out.bel⟩
    ·have HEx:=Lib.hid (show E=headE c by rw [HE3.out,if_pos hh0])
     rintro e w6 ⟨rfl,hb⟩
     have B7:=Lib.hid (Br.out.below hb)
     obtain⟨ce,hce⟩: ∃ce,headE c=ce:=⟨_,rfl⟩
     rw [hce] at HEx hh0⊢
     have hbn:(ce !=0)=true:=by simpa using hh0
     clear hb hh0 hce HE3
     go_wp2_with fail
     go_step3
     exact⟨rfl,_,rfl,rfl,(by rw [HEx.out];rfl),Lib.hid B7.out.bel⟩
 ·intro a w' ha
  obtain⟨t,rfl,hs,h4,hb⟩:=ha
  go_wp2_with fail
  rw [jump_ret]
  refine bodyPost_ret (v:= .int .i64 E) ?_ rfl ⟨rfl,hb.out⟩
  obtain⟨hlt,h5⟩:=Array.getElem?_eq_some_iff.1 h4
  simp [results,Tryz.results17,h5,hs,go_sem]
set_option maxHeartbeats 1000000
theorem textAt_le {pool:List Ko} {n:Int} {s:ByteArray} (h:textAt pool n=some s) (ht: ∀k∈pool,k.text.size≤65536):s.size≤65536:=by
 unfold textAt at h
 rcases hk:kindAt pool n 1 with _|k
 ·rw [hk] at h
  cases h
 ·rw [hk] at h
  injection h with h
  subst h
  exact ht k (kindAt_mem hk).1
theorem constant_plain (c:ClassV) (p ifs flds mths:Value) (k:Ko) (hk:k.tag=1∨k.tag=3) (w:World):
  Calls Tryz.prog 36 #[bookV c p ifs flds mths,koV k] w fun e w'=>e= .returned (.int .i64 0)∧Below w.heap.size w w':=by
 obtain⟨tag,tx,nu,a,b⟩:=k
 simp only at hk
 rw [bookV_open]
 simp only [koV]
 have HW:=Lib.hid (((Below.refl w.heap.size w).alloc (Nat.le_refl _) (.cells #[.int .i64 c.minor, .int .i64 c.major,p, .int .i64 c.acc, .int .i64 c.this, .int .i64 c.sup,ifs,flds,mths] 94)).alloc (by simp) (.cells #[.int .i64 tag, .string tx, .int .i64 nu, .int .i64 a, .int .i64 b] 33))
 rcases hk with rfl|rfl
 all_goals
  go_enter Tryz.func36,Tryz.ntmps36
  go_wp2
  go_ret
  exact⟨rfl,HW.out⟩
def classE (pool:List Ko) (a:Int):Int:=match textAt pool a with
 |none=>20
 |some s=>if classB s.data.toList then 0 else 21
theorem constant_seven (c:ClassV) (A:Option Addr) (cap:Nat) (ifs flds mths:Value) (ok:Nat→Prop) (tx:ByteArray) (nu a b:Int) (w:World) (h:BookOk w ok c A cap ifs flds mths) (hn:Fine a) (ht: ∀k∈c.pool,k.text.size≤65536):
  Calls Tryz.prog 36 #[bookV c (.slice A c.pool.length cap) ifs flds mths,koV ⟨7,tx,nu,a,b⟩] w fun e w'=>e= .returned (.int .i64 (classE c.pool a))∧Below w.heap.size w w':=by
 have HW0:=Lib.hid (((Below.refl w.heap.size w).alloc (Nat.le_refl _) (.cells #[.int .i64 c.minor, .int .i64 c.major, .slice A c.pool.length cap, .int .i64 c.acc, .int .i64 c.this, .int .i64 c.sup,ifs,flds,mths] 94)).alloc (by simp) (.cells #[.int .i64 7, .string tx, .int .i64 nu, .int .i64 a, .int .i64 b] 33))
 have H0:=Lib.hid (h.below HW0.out)
 have HN:=Lib.hid hn
 rcases hx:textAt c.pool a with _|s
 ·have HX:=Lib.hid hx
  have HP:=Lib.hid (show classE c.pool a=20 by unfold classE;rw [hx])
  clear h hn hx
  rw [bookV_open]
  simp only [koV]
  go_enter Tryz.func36,Tryz.ntmps36
  go_wp2_with (go_at_call 76;refine(text_book c A cap ifs flds mths a ok _ H0.out HN.out).mono ?_;rw [HX.out];rintro e w1 ⟨rfl,hb⟩;simp only [optV,Option.getD_none,Option.isSome_none];have HB:=Lib.hid hb;clear hb)
  go_ret
  exact⟨by rw [HP.out];rfl,HW0.out.trans (HB.out.mono (by simp;omega))⟩
 ·have hsz:=textAt_le hx ht
  have HX:=Lib.hid hx
  obtain⟨z,hz⟩: ∃z,classB s.data.toList=z:=⟨_,rfl⟩
  have HC:=Lib.hid fun W=>class_any s W (by omega)
  rw [hz] at HC
  have HP:=Lib.hid (show classE c.pool a=if z then 0 else 21 by unfold classE;rw [hx];simp only [hz])
  clear h hn hx hz
  rw [bookV_open]
  simp only [koV]
  cases z
  all_goals
   go_enter Tryz.func36,Tryz.ntmps36
   go_wp2_with (first| (go_at_call 76;refine(text_book c A cap ifs flds mths a ok _ H0.out HN.out).mono ?_;rw [HX.out];rintro e w1 ⟨rfl,hb⟩;simp only [optV,Option.getD_some,Option.isSome_some];have HB:=Lib.hid hb;clear hb) | (go_at_call 77;refine(HC.out _).mono ?_;rintro e w2 ⟨rfl,hb2⟩;have HB2:=Lib.hid hb2;clear hb2))
   go_ret
   exact⟨by rw [HP.out];rfl,(HW0.out.trans (HB.out.mono (by simp;omega))).trans (HB2.out.mono (by have:=HB.out.size;simp at this;omega))⟩
def namedAt (pool:List Ko) (n:Int):Option (ByteArray×ByteArray):=(kindAt pool n 12).bind fun k=> (textAt pool k.a).bind fun x=> (textAt pool k.b).map fun y=> (x,y)
def opt2V (o:Option (ByteArray×ByteArray)):Value:= .tuple #[.string ((o.map (·.1)).getD ⟨#[]⟩), .string ((o.map (·.2)).getD ⟨#[]⟩), .bool o.isSome]
theorem results_t3 {P:Program} {fn:Func} {tmps:Array Value} {a b c:Tmp} {x y z:Value} (hr:fn.results= #[.tmp a, .tmp b, .tmp c]) (ha:tmps.getD a undef=x) (hb:tmps.getD b undef=y) (hc:tmps.getD c undef=z) (w:World):(results fn tmps).run P w= .ok (.tuple #[x,y,z]) w:=by
 unfold results
 rw [hr]
 rw [Array.getD_eq_getD_getElem?] at ha hb hc
 simp [ha,hb,hc,Result.andThen]
theorem named_book (c:ClassV) (A:Option Addr) (cap:Nat) (ifs flds mths:Value) (n:Int) (ok:Nat→Prop) (w:World) (h:BookOk w ok c A cap ifs flds mths) (hn:Fine n) (hf: ∀k∈c.pool,Fine k.a∧Fine k.b):
  Calls Tryz.prog 156 #[bookV c (.slice A c.pool.length cap) ifs flds mths, .int .i64 n] w fun e w'=>e= .returned (opt2V (namedAt c.pool n))∧Below w.heap.size w w':=by
 have H:=Lib.hid (h.below ((Below.refl _ _).alloc (Nat.le_refl _) (.cells #[.int .i64 c.minor, .int .i64 c.major, .slice A c.pool.length cap, .int .i64 c.acc, .int .i64 c.this, .int .i64 c.sup,ifs,flds,mths] 94)))
 have X0:=Lib.hid (bx_new w [.int .i64 c.minor, .int .i64 c.major, .slice A c.pool.length cap, .int .i64 c.acc, .int .i64 c.this, .int .i64 c.sup,ifs,flds,mths] 94)
 have W0:=Lib.hid ((Below.refl w.heap.size w).alloc (Nat.le_refl _) (.cells #[.int .i64 c.minor, .int .i64 c.major, .slice A c.pool.length cap, .int .i64 c.acc, .int .i64 c.this, .int .i64 c.sup,ifs,flds,mths] 94))
 have HN:=Lib.hid hn
 have HF:=Lib.hid hf
 have HT:=Lib.hid (show namedAt c.pool n=(kindAt c.pool n 12).bind fun k=> (textAt c.pool k.a).bind fun x=> (textAt c.pool k.b).map fun y=> (x,y) from rfl)
 rcases hx:kindAt c.pool n 12 with _|x
 ·have HX:=Lib.hid hx
  clear h hn hx hf
  rw [bookV_open]
  go_enter Tryz.func156,Tryz.ntmps156
  go_wp2_with (go_at_call 85;refine(at_book c A cap ifs flds mths n 12 ok _ H.out.hp H.out.h1 H.out.h2 H.out.h3 HN.out.2 HN.out.1).mono ?_;rw [HX.out];rintro e w1 ⟨rfl,hb⟩;simp only [kindV,koV,Option.getD_none,Option.getD_some,Option.isSome_none,Option.isSome_some,koZero];have HB:=Lib.hid hb;clear hb)
  refine bodyPost_ret (results_t3 rfl rfl rfl rfl _) rfl ?_
  refine⟨?_,(W0.out.trans (HB.out.mono (by simp))).alloc (by have:=HB.out.size;simp at this;omega) _⟩
  rw [HT.out,HX.out]
  rfl
 ·have HX:=Lib.hid hx
  have HXF:=Lib.hid (HF.out x (kindAt_mem hx).1)
  clear h hn hx hf
  rcases hxa:textAt c.pool x.a with _|sa<;>rcases hxb:textAt c.pool x.b with _|sb
  all_goals
   have HXA:=Lib.hid hxa
   have HXB:=Lib.hid hxb
   clear hxa hxb
   rw [bookV_open]
   go_enter Tryz.func156,Tryz.ntmps156
   go_wp2_with (go_at_call 85;refine(at_book c A cap ifs flds mths n 12 ok _ H.out.hp H.out.h1 H.out.h2 H.out.h3 HN.out.2 HN.out.1).mono ?_;rw [HX.out];rintro e w1 ⟨rfl,hb⟩;simp only [kindV,koV,Option.getD_none,Option.getD_some,Option.isSome_none,Option.isSome_some,koZero];refine stop_here ?_)
   have hz:=hb.size
   simp at hz
   have X1:=Lib.hid ((X0.out.below hb (by simp)).below ((Below.refl w1.heap.size w1).alloc (Nat.le_refl _) (.cells #[.int .i64 x.tag, .string x.text, .int .i64 x.num, .int .i64 x.a, .int .i64 x.b] 33)) (by omega))
   have H1:=Lib.hid ((H.out.below hb).below ((Below.refl w1.heap.size w1).alloc (Nat.le_refl _) (.cells #[.int .i64 x.tag, .string x.text, .int .i64 x.num, .int .i64 x.a, .int .i64 x.b] 33)))
   have Y1:=Lib.hid (bx_new w1 [.int .i64 x.tag, .string x.text, .int .i64 x.num, .int .i64 x.a, .int .i64 x.b] 33)
   have W1:=Lib.hid ((W0.out.trans (hb.mono (by simp))).alloc (by omega) (.cells #[.int .i64 x.tag, .string x.text, .int .i64 x.num, .int .i64 x.a, .int .i64 x.b] 33))
   clear hb H X0 W0
   refine go_on ?_
   go_wp2_with (first
    | (refine wpList_load_row rfl _ _ rfl w.heap.size rfl _ _ _ _ X1.out Tryz.underlying94 rfl (by kernel_rfl) ?_)
    | (go_at_call 76;refine stop_here ?_))
   refine go_on ?_
   refine(text_book c A cap ifs flds mths x.a ok _ H1.out HXF.out.1).mono ?_
   rw [HXA.out]
   rintro e w2 ⟨rfl,hb2⟩
   simp only [optV,Option.getD_none,Option.getD_some,Option.isSome_none,Option.isSome_some]
   have hz2:=hb2.size
   simp at hz2
   have X2:=Lib.hid (X1.out.below hb2 X1.out.lt)
   have Y2:=Lib.hid (Y1.out.below hb2 Y1.out.lt)
   have H2:=Lib.hid (H1.out.below hb2)
   have W2:=Lib.hid (W1.out.trans (hb2.mono W1.out.size))
   have y4:=Y2.out.cell 4 rfl
   clear hb2 X1 Y1 H1 W1
   go_wp2_with (first
    | (refine wpList_load_row rfl _ _ rfl w.heap.size rfl _ _ _ _ X2.out Tryz.underlying94 rfl (by kernel_rfl) ?_)
    | (go_at_call 76;refine(text_book c A cap ifs flds mths x.b ok _ H2.out HXF.out.2).mono ?_;rw [HXB.out];rintro e w3 ⟨rfl,hb3⟩;simp only [optV,Option.getD_none,Option.getD_some,Option.isSome_none,Option.isSome_some];have W3:=Lib.hid (W2.out.trans (hb3.mono W2.out.size));clear hb3))
   refine bodyPost_ret (results_t3 rfl rfl rfl rfl _) rfl ?_
   refine⟨?_,W3.out⟩
   rw [HT.out,HX.out]
   simp only [Option.bind_some,HXA.out,HXB.out,Option.bind_none]
   rfl
theorem mdesc_any (s:ByteArray) (w:World) (hm:s.size≤9223372036854775807):
  Calls Tryz.prog 80 #[.string s] w fun e w'=>e= .returned (.bool (kindsV s).2.2)∧Below w.heap.size w w':=by
 have HK:=Lib.hid (fun W=>kinds_any s W hm)
 obtain⟨⟨a,r,b⟩,hv⟩: ∃v,kindsV s=v:=⟨_,rfl⟩
 rw [hv] at HK⊢
 clear hv
 go_enter Tryz.func80,Tryz.ntmps80
 go_wp2_with (go_at_call 99;refine(HK.out _).mono ?_;rintro e w1 ⟨rfl,hb1⟩;have HB:=Lib.hid hb1;clear hb1)
 go_ret
 exact⟨rfl,HB.out⟩
def namedE (pool:List Ko) (a b:Int):Int:=match textAt pool a,textAt pool b with
 |some s,some d=>if methodNB s.data.toList=false then 21 else if fieldB d.data.toList=false∧(kindsV d).2.2=false then 22 else 0
 |_,_=>20
theorem constant_twelve (c:ClassV) (A:Option Addr) (cap:Nat) (ifs flds mths:Value) (ok:Nat→Prop) (tx:ByteArray) (nu a b:Int) (w:World) (h:BookOk w ok c A cap ifs flds mths) (hn:Fine a) (hn2:Fine b) (ht: ∀k∈c.pool,k.text.size≤65536):
  Calls Tryz.prog 36 #[bookV c (.slice A c.pool.length cap) ifs flds mths,koV ⟨12,tx,nu,a,b⟩] w fun e w'=>e= .returned (.int .i64 (namedE c.pool a b))∧Below w.heap.size w w':=by
 have HW0:=Lib.hid (((Below.refl w.heap.size w).alloc (Nat.le_refl _) (.cells #[.int .i64 c.minor, .int .i64 c.major, .slice A c.pool.length cap, .int .i64 c.acc, .int .i64 c.this, .int .i64 c.sup,ifs,flds,mths] 94)).alloc (by simp) (.cells #[.int .i64 12, .string tx, .int .i64 nu, .int .i64 a, .int .i64 b] 33))
 have X0:=Lib.hid ((bx_new w [.int .i64 c.minor, .int .i64 c.major, .slice A c.pool.length cap, .int .i64 c.acc, .int .i64 c.this, .int .i64 c.sup,ifs,flds,mths] 94).below ((Below.refl (w.heap.size+1) (w.alloc (.cells #[.int .i64 c.minor, .int .i64 c.major, .slice A c.pool.length cap, .int .i64 c.acc, .int .i64 c.this, .int .i64 c.sup,ifs,flds,mths] 94))).alloc (by simp) (.cells #[.int .i64 12, .string tx, .int .i64 nu, .int .i64 a, .int .i64 b] 33)) (by omega))
 have Y0:=Lib.hid (bx_new (w.alloc (.cells #[.int .i64 c.minor, .int .i64 c.major, .slice A c.pool.length cap, .int .i64 c.acc, .int .i64 c.this, .int .i64 c.sup,ifs,flds,mths] 94)) [.int .i64 12, .string tx, .int .i64 nu, .int .i64 a, .int .i64 b] 33)
 have hz0:((w.alloc (.cells #[.int .i64 c.minor, .int .i64 c.major, .slice A c.pool.length cap, .int .i64 c.acc, .int .i64 c.this, .int .i64 c.sup,ifs,flds,mths] 94)).alloc (.cells #[.int .i64 12, .string tx, .int .i64 nu, .int .i64 a, .int .i64 b] 33)).heap.size=w.heap.size+2:=by simp
 have H0:=Lib.hid (h.below HW0.out)
 simp only [World.size_alloc] at Y0
 have HN:=Lib.hid hn
 have HN2:=Lib.hid hn2
 obtain⟨E,hE⟩: ∃E,namedE c.pool a b=E:=⟨_,rfl⟩
 have HE:=Lib.hid hE
 rw [hE]
 clear hE
 rcases hxa:textAt c.pool a with _|sa<;>rcases hxb:textAt c.pool b with _|sb
 ·have HP:=Lib.hid (show E=20 by rw [←HE.out];unfold namedE;rw [hxa,hxb])
  clear h hn hn2
  have HXA:=Lib.hid hxa
  have HXB:=Lib.hid hxb
  clear hxa hxb
  rw [bookV_open]
  simp only [koV]
  go_enter Tryz.func36,Tryz.ntmps36
  go_wp2_with (go_at_call 76;refine stop_here ?_)
  refine go_on ?_
  refine(text_book c A cap ifs flds mths a ok _ H0.out HN.out).mono ?_
  rw [HXA.out]
  rintro e w1 ⟨rfl,hb⟩
  simp only [optV,Option.getD_none,Option.getD_some,Option.isSome_none,Option.isSome_some]
  have hz1:=hb.size
  rw [hz0] at hz1
  have X1:=Lib.hid (X0.out.below hb (by omega))
  have Y1:=Lib.hid (Y0.out.below hb (by omega))
  have H1:=Lib.hid (H0.out.below hb)
  have W1:=Lib.hid (HW0.out.trans (hb.mono (by omega)))
  have y4:=Y1.out.cell 4 rfl
  clear hb X0 Y0 H0 HW0 hz0
  go_wp2_with (first
   | (refine wpList_load_row rfl _ _ rfl w.heap.size rfl _ _ _ _ X1.out Tryz.underlying94 rfl (by kernel_rfl) ?_)
   | (go_at_call 76;refine(text_book c A cap ifs flds mths b ok _ H1.out HN2.out).mono ?_;rw [HXB.out];rintro e w2 ⟨rfl,hb2⟩;simp only [optV,Option.getD_none,Option.getD_some,Option.isSome_none,Option.isSome_some];have W2:=Lib.hid (W1.out.trans (hb2.mono W1.out.size));clear hb2))
  go_ret
  exact⟨by rw [HP.out];rfl,W2.out⟩
 ·have HP:=Lib.hid (show E=20 by rw [←HE.out];unfold namedE;rw [hxa,hxb])
  clear h hn hn2
  have HXA:=Lib.hid hxa
  have HXB:=Lib.hid hxb
  clear hxa hxb
  rw [bookV_open]
  simp only [koV]
  go_enter Tryz.func36,Tryz.ntmps36
  go_wp2_with (go_at_call 76;refine stop_here ?_)
  refine go_on ?_
  refine(text_book c A cap ifs flds mths a ok _ H0.out HN.out).mono ?_
  rw [HXA.out]
  rintro e w1 ⟨rfl,hb⟩
  simp only [optV,Option.getD_none,Option.getD_some,Option.isSome_none,Option.isSome_some]
  have hz1:=hb.size
  rw [hz0] at hz1
  have X1:=Lib.hid (X0.out.below hb (by omega))
  have Y1:=Lib.hid (Y0.out.below hb (by omega))
  have H1:=Lib.hid (H0.out.below hb)
  have W1:=Lib.hid (HW0.out.trans (hb.mono (by omega)))
  have y4:=Y1.out.cell 4 rfl
  clear hb X0 Y0 H0 HW0 hz0
  go_wp2_with (first
   | (refine wpList_load_row rfl _ _ rfl w.heap.size rfl _ _ _ _ X1.out Tryz.underlying94 rfl (by kernel_rfl) ?_)
   | (go_at_call 76;refine(text_book c A cap ifs flds mths b ok _ H1.out HN2.out).mono ?_;rw [HXB.out];rintro e w2 ⟨rfl,hb2⟩;simp only [optV,Option.getD_none,Option.getD_some,Option.isSome_none,Option.isSome_some];have W2:=Lib.hid (W1.out.trans (hb2.mono W1.out.size));clear hb2))
  go_ret
  exact⟨by rw [HP.out];rfl,W2.out⟩
 ·have HP:=Lib.hid (show E=20 by rw [←HE.out];unfold namedE;rw [hxa,hxb])
  clear h hn hn2
  have HXA:=Lib.hid hxa
  have HXB:=Lib.hid hxb
  clear hxa hxb
  rw [bookV_open]
  simp only [koV]
  go_enter Tryz.func36,Tryz.ntmps36
  go_wp2_with (go_at_call 76;refine stop_here ?_)
  refine go_on ?_
  refine(text_book c A cap ifs flds mths a ok _ H0.out HN.out).mono ?_
  rw [HXA.out]
  rintro e w1 ⟨rfl,hb⟩
  simp only [optV,Option.getD_none,Option.getD_some,Option.isSome_none,Option.isSome_some]
  have hz1:=hb.size
  rw [hz0] at hz1
  have X1:=Lib.hid (X0.out.below hb (by omega))
  have Y1:=Lib.hid (Y0.out.below hb (by omega))
  have H1:=Lib.hid (H0.out.below hb)
  have W1:=Lib.hid (HW0.out.trans (hb.mono (by omega)))
  have y4:=Y1.out.cell 4 rfl
  clear hb X0 Y0 H0 HW0 hz0
  go_wp2_with (first
   | (refine wpList_load_row rfl _ _ rfl w.heap.size rfl _ _ _ _ X1.out Tryz.underlying94 rfl (by kernel_rfl) ?_)
   | (go_at_call 76;refine(text_book c A cap ifs flds mths b ok _ H1.out HN2.out).mono ?_;rw [HXB.out];rintro e w2 ⟨rfl,hb2⟩;simp only [optV,Option.getD_none,Option.getD_some,Option.isSome_none,Option.isSome_some];have W2:=Lib.hid (W1.out.trans (hb2.mono W1.out.size));clear hb2))
  go_ret
  exact⟨by rw [HP.out];rfl,W2.out⟩
 ·have hsa:=textAt_le hxa ht
  have hsb:=textAt_le hxb ht
  obtain⟨m1,h1⟩: ∃m,methodNB sa.data.toList=m:=⟨_,rfl⟩
  obtain⟨m2,h2⟩: ∃m,fieldB sb.data.toList=m:=⟨_,rfl⟩
  obtain⟨m3,h3⟩: ∃m,(kindsV sb).2.2=m:=⟨_,rfl⟩
  have HP:=Lib.hid (show E=if m1=false then 21 else if m2=false∧m3=false then 22 else 0 by rw [←HE.out];unfold namedE;rw [hxa,hxb];simp only [h1,h2,h3])
  have C1:=Lib.hid (fun W=>dmethod_any sa W (by omega))
  have C2:=Lib.hid (fun W=>dfield_any sb W (by omega))
  have C3:=Lib.hid (fun W=>mdesc_any sb W (by omega))
  rw [h1] at C1
  rw [h2] at C2
  rw [h3] at C3
  clear h hn hn2 h1 h2 h3
  cases m1<;>cases m2<;>cases m3
  all_goals
   have HXA:=Lib.hid hxa
   have HXB:=Lib.hid hxb
   clear hxa hxb
   rw [bookV_open]
   simp only [koV]
   go_enter Tryz.func36,Tryz.ntmps36
   go_wp2_with (go_at_call 76;refine stop_here ?_)
   refine go_on ?_
   refine(text_book c A cap ifs flds mths a ok _ H0.out HN.out).mono ?_
   rw [HXA.out]
   rintro e w1 ⟨rfl,hb⟩
   simp only [optV,Option.getD_none,Option.getD_some,Option.isSome_none,Option.isSome_some]
   have hz1:=hb.size
   rw [hz0] at hz1
   have X1:=Lib.hid (X0.out.below hb (by omega))
   have Y1:=Lib.hid (Y0.out.below hb (by omega))
   have H1:=Lib.hid (H0.out.below hb)
   have W1:=Lib.hid (HW0.out.trans (hb.mono (by omega)))
   have y4:=Y1.out.cell 4 rfl
   clear hb X0 Y0 H0 HW0 hz0
   go_wp2_with (first
    | (refine wpList_load_row rfl _ _ rfl w.heap.size rfl _ _ _ _ X1.out Tryz.underlying94 rfl (by kernel_rfl) ?_)
    | (go_at_call 76;refine(text_book c A cap ifs flds mths b ok _ H1.out HN2.out).mono ?_;rw [HXB.out];rintro e w2 ⟨rfl,hb2⟩;simp only [optV,Option.getD_none,Option.getD_some,Option.isSome_none,Option.isSome_some];have W2:=Lib.hid (W1.out.trans (hb2.mono W1.out.size));clear hb2)
    | (go_at_call 78;refine(C1.out _).mono ?_;rintro e w3 ⟨rfl,hb3⟩;have W3:=Lib.hid (W2.out.trans (hb3.mono W2.out.size));clear hb3)
    | (go_at_call 79;refine(C2.out _).mono ?_;rintro e w4 ⟨rfl,hb4⟩;have W4:=Lib.hid (W3.out.trans (hb4.mono W3.out.size));clear hb4)
    | (go_at_call 80;refine(C3.out _).mono ?_;rintro e w5 ⟨rfl,hb5⟩;have W5:=Lib.hid (W4.out.trans (hb5.mono W4.out.size));clear hb5))
   go_ret
   exact⟨by rw [HP.out];rfl,by first|exact W5.out|exact W4.out|exact W3.out⟩
end Go.Proofs.YtlcidkiplidamaaGreatDoor
