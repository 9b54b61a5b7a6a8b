/-
  What the laws rest on, part 24: walks of the program's functions and plain laws. Conditions: none but those that each theorem names.
-/
import Derived.Test.YtpbnjakeielipaaGreatDoorB08
import Derived.Test.YtpbnjakeielipaaGreatDoorB23
import Derived.Test.YtpbnjakeielipaaGreatDoorB16
import Derived.Test.YtpbnjakeielipaaGreatDoorB03
import Derived.Test.YtpbnjakeielipaaGreatDoorB15
import Derived.Test.YtpbnjakeielipaaGreatDoorB14
set_option linter.unusedSimpArgs false
set_option linter.unusedVariables false
set_option maxRecDepth 100000
set_option maxHeartbeats 60000000
namespace Go.Proofs.YtpbnjakeielipaaGreatDoor
open Go Go.RowKit Lib
theorem clone_any (s:ByteArray) (w:World) (h:s.size≤65536):Calls Tryz.prog 115 #[.string s] w fun e w'=>e= .returned (.string s)∧Below w.heap.size w w':=by
 go_enter Tryz.func115,Tryz.ntmps115
 go_wp2_with (go_at_call 131;refine(Tryz.stringslite_Clone s _ (by omega)).mono ?_;rintro e w1 ⟨rfl,hb⟩;have HB:=Lib.hid hb;clear hb)
 go_ret
 exact⟨rfl,HB.out⟩
theorem OlB.of_but {w:World} {cells tc tc':List Value} {G M:Nat} {wk W':World} (h:OlB w cells G tc wk) (hb:But M [G+1] wk W') (hM:G+1<M) (hG:w.heap.size+2≤G) (hX:Bx W' (G+1) tc' 75):OlB w cells G tc' W':=
 ⟨⟨h.ol.bel.trans (hb.mono (S':= []) (by omega) (fun k hk hm=>by simp at hm;omega)).below,(hb.block _ (by omega) (by simp;omega)).trans h.ol.bc,(hb.block _ (by omega) (by simp;omega)).trans h.ol.nr⟩,(hb.block _ (by omega) (by simp)).trans h.bb,hX⟩
theorem outline_any (c:ClassV) (p i f m:Value) (ok:Nat→Prop) (w:World) (h:ClassAt w ok c p i f m) (hFi:ClassFine c) (E:Int)
  (hchk: ∀W,ClassAt W ok c p i f m→Calls Tryz.prog 111 #[bookV c p i f m] W fun e W'=>e= .returned (.int .i64 E)∧Below W.heap.size W W') (hil:c.ifs.length≤64) (hfl:c.flds.length≤64) (hml:c.mths.length≤64):
  Calls Tryz.prog 96 #[bookV c p i f m] w (OutPost c E w):=by
 obtain⟨Ap,kp,rfl,hkp1,hkp2⟩:=sl_len h.hpool
 obtain⟨Ai,ki,rfl,hki1,hki2⟩:=sl_len h.hifs
 obtain⟨Af,kf,rfl,hkf1,hkf2⟩:=sl_len h.hflds
 obtain⟨ms,hms1,hms2,hms3⟩:=h.hmths
 obtain⟨Am,km,rfl,hkm1,hkm2⟩:=sl_len hms2
 have H0:=Lib.hid h
 have HN1:=Lib.hid hFi.this
 have HN2:=Lib.hid hFi.sup
 have HF:=Lib.hid (fun k hk=> (hFi.pool k hk).1)
 have HFI:=Lib.hid hFi.ifs
 have HTX:=Lib.hid (show∀k∈c.pool,k.text.size≤65536 from fun k hk=> (hFi.pool k hk).2.2.1)
 have HFF:=Lib.hid hFi.flds
 have HFM:=Lib.hid hFi.mths
 have HCH:=Lib.hid hchk
 have B1:=Lib.hid (show OlW w [.int .i64 c.minor, .int .i64 c.major, .slice Ap c.pool.length kp, .int .i64 c.acc, .int .i64 c.this, .int .i64 c.sup, .slice Ai c.ifs.length ki, .slice Af c.flds.length kf, .slice Am c.mths.length km] ((w.alloc (.cells ([.int .i64 c.minor, .int .i64 c.major, .slice Ap c.pool.length kp, .int .i64 c.acc, .int .i64 c.this, .int .i64 c.sup, .slice Ai c.ifs.length ki, .slice Af c.flds.length kf, .slice Am c.mths.length km]).toArray 104)).alloc (.cells zeroTyp.toArray 75)) from⟨((Below.refl _ _).alloc (Nat.le_refl _) _).alloc (by simp) _,(bx_new w _ _).below ((Below.refl _ _).alloc (Nat.le_refl _) _) (by simp),bx_new_at _ _ _ _ (by simp)⟩)
 have HMS:=Lib.hid hms1
 have HM2:=Lib.hid hms2
 have HM3:=Lib.hid hms3
 clear h hFi hchk hms1 hms2 hms3
 rw [bookV_open]
 go_enter Tryz.func96,Tryz.ntmps96
 go_wp2_with (first
  | (refine wpList_load_row rfl _ _ rfl w.heap.size rfl _ _ _ _ B1.out.bc Tryz.underlying104 rfl (by kernel_rfl) ?_)
  | (go_at_call 111;refine stop_here ?_))
 refine go_on ?_
 refine(HCH.out _ (H0.out.keep (Kept.of_below B1.out.bel))).mono ?_
 rintro e w2 ⟨rfl,hb⟩
 have B2:=Lib.hid (B1.out.below hb)
 have hz2:=B2.out.nr.lt
 clear hb B1 HCH
 by_cases hE:E=0
 ·subst hE
  go_wp2_with (first
   | (refine wpList_load_row rfl _ _ rfl w.heap.size rfl _ _ _ _ (B2.out.below ((Below.refl _ _).alloc (Nat.le_refl _) _)).bc Tryz.underlying104 rfl (by kernel_rfl) ?_)
   | (refine wpList_load_row rfl _ _ rfl w.heap.size rfl _ _ _ _ B2.out.bc Tryz.underlying104 rfl (by kernel_rfl) ?_)
   | (refine wpList_store_row rfl _ _ _ rfl w2.heap.size _ rfl rfl _ _ (bx_new _ [.int .i64 0, .int .i64 0, .slice none 0 0, .int .i64 0, .int .i64 0, .int .i64 0, .slice none 0 0, .slice none 0 0, .slice none 0 0] _) (by kernel_rfl) rfl (by simp [Value.oneCell']) ?_;refine stop_here ?_))
  refine go_on ?_
  have B3:=Lib.hid ((B2.out.below ((Below.refl _ _).alloc (Nat.le_refl _) (.cells #[.int .i64 0, .int .i64 0, .slice none 0 0, .int .i64 0, .int .i64 0, .int .i64 0, .slice none 0 0, .slice none 0 0, .slice none 0 0] 248))).row w2.heap.size ([.int .i64 c.minor, .int .i64 c.major, .slice Ap c.pool.length kp, .int .i64 c.acc, .int .i64 c.this, .int .i64 c.sup, .slice Ai c.ifs.length ki, .slice Af c.flds.length kf, .slice Am c.mths.length km]).toArray (by omega))
  have K3:=Lib.hid ((bx_new w2 [.int .i64 0, .int .i64 0, .slice none 0 0, .int .i64 0, .int .i64 0, .int .i64 0, .slice none 0 0, .slice none 0 0, .slice none 0 0] 248).row [.int .i64 c.minor, .int .i64 c.major, .slice Ap c.pool.length kp, .int .i64 c.acc, .int .i64 c.this, .int .i64 c.sup, .slice Ai c.ifs.length ki, .slice Af c.flds.length kf, .slice Am c.mths.length km])
  have hz3:((w2.alloc (.cells #[.int .i64 0, .int .i64 0, .slice none 0 0, .int .i64 0, .int .i64 0, .int .i64 0, .slice none 0 0, .slice none 0 0, .slice none 0 0] 248)).setRow w2.heap.size ([.int .i64 c.minor, .int .i64 c.major, .slice Ap c.pool.length kp, .int .i64 c.acc, .int .i64 c.this, .int .i64 c.sup, .slice Ai c.ifs.length ki, .slice Af c.flds.length kf, .slice Am c.mths.length km]).toArray).heap.size=w2.heap.size+1:=by simp
  generalize (w2.alloc (.cells #[.int .i64 0, .int .i64 0, .slice none 0 0, .int .i64 0, .int .i64 0, .int .i64 0, .slice none 0 0, .slice none 0 0, .slice none 0 0] 248)).setRow w2.heap.size ([.int .i64 c.minor, .int .i64 c.major, .slice Ap c.pool.length kp, .int .i64 c.acc, .int .i64 c.this, .int .i64 c.sup, .slice Ai c.ifs.length ki, .slice Af c.flds.length kf, .slice Am c.mths.length km]).toArray=w3 at*
  obtain⟨G,hG⟩: ∃G,w2.heap.size=G:=⟨_,rfl⟩
  rw [hG] at hz3 hz2 K3⊢
  have HG2:w.heap.size+2≤G:=by omega
  clear B2 hG
  have m3:=B3.out.bc.cell 3 rfl
  go_wp2_with (first
   | (refine wpList_store_row rfl _ _ _ rfl (G+1) _ rfl rfl _ _ (bx_new_at w3 zeroTyp _ (G+1) hz3.symm) (by kernel_rfl) rfl (by simp [Value.oneCell']) ?_;refine stop_here ?_))
  refine go_on ?_
  have B4:=Lib.hid (show OlB w [.int .i64 c.minor, .int .i64 c.major, .slice Ap c.pool.length kp, .int .i64 c.acc, .int .i64 c.this, .int .i64 c.sup, .slice Ai c.ifs.length ki, .slice Af c.flds.length kf, .slice Am c.mths.length km] G [.string ⟨#[]⟩, .string ⟨#[]⟩, .int .i64 c.acc, .slice none 0 0, .slice none 0 0, .slice none 0 0] ((w3.alloc (.cells #[.string ⟨#[]⟩, .string ⟨#[]⟩, .int .i64 0, .slice none 0 0, .slice none 0 0, .slice none 0 0] 75)).setRow (G+1) #[.string ⟨#[]⟩, .string ⟨#[]⟩, .int .i64 c.acc, .slice none 0 0, .slice none 0 0, .slice none 0 0]) from
   ⟨(B3.out.below ((Below.refl _ _).alloc (Nat.le_refl _) _)).row _ _ (by omega),(show _=_ from(setRow_other _ _ _ _ (by omega)).trans (K3.out.below ((Below.refl _ _).alloc (Nat.le_refl _) _) K3.out.lt)),(bx_new_at w3 [.string ⟨#[]⟩, .string ⟨#[]⟩, .int .i64 0, .slice none 0 0, .slice none 0 0, .slice none 0 0] _ (G+1) hz3.symm).row _⟩)
  have hz4:((w3.alloc (.cells #[.string ⟨#[]⟩, .string ⟨#[]⟩, .int .i64 0, .slice none 0 0, .slice none 0 0, .slice none 0 0] 75)).setRow (G+1) #[.string ⟨#[]⟩, .string ⟨#[]⟩, .int .i64 c.acc, .slice none 0 0, .slice none 0 0, .slice none 0 0]).heap.size=G+2:=by simp;omega
  generalize (w3.alloc (.cells #[.string ⟨#[]⟩, .string ⟨#[]⟩, .int .i64 0, .slice none 0 0, .slice none 0 0, .slice none 0 0] 75)).setRow (G+1) #[.string ⟨#[]⟩, .string ⟨#[]⟩, .int .i64 c.acc, .slice none 0 0, .slice none 0 0, .slice none 0 0]=w4 at*
  clear B3 K3 m3
  have m4:=B4.out.ol.bc.cell 4 rfl
  go_wp2_with (first
   | (refine wpList_load_row rfl _ _ rfl G rfl _ _ _ _ B4.out.bb Tryz.underlying248 rfl (by kernel_rfl) ?_)
   | (go_at_call 112;refine stop_here ?_))
  refine go_on ?_
  refine(name_book c Ap kp (.slice Ai c.ifs.length ki) (.slice Af c.flds.length kf) (.slice Am c.mths.length km) c.this ok _ ⟨(B4.out.at H0.out).hpool,rfl,rfl,rfl⟩ HN1.out HF.out).mono ?_
  rintro e w5 ⟨rfl,hb⟩
  simp only [optV]
  have hz5:=hb.size
  have B5:=Lib.hid (B4.out.below hb)
  have B6:=Lib.hid ((B4.out.below hb).set HG2 0 (.string ((nameAt c.pool c.this).getD ⟨#[]⟩)))
  have t0:=B5.out.tb.cell 0 rfl
  have z0:=B5.out.tb.frozen 0
  have m5:=B6.out.ol.bc.cell 5 rfl
  clear hb m4 B4
  go_wp2_with (first
   | (refine wpList_load_row rfl _ _ rfl G rfl _ _ _ _ B6.out.bb Tryz.underlying248 rfl (by kernel_rfl) ?_)
   | (go_at_call 112;refine stop_here ?_))
  refine go_on ?_
  refine(name_book c Ap kp (.slice Ai c.ifs.length ki) (.slice Af c.flds.length kf) (.slice Am c.mths.length km) c.sup ok _ ⟨(B6.out.at H0.out).hpool,rfl,rfl,rfl⟩ HN2.out HF.out).mono ?_
  rintro e w6 ⟨rfl,hb⟩
  simp only [optV]
  have hz6:=hb.size
  simp only [World.size_setCell] at hz6
  have B7:=Lib.hid (B6.out.below hb)
  have B8:=Lib.hid ((B6.out.below hb).set HG2 1 (.string ((nameAt c.pool c.sup).getD ⟨#[]⟩)))
  have t1:=B7.out.tb.cell 1 rfl
  have z1:=B7.out.tb.frozen 1
  have m6:=B8.out.ol.bc.cell 6 rfl
  clear hb m5 B6 t0 z0
  go_wp2_with fail
  have hz7:(w6.setCell ⟨G+1,1,none⟩ (.string ((nameAt c.pool c.sup).getD ⟨#[]⟩))).heap.size=w6.heap.size:=by simp
  generalize w6.setCell ⟨G+1,1,none⟩ (.string ((nameAt c.pool c.sup).getD ⟨#[]⟩))=w7 at*
  clear m6 t1 z1 B5 B7
  go_loopw [55] (fun i wr=> ∃(k:Nat) (pv:Value),k≤c.ifs.length∧i= .int .i64 k∧G+2≤wr.heap.size∧Hid (OlB w [.int .i64 c.minor, .int .i64 c.major, .slice Ap c.pool.length kp, .int .i64 c.acc, .int .i64 c.this, .int .i64 c.sup, .slice Ai c.ifs.length ki, .slice Af c.flds.length kf, .slice Am c.mths.length km] G [.string ((nameAt c.pool c.this).getD ⟨#[]⟩), .string ((nameAt c.pool c.sup).getD ⟨#[]⟩), .int .i64 c.acc,pv, .slice none 0 0, .slice none 0 0] wr)∧Hid (wr.ownsRow (G+2) 9 1 pv k ((c.ifs.take k).map fun n=> .string (nameD c.pool n)))) (fun i _=>c.ifs.length - (RowKit.intOf i).toNat)
  case atStart=>exact⟨0, .slice none 0 0,by omega,rfl,by omega,B8,Lib.hid (World.ownsRow_nil _ _ _ _)⟩
  case round=>
   obtain⟨wr1,hwr⟩: ∃W,W=wr:=⟨_,rfl⟩
   subst hwr
   obtain⟨k,pv,hk,rfl,hzr,Br,HO⟩:=hrel
   by_cases hlt:k<c.ifs.length
   ·obtain⟨x,hx⟩: ∃x,c.ifs[k]?=some x:=⟨_,List.getElem?_eq_getElem hlt⟩
    have HX:=Lib.hid (show c.ifs.take (k+1)=c.ifs.take k++ [x] by rw [List.take_succ_eq_append_getElem hlt,(List.getElem?_eq_some_iff.1 hx).2])
    have HFX:=Lib.hid (HFI.out x (List.mem_of_getElem? hx))
    obtain⟨A',cap',e',_,_,_,h5⟩:=(Br.out.at H0.out).hifs
    injection e' with e1 _ e3
    subst e1
    subst e3
    obtain⟨b,off,hAi,hbl,_,hc⟩:=h5 (by omega)
    have ci:=hc k (.int .i64 x) (by rw [List.getElem?_map,hx];rfl)
    subst hAi
    obtain⟨x1,x2,x3,x4,x5,x6,x7,x8,x9,x10,x11,x12⟩:=far b wr1.heap.size hbl
    clear hx h5 hc
    go_wp2_with (first
     | (refine wpList_load_row rfl _ _ rfl G rfl _ _ _ _ Br.out.bb Tryz.underlying248 rfl (by kernel_rfl) ?_)
     | (go_at_call 112;refine stop_here ?_))
    refine go_on ?_
    refine(name_book c Ap kp (.slice (some ⟨b,off,none⟩) c.ifs.length ki) (.slice Af c.flds.length kf) (.slice Am c.mths.length km) x ok _ ⟨(Br.out.at H0.out).hpool,rfl,rfl,rfl⟩ HFX.out HF.out).mono ?_
    rintro e w8 ⟨rfl,hb⟩
    simp only [optV]
    have hz8:=hb.size
    have B9:=Lib.hid (Br.out.below hb)
    have HO9:=Lib.hid (own_heap HO.out fun q hq=>hb.block q (HO.out.lt q hq).2)
    have t3:=B9.out.tb.cell 3 rfl
    clear hb ci
    go_wp2_with (at_builtin;refine wpl_lies rfl _ _ 31 rfl Tryz.underlying31 info_string rfl (by omega) (G+2) rfl (HO9.out.alloc _) rfl rfl (fun _=> ⟨_,rfl,cells_new_at _ _ _ _ (by simp)⟩) (by simp [Value.oneCell']) (by omega) (by simp only [maxLen];omega) (by omega) (by simp;omega) ?_;intro g3 c3 w9 ho3 hg3 hb3 hgg3 hlt3;refine stop_here ?_)
    refine go_on ?_
    have hz9:=hb3.size
    simp only [World.size_alloc] at hz9
    have B10:=Lib.hid ((B9.out.below ((Below.refl _ _).alloc (Nat.le_refl _) _)).low hb3 HG2)
    have B11:=Lib.hid (B10.out.set HG2 3 (.slice (some ⟨g3,0,none⟩) (k+1) c3))
    have hge:=(ho3.lt g3 rfl).1
    have HO11:=Lib.hid (own_set ho3 (p:=⟨G+1,3,none⟩) (by simp;omega) (.slice (some ⟨g3,0,none⟩) (k+1) c3))
    have t3':=B10.out.tb.cell 3 rfl
    have z3':=B10.out.tb.frozen 3
    clear t3 ho3 hg3 hb3 hgg3
    go_wp2_with fail
    go_roundw
    case rel=>exact⟨k+1,_,by omega,by go_num,by simp;omega,B11,Lib.hid (own_eq HO11.out rfl (by rw [HX.out,List.map_append];rfl))⟩
    case measure=>simp [RowKit.intOf];omega
   ·obtain rfl:k=c.ifs.length:=by omega
    obtain⟨Ao,ko,hpv⟩:=own_slice HO.out
    subst hpv
    have hrow:=HO.out
    rw [List.take_length] at hrow
    clear hlt
    obtain⟨M2,hM2⟩: ∃M,wr1.heap.size=M:=⟨_,rfl⟩
    have HM2:=Lib.hid hM2
    have HIF:=Lib.hid (slAt_own hrow (fun g=>G+2≤g∧g<M2) (by omega) (by omega) (fun q hq=> ⟨(hrow.lt q hq).1,by have:=(hrow.lt q hq).2;omega⟩))
    obtain⟨wM2,hwM2⟩: ∃W,W=wr1:=⟨_,rfl⟩
    subst hwM2
    have BS:=Br
    have hGM:=hzr
    have hGM2:G+2≤M2:=by omega
    have hltM:=Br.out.tb.lt
    clear Br HO hrow hzr hM2
    have m7:=BS.out.ol.bc.cell 7 rfl
    go_wp2_with fail
    clear m7
    go_loopw [75] (fun i wr=> ∃(k:Nat) (pv:Value),k≤c.flds.length∧i= .int .i64 k∧M2≤wr.heap.size∧Hid (OlB w [.int .i64 c.minor, .int .i64 c.major, .slice Ap c.pool.length kp, .int .i64 c.acc, .int .i64 c.this, .int .i64 c.sup, .slice Ai c.ifs.length ki, .slice Af c.flds.length kf, .slice Am c.mths.length km] G [.string ((nameAt c.pool c.this).getD ⟨#[]⟩), .string ((nameAt c.pool c.sup).getD ⟨#[]⟩), .int .i64 c.acc, .slice Ao c.ifs.length ko,pv, .slice none 0 0] wr)∧Hid (But M2 [G+1] wM2 wr)∧Hid (wr.ownsRow M2 128 5 pv k (((c.flds.take k).map (memF c.pool)).flatMap MemV.cells))) (fun i _=>c.flds.length - (RowKit.intOf i).toNat)
    case atStart=>exact⟨0, .slice none 0 0,by omega,rfl,Nat.le_of_eq HM2.out.symm,BS,Lib.hid (But.refl _ _ _),Lib.hid (World.ownsRow_nil _ _ _ _)⟩
    case round=>
     obtain⟨wr1,hwr⟩: ∃W,W=wr:=⟨_,rfl⟩
     subst hwr
     obtain⟨k,pv,hk,rfl,hzr,Br,HBT,HO⟩:=hrel
     by_cases hlt:k<c.flds.length
     ·obtain⟨x,hx⟩: ∃x,c.flds[k]?=some x:=⟨_,List.getElem?_eq_getElem hlt⟩
      have HX:=Lib.hid (show c.flds.take (k+1)=c.flds.take k++ [x] by rw [List.take_succ_eq_append_getElem hlt,(List.getElem?_eq_some_iff.1 hx).2])
      have HFX:=Lib.hid (HFF.out x (List.mem_of_getElem? hx))
      obtain⟨b,off,hAf,hbl,p0,p1,p2,p3⟩:=fld_cells (Br.out.at H0.out).hflds k x hx
      subst hAf
      obtain⟨x1,x2,x3,x4,x5,x6,x7,x8,x9,x10,x11,x12⟩:=far b wr1.heap.size hbl
      have B5:=Lib.hid (Br.out.below ((Below.refl wr1.heap.size wr1).alloc (Nat.le_refl _) (.cells #[.int .i64 x.acc, .int .i64 x.name, .int .i64 x.desc, .int .i64 x.value] 168)))
      have F5:=Lib.hid (bx_new wr1 [.int .i64 x.acc, .int .i64 x.name, .int .i64 x.desc, .int .i64 x.value] 168)
      have hz5:(wr1.alloc (.cells #[.int .i64 x.acc, .int .i64 x.name, .int .i64 x.desc, .int .i64 x.value] 168)).heap.size=wr1.heap.size+1:=by simp
      have HB5:=Lib.hid ((Below.refl wr1.heap.size wr1).alloc (Nat.le_refl _) (.cells #[.int .i64 x.acc, .int .i64 x.name, .int .i64 x.desc, .int .i64 x.value] 168))
      have hbG:=Br.out.tb.lt
      clear hx
      obtain⟨nm,hnm⟩: ∃s,textD c.pool x.name=s:=⟨_,rfl⟩
      obtain⟨ds,hds⟩: ∃s,textD c.pool x.desc=s:=⟨_,rfl⟩
      have HNM:=Lib.hid hnm
      have HDS:=Lib.hid hds
      have hnl:nm.size≤65536:=by rw [←hnm];exact text_le HTX.out
      have hdl:ds.size≤65536:=by rw [←hds];exact text_le HTX.out
      clear hnm hds
      go_wp2_with (first
       | (refine wpList_load_row rfl _ _ rfl G rfl _ _ _ _ B5.out.bb Tryz.underlying248 rfl (by kernel_rfl) ?_)
       | (go_at_call 113;refine stop_here ?_))
      refine go_on ?_
      refine(text_book c Ap kp _ _ _ x.name ok _ ⟨(B5.out.at H0.out).hpool,rfl,rfl,rfl⟩ HFX.out.1).mono ?_
      rintro e w6 ⟨rfl,hb⟩
      simp only [optV]
      rw [show(textAt c.pool x.name).getD ⟨#[]⟩=nm from HNM.out]
      have hz6:=hb.size
      rw [hz5] at hz6
      have B6:=Lib.hid (B5.out.below hb)
      have F6:=Lib.hid (F5.out.below hb (by omega))
      have HB6:=Lib.hid (HB5.out.trans (hb.mono (by omega)))
      have f2:=F6.out.cell 2 rfl
      clear hb p0 p1 p2 p3
      go_wp2_with (first
       | (refine wpList_load_row rfl _ _ rfl G rfl _ _ _ _ B6.out.bb Tryz.underlying248 rfl (by kernel_rfl) ?_)
       | (go_at_call 113;refine stop_here ?_))
      refine go_on ?_
      refine(text_book c Ap kp _ _ _ x.desc ok _ ⟨(B6.out.at H0.out).hpool,rfl,rfl,rfl⟩ HFX.out.2.1).mono ?_
      rintro e w7 ⟨rfl,hb⟩
      simp only [optV]
      rw [show(textAt c.pool x.desc).getD ⟨#[]⟩=ds from HDS.out]
      have hz7:=hb.size
      have B7:=Lib.hid (B6.out.below hb)
      have F7:=Lib.hid (F6.out.below hb (by omega))
      have HB7:=Lib.hid (HB6.out.trans (hb.mono (by omega)))
      clear hb f2
      have f3:=F7.out.cell 3 rfl
      go_wp2_with (first
       | (refine wpList_load_row rfl _ _ rfl G rfl _ _ _ _ B7.out.bb Tryz.underlying248 rfl (by kernel_rfl) ?_)
       | (go_at_call 114;refine stop_here ?_))
      refine go_on ?_
      refine(at_book c Ap kp _ _ _ x.value 3 ok _ (B7.out.at H0.out).hpool rfl rfl rfl HFX.out.2.2.2 HFX.out.2.2.1).mono ?_
      rintro e w8 ⟨rfl,hb⟩
      obtain⟨kq,hko⟩: ∃kq,(kindAt c.pool x.value 3).getD koZero=kq:=⟨_,rfl⟩
      have HKO:=Lib.hid hko
      simp only [kindV,koV]
      rw [hko]
      clear hko
      have hz8:=hb.size
      have B8:=Lib.hid ((B7.out.below hb).below ((Below.refl w8.heap.size w8).alloc (Nat.le_refl _) (.cells #[.int .i64 kq.tag, .string kq.text, .int .i64 kq.num, .int .i64 kq.a, .int .i64 kq.b] 81)))
      have F8:=Lib.hid ((F7.out.below hb (by omega)).below ((Below.refl w8.heap.size w8).alloc (Nat.le_refl _) (.cells #[.int .i64 kq.tag, .string kq.text, .int .i64 kq.num, .int .i64 kq.a, .int .i64 kq.b] 81)) (by omega))
      have K8:=Lib.hid (bx_new w8 [.int .i64 kq.tag, .string kq.text, .int .i64 kq.num, .int .i64 kq.a, .int .i64 kq.b] 81)
      have HB8:=Lib.hid (HB7.out.trans ((hb.trans ((Below.refl w8.heap.size w8).alloc (Nat.le_refl _) (.cells #[.int .i64 kq.tag, .string kq.text, .int .i64 kq.num, .int .i64 kq.a, .int .i64 kq.b] 81) |>.mono hb.size)).mono (by omega)))
      clear hb f3
      go_wp2_with fail
      have hz9:(w8.alloc (.cells #[.int .i64 kq.tag, .string kq.text, .int .i64 kq.num, .int .i64 kq.a, .int .i64 kq.b] 81)).heap.size=w8.heap.size+1:=by simp
      generalize w8.alloc (.cells #[.int .i64 kq.tag, .string kq.text, .int .i64 kq.num, .int .i64 kq.a, .int .i64 kq.b] 81)=w9 at*
      have hF9:=F8.out.lt
      have hge8:=HB8.out.size
      have TBk:=Lib.hid (fun W (hb:Below w9.heap.size w9 W)=>B8.out.tb.below hb B8.out.tb.lt)
      have FBk:=Lib.hid (fun W (hb:Below w9.heap.size w9 W)=>F8.out.below hb F8.out.lt)
      have KBk:=Lib.hid (fun W (hb:Below w9.heap.size w9 W)=>K8.out.below hb K8.out.lt)
      have SK:=Lib.hid (show∀W,Below w9.heap.size w9 W→(fun w'=>w'.cell? ⟨G+1,4,none⟩=some pv∧w'.cell? ⟨wr1.heap.size,0,none⟩=some (.int .i64 x.acc)∧w'.cell? ⟨wr1.heap.size,3,none⟩=some (.int .i64 x.value)∧w'.cell? ⟨w8.heap.size,2,none⟩=some (.int .i64 kq.num)) W from fun W hb=> ⟨(TBk.out W hb).cell 4 rfl,(FBk.out W hb).cell 0 rfl,(FBk.out W hb).cell 3 rfl,(KBk.out W hb).cell 2 rfl⟩)
      have D0:=Lib.hid ((Below.refl w9.heap.size w9).drew)
      refine wp_region_un (fun w'=>w'.cell? ⟨G+1,4,none⟩=some pv∧w'.cell? ⟨wr1.heap.size,0,none⟩=some (.int .i64 x.acc)∧w'.cell? ⟨wr1.heap.size,3,none⟩=some (.int .i64 x.value)∧w'.cell? ⟨w8.heap.size,2,none⟩=some (.int .i64 kq.num)) 17 (by kernel_rfl) ?_ (fun hHeld=> ?_)
      ·exact SK.out _ D0.out
      refine un_many [0,1,2,3,4,6,8,9,10,11,12] 7 rfl (by kernel_rfl) (fun _ _ _ d _ h=>by cases d<;>exact h) (by assumption) ?_
      repeat(refine tk_cons ?_ rfl rfl ?_ ?_;rotate_left;(intro w hSw;(try dsimp only at hSw);go_simp;(try with_reducible rfl));(try simp only [Act.put,List.setIfInBounds_toArray,List.set_cons_zero,List.set_cons_succ]))
      refine tk_nil ?_
      refine un_step (i:=5) (by kernel_rfl) rfl (fun K hK=> ?_)
      go_simp;go_at_call 115
      refine(clone_any nm _ (by omega)).mono ?_
      rintro e wa ⟨rfl,hb⟩
      have Da:=Lib.hid (D0.out.trans (hb.mono D0.out.size))
      clear hb
      (try dsimp only)
      refine hK.out _ _ (fun _=> ?_) (fun hHeld2=> ?_)
      ·exact SK.out _ Da.out
      have hHeld:=hHeld2 (by decide)
      clear hHeld2
      clear hK K
      (try simp only [Act.put,List.setIfInBounds_toArray,List.set_cons_zero,List.set_cons_succ])
      refine un_step (i:=7) (by kernel_rfl) rfl (fun K hK=> ?_)
      go_simp;go_at_call 115
      refine(clone_any ds _ (by omega)).mono ?_
      rintro e wb ⟨rfl,hb⟩
      have Db:=Lib.hid (Da.out.trans (hb.mono Da.out.size))
      clear hb
      (try dsimp only)
      refine hK.out _ _ (fun _=> ?_) (fun hHeld2=> ?_)
      ·exact SK.out _ Db.out
      have hHeld:=hHeld2 (by decide)
      clear hHeld2
      clear hK K
      (try simp only [Act.put,List.setIfInBounds_toArray,List.set_cons_zero,List.set_cons_succ])
      refine un_step (i:=13) (by kernel_rfl) rfl (fun K hK=> ?_)
      go_simp
      refine hK.out _ _ (fun _=> ?_) (fun hHeld2=> ?_)
      ·exact SK.out _ Db.out
      have hHeld:=hHeld2 (by decide)
      clear hHeld2
      clear hK K
      (try simp only [Act.put,List.setIfInBounds_toArray,List.set_cons_zero,List.set_cons_succ])
      have Dc:=Lib.hid (Db.out.alloc Db.out.size (.cells #[.int .i64 x.acc, .string nm, .string ds, .bool (x.value !=0), .int .i64 kq.num] 128))
      refine un_step (i:=14) (by kernel_rfl) rfl (fun K hK=> ?_)
      go_simp
      refine hK.out _ _ (fun _=> ?_) (fun hHeld2=> ?_)
      ·exact SK.out _ Dc.out
      have hHeld:=hHeld2 (by decide)
      clear hHeld2
      clear hK K
      (try simp only [Act.put,List.setIfInBounds_toArray,List.set_cons_zero,List.set_cons_succ])
      have HOc:=Lib.hid (own_heap HO.out fun q hq=> (HB8.out.trans (Dc.out.mono hge8)).block q (HO.out.lt q hq).2)
      have hzb:=Db.out.size
      have hpvl: ∀q,pv.ownBlock=some q→M2≤q∧q<wr1.heap.size:=fun q hq=>HO.out.lt q hq
      refine un_step (i:=15) (by kernel_rfl) rfl (fun K hK=> ?_)
      refine step_lies rfl (.tmp 101) (.tmp 114) 73 rfl Tryz.underlying73 info_member rfl (by omega) M2 rfl HOc.out rfl rfl (cells_new _ _ _) (by simp [Value.oneCell']) (by omega) (by simp only [maxLen];omega) (by omega) (by simp;omega) ?_
      intro g3 c3 w3 hob hgb hbb hgg
      have kq3: ∀q,q<w9.heap.size→(q<M2∨wr1.heap.size≤q)→w3.heap[q]?=w9.heap[q]?:=fun q h1 h2=> (hgb.block q (by have:=Dc.out.size;omega) (fun e=>by have:=hpvl q e.symm;omega)).trans (Dc.out.block q h1)
      have T3:=Lib.hid ((kq3 (G+1) (by have:=B8.out.tb.lt;omega) (by omega)).trans B8.out.tb)
      have F3:=Lib.hid ((kq3 wr1.heap.size (by omega) (by omega)).trans F8.out)
      have K3:=Lib.hid ((kq3 w8.heap.size (by have:=K8.out.lt;omega) (by omega)).trans K8.out)
      have x4:=Bx.cell T3.out 4 rfl
      have y4:=Bx.frozen T3.out 4
      refine hK.out _ _ (fun _=> ?_) (fun hHeld2=> ?_)
      ·exact(show(fun w'=>w'.cell? ⟨G+1,4,none⟩=some pv∧w'.cell? ⟨wr1.heap.size,0,none⟩=some (.int .i64 x.acc)∧w'.cell? ⟨wr1.heap.size,3,none⟩=some (.int .i64 x.value)∧w'.cell? ⟨w8.heap.size,2,none⟩=some (.int .i64 kq.num)) w3 from⟨x4,Bx.cell F3.out 0 rfl,Bx.cell F3.out 3 rfl,Bx.cell K3.out 2 rfl⟩)
      have hHeld:=hHeld2 (by decide)
      clear hHeld2
      clear hK K
      (try simp only [Act.put,List.setIfInBounds_toArray,List.set_cons_zero,List.set_cons_succ])
      refine un_step (i:=16) (by kernel_rfl) rfl (fun K hK=> ?_)
      go_simp
      refine hK.out _ _ (fun _=> ?_) (fun hHeld2=> ?_)
      ·exact(show(fun w'=>w'.cell? ⟨G+1,4,none⟩=some pv∧w'.cell? ⟨wr1.heap.size,0,none⟩=some (.int .i64 x.acc)∧w'.cell? ⟨wr1.heap.size,3,none⟩=some (.int .i64 x.value)∧w'.cell? ⟨w8.heap.size,2,none⟩=some (.int .i64 kq.num)) w3 from⟨x4,Bx.cell F3.out 0 rfl,Bx.cell F3.out 3 rfl,Bx.cell K3.out 2 rfl⟩)
      have hHeld:=hHeld2 (by decide)
      clear hHeld2
      clear hK K
      (try simp only [Act.put,List.setIfInBounds_toArray,List.set_cons_zero,List.set_cons_succ])
      refine un_step (i:=17) (by kernel_rfl) rfl (fun K hK=> ?_)
      go_simp
      refine hK.out _ _ (fun h=>absurd rfl h) (fun _=> ?_)
      clear hK K
      (try simp only [Act.put,List.setIfInBounds_toArray,List.set_cons_zero,List.set_cons_succ])
      refine un_done (by kernel_rfl) ?_
      have hXb:=Bx.set T3.out 4 (.slice (some ⟨g3,0,none⟩) (k+1) c3)
      have hBb:But M2 [G+1] w9 (w3.setCell ⟨G+1,4,none⟩ (.slice (some ⟨g3,0,none⟩) (k+1) c3)):=(But.of_below ((Dc.out.mono (by omega)).trans hbb)).set ⟨G+1,4,none⟩ (.inl (by simp)) _
      have hOb:=own_set (p:=⟨G+1,4,none⟩) hob (show g3≠G+1 by have:=(hob.lt g3 rfl).1;omega) (.slice (some ⟨g3,0,none⟩) (k+1) c3)
      have hsb:w9.heap.size≤(w3.setCell ⟨G+1,4,none⟩ (.slice (some ⟨g3,0,none⟩) (k+1) c3)).heap.size:=by
       have h1:=hgb.size
       have h2:=Dc.out.size
       simp only [World.size_setCell]
       omega
      clear hob hgb hbb hgg T3 F3 x4 y4 kq3 HOc Dc Db Da D0 hHeld SK TBk FBk K3 KBk
      generalize w3.setCell ⟨G+1,4,none⟩ (.slice (some ⟨g3,0,none⟩) (k+1) c3)=W' at*
      have B14:=Lib.hid (B8.out.of_but hBb (by omega) HG2 hXb)
      have HBT14:=Lib.hid ((HBT.out.trans ((But.of_below (S:= [G+1]) HB8.out).mono hzr (fun _ _ h=>h))).trans hBb)
      have HO14:=Lib.hid (own_eq hOb rfl (show _=((c.flds.take (k+1)).map (memF c.pool)).flatMap MemV.cells by rw [HX.out];simp only [List.map_append,List.flatMap_append,List.map_cons,List.map_nil,List.flatMap_cons,List.flatMap_nil,List.append_nil];simp only [memF,MemV.cells,HNM.out,HDS.out,HKO.out]))
      have hgz:M2≤W'.heap.size:=by omega
      clear hXb hBb hOb hsb hzb B8 F8 HB8
      clear K8
      go_wp2_with fail
      go_roundw
      case rel=>exact⟨k+1,_,by omega,by go_num,hgz,B14,HBT14,HO14⟩
      case measure=>simp [RowKit.intOf];omega
     ·obtain rfl:k=c.flds.length:=by omega
      have hrow:=HO.out
      rw [List.take_length] at hrow
      clear hlt
      obtain⟨M3,hM3⟩: ∃M,wr1.heap.size=M:=⟨_,rfl⟩
      have HM3:=Lib.hid hM3
      obtain⟨Afo,kfo,hpv⟩:=own_slice HO.out
      subst hpv
      have HFL:=Lib.hid (slAt_own hrow (fun g=>G+2≤g∧g<M3) (by omega) (by omega) (fun q hq=> ⟨by have:=(hrow.lt q hq).1;omega,by have:=(hrow.lt q hq).2;omega⟩))
      have HIF3:=Lib.hid (HIF.out.keep (Kept.of_but (ok:=fun g=>G+2≤g∧g<M2) (S:= [G+1]) (show But wM2.heap.size [G+1] wM2 wr1 by rw [HM2.out];exact HBT.out) (fun g hg hm=>by simp at hm;omega)))
      obtain⟨wM3,hwM3⟩: ∃W,W=wr1:=⟨_,rfl⟩
      subst hwM3
      have BS:=Br
      have hGM3:G+2≤M3:=by omega
      clear Br HO hrow hzr hM3 HBT
      have m8:=BS.out.ol.bc.cell 8 rfl
      go_wp2_with fail
      clear m8
      go_loopw [121] (fun i wr=> ∃(k:Nat) (pv:Value),k≤c.mths.length∧i= .int .i64 k∧M3≤wr.heap.size∧Hid (OlB w [.int .i64 c.minor, .int .i64 c.major, .slice Ap c.pool.length kp, .int .i64 c.acc, .int .i64 c.this, .int .i64 c.sup, .slice Ai c.ifs.length ki, .slice Af c.flds.length kf, .slice Am c.mths.length km] G [.string ((nameAt c.pool c.this).getD ⟨#[]⟩), .string ((nameAt c.pool c.sup).getD ⟨#[]⟩), .int .i64 c.acc, .slice Ao c.ifs.length ko, .slice Afo c.flds.length kfo,pv] wr)∧Hid (But M3 [G+1] wM3 wr)∧Hid (wr.ownsRow M3 128 5 pv k (((c.mths.take k).map (memM c.pool)).flatMap MemV.cells))) (fun i _=>c.mths.length - (RowKit.intOf i).toNat)
      case atStart=>exact⟨0, .slice none 0 0,by omega,rfl,Nat.le_of_eq HM3.out.symm,BS,Lib.hid (But.refl _ _ _),Lib.hid (World.ownsRow_nil _ _ _ _)⟩
      case round=>
       obtain⟨wr1,hwr⟩: ∃W,W=wr:=⟨_,rfl⟩
       subst hwr
       obtain⟨k,pv,hk,rfl,hzr,Br,HBT,HO⟩:=hrel
       by_cases hlt:k<c.mths.length
       ·obtain⟨ms',e1,e2,e3⟩:=(Br.out.at H0.out).hmths
        have hml':ms'.length=c.mths.length:=by rw [←e1,List.length_map]
        obtain⟨x,cv,tv,hx⟩: ∃x cv tv,ms'[k]?=some (x,cv,tv):=⟨_,_,_,List.getElem?_eq_getElem (by omega)⟩
        have hx':c.mths[k]?=some x:=by rw [←e1,List.getElem?_map,hx];rfl
        have HX:=Lib.hid (show c.mths.take (k+1)=c.mths.take k++ [x] by rw [List.take_succ_eq_append_getElem hlt,(List.getElem?_eq_some_iff.1 hx').2])
        have HFX:=Lib.hid (HFM.out x (List.mem_of_getElem? hx'))
        obtain⟨b,off,hAm,hbl,p0,p1,p2,p3,p4,p5,p6,p7⟩:=mth_cells e2 hml' k x cv tv hx
        have hME:=e3 (x,cv,tv) (List.mem_of_getElem? hx)
        obtain⟨Ac,kc,hcv,_⟩:=id hME.hcode
        obtain⟨At,kt,htv,_⟩:=id hME.htraps
        simp only at hcv htv
        subst hcv
        subst htv
        subst hAm
        clear hx' e1 e2 e3 hml' hME
        obtain⟨x1,x2,x3,x4,x5,x6,x7,x8,x9,x10,x11,x12⟩:=far b wr1.heap.size hbl
        have B5:=Lib.hid (Br.out.below ((Below.refl wr1.heap.size wr1).alloc (Nat.le_refl _) (.cells #[.int .i64 x.acc, .int .i64 x.name, .int .i64 x.desc, .bool x.has, .int .i64 x.stack, .int .i64 x.locals, .slice Ac x.code.length kc, .slice At x.traps.length kt] 172)))
        have F5:=Lib.hid (bx_new wr1 [.int .i64 x.acc, .int .i64 x.name, .int .i64 x.desc, .bool x.has, .int .i64 x.stack, .int .i64 x.locals, .slice Ac x.code.length kc, .slice At x.traps.length kt] 172)
        have hz5:(wr1.alloc (.cells #[.int .i64 x.acc, .int .i64 x.name, .int .i64 x.desc, .bool x.has, .int .i64 x.stack, .int .i64 x.locals, .slice Ac x.code.length kc, .slice At x.traps.length kt] 172)).heap.size=wr1.heap.size+1:=by simp
        have HB5:=Lib.hid ((Below.refl wr1.heap.size wr1).alloc (Nat.le_refl _) (.cells #[.int .i64 x.acc, .int .i64 x.name, .int .i64 x.desc, .bool x.has, .int .i64 x.stack, .int .i64 x.locals, .slice Ac x.code.length kc, .slice At x.traps.length kt] 172))
        have hbG:=Br.out.tb.lt
        clear hx
        obtain⟨nm,hnm⟩: ∃s,textD c.pool x.name=s:=⟨_,rfl⟩
        obtain⟨ds,hds⟩: ∃s,textD c.pool x.desc=s:=⟨_,rfl⟩
        have HNM:=Lib.hid hnm
        have HDS:=Lib.hid hds
        have hnl:nm.size≤65536:=by rw [←hnm];exact text_le HTX.out
        have hdl:ds.size≤65536:=by rw [←hds];exact text_le HTX.out
        clear hnm hds
        go_wp2_with (first
         | (refine wpList_load_row rfl _ _ rfl G rfl _ _ _ _ B5.out.bb Tryz.underlying248 rfl (by kernel_rfl) ?_)
         | (go_at_call 113;refine stop_here ?_))
        refine go_on ?_
        refine(text_book c Ap kp _ _ _ x.name ok _ ⟨(B5.out.at H0.out).hpool,rfl,rfl,rfl⟩ HFX.out.1).mono ?_
        rintro e w6 ⟨rfl,hb⟩
        simp only [optV]
        rw [show(textAt c.pool x.name).getD ⟨#[]⟩=nm from HNM.out]
        have hz6:=hb.size
        rw [hz5] at hz6
        have B6:=Lib.hid (B5.out.below hb)
        have F6:=Lib.hid (F5.out.below hb (by omega))
        have HB6:=Lib.hid (HB5.out.trans (hb.mono (by omega)))
        have f2:=F6.out.cell 2 rfl
        clear hb p0 p1 p2 p3 p4 p5 p6 p7
        go_wp2_with (first
         | (refine wpList_load_row rfl _ _ rfl G rfl _ _ _ _ B6.out.bb Tryz.underlying248 rfl (by kernel_rfl) ?_)
         | (go_at_call 113;refine stop_here ?_))
        refine go_on ?_
        refine(text_book c Ap kp _ _ _ x.desc ok _ ⟨(B6.out.at H0.out).hpool,rfl,rfl,rfl⟩ HFX.out.2.1).mono ?_
        rintro e w7 ⟨rfl,hb⟩
        simp only [optV]
        rw [show(textAt c.pool x.desc).getD ⟨#[]⟩=ds from HDS.out]
        have hz7:=hb.size
        have B7:=Lib.hid (B6.out.below hb)
        have F7:=Lib.hid (F6.out.below hb (by omega))
        have HB7:=Lib.hid (HB6.out.trans (hb.mono (by omega)))
        clear hb f2
        have B8:=B7
        have F8:=F7
        have HB8:=HB7
        have f3:=F7.out.cell 3 rfl
        go_wp2_with fail
        have hz9:w7.heap.size=w7.heap.size:=rfl
        obtain⟨w9,hw9⟩: ∃W,W=w7:=⟨_,rfl⟩
        subst hw9
        clear f3
        have hF9:=F8.out.lt
        have hge8:=HB8.out.size
        have TBk:=Lib.hid (fun W (hb:Below w9.heap.size w9 W)=>B8.out.tb.below hb B8.out.tb.lt)
        have FBk:=Lib.hid (fun W (hb:Below w9.heap.size w9 W)=>F8.out.below hb F8.out.lt)
        have SK:=Lib.hid (show∀W,Below w9.heap.size w9 W→(fun w'=>w'.cell? ⟨G+1,5,none⟩=some pv∧w'.cell? ⟨wr1.heap.size,0,none⟩=some (.int .i64 x.acc)∧w'.cell? ⟨wr1.heap.size,3,none⟩=some (.bool x.has)) W from fun W hb=> ⟨(TBk.out W hb).cell 5 rfl,(FBk.out W hb).cell 0 rfl,(FBk.out W hb).cell 3 rfl⟩)
        have D0:=Lib.hid ((Below.refl w9.heap.size w9).drew)
        refine wp_region_un (fun w'=>w'.cell? ⟨G+1,5,none⟩=some pv∧w'.cell? ⟨wr1.heap.size,0,none⟩=some (.int .i64 x.acc)∧w'.cell? ⟨wr1.heap.size,3,none⟩=some (.bool x.has)) 14 (by kernel_rfl) ?_ (fun hHeld=> ?_)
        ·exact SK.out _ D0.out
        refine un_many [0,1,2,3,4,6,8,9] 7 rfl (by kernel_rfl) (fun _ _ _ d _ h=>by cases d<;>exact h) (by assumption) ?_
        repeat(refine tk_cons ?_ rfl rfl ?_ ?_;rotate_left;(intro w hSw;(try dsimp only at hSw);go_simp;(try with_reducible rfl));(try simp only [Act.put,List.setIfInBounds_toArray,List.set_cons_zero,List.set_cons_succ]))
        refine tk_nil ?_
        refine un_step (i:=5) (by kernel_rfl) rfl (fun K hK=> ?_)
        go_simp;go_at_call 115
        refine(clone_any nm _ (by omega)).mono ?_
        rintro e wa ⟨rfl,hb⟩
        have Da:=Lib.hid (D0.out.trans (hb.mono D0.out.size))
        clear hb
        (try dsimp only)
        refine hK.out _ _ (fun _=> ?_) (fun hHeld2=> ?_)
        ·exact SK.out _ Da.out
        have hHeld:=hHeld2 (by decide)
        clear hHeld2
        clear hK K
        (try simp only [Act.put,List.setIfInBounds_toArray,List.set_cons_zero,List.set_cons_succ])
        refine un_step (i:=7) (by kernel_rfl) rfl (fun K hK=> ?_)
        go_simp;go_at_call 115
        refine(clone_any ds _ (by omega)).mono ?_
        rintro e wb ⟨rfl,hb⟩
        have Db:=Lib.hid (Da.out.trans (hb.mono Da.out.size))
        clear hb
        (try dsimp only)
        refine hK.out _ _ (fun _=> ?_) (fun hHeld2=> ?_)
        ·exact SK.out _ Db.out
        have hHeld:=hHeld2 (by decide)
        clear hHeld2
        clear hK K
        (try simp only [Act.put,List.setIfInBounds_toArray,List.set_cons_zero,List.set_cons_succ])
        refine un_step (i:=10) (by kernel_rfl) rfl (fun K hK=> ?_)
        go_simp
        refine hK.out _ _ (fun _=> ?_) (fun hHeld2=> ?_)
        ·exact SK.out _ Db.out
        have hHeld:=hHeld2 (by decide)
        clear hHeld2
        clear hK K
        (try simp only [Act.put,List.setIfInBounds_toArray,List.set_cons_zero,List.set_cons_succ])
        have Dc:=Lib.hid (Db.out.alloc Db.out.size (.cells #[.int .i64 x.acc, .string nm, .string ds, .bool x.has, .int .i64 0] 128))
        refine un_step (i:=11) (by kernel_rfl) rfl (fun K hK=> ?_)
        go_simp
        refine hK.out _ _ (fun _=> ?_) (fun hHeld2=> ?_)
        ·exact SK.out _ Dc.out
        have hHeld:=hHeld2 (by decide)
        clear hHeld2
        clear hK K
        (try simp only [Act.put,List.setIfInBounds_toArray,List.set_cons_zero,List.set_cons_succ])
        have HOc:=Lib.hid (own_heap HO.out fun q hq=> (HB8.out.trans (Dc.out.mono hge8)).block q (HO.out.lt q hq).2)
        have hzb:=Db.out.size
        have hpvl: ∀q,pv.ownBlock=some q→M3≤q∧q<wr1.heap.size:=fun q hq=>HO.out.lt q hq
        refine un_step (i:=12) (by kernel_rfl) rfl (fun K hK=> ?_)
        refine step_lies rfl (.tmp 140) (.tmp 150) 73 rfl Tryz.underlying73 info_member rfl (by omega) M3 rfl HOc.out rfl rfl (cells_new _ _ _) (by simp [Value.oneCell']) (by omega) (by simp only [maxLen];omega) (by omega) (by simp;omega) ?_
        intro g3 c3 w3 hob hgb hbb hgg
        have kq3: ∀q,q<w9.heap.size→(q<M3∨wr1.heap.size≤q)→w3.heap[q]?=w9.heap[q]?:=fun q h1 h2=> (hgb.block q (by have:=Dc.out.size;omega) (fun e=>by have:=hpvl q e.symm;omega)).trans (Dc.out.block q h1)
        have T3:=Lib.hid ((kq3 (G+1) (by have:=B8.out.tb.lt;omega) (by omega)).trans B8.out.tb)
        have F3:=Lib.hid ((kq3 wr1.heap.size (by omega) (by omega)).trans F8.out)
        have x4:=Bx.cell T3.out 5 rfl
        have y4:=Bx.frozen T3.out 5
        refine hK.out _ _ (fun _=> ?_) (fun hHeld2=> ?_)
        ·exact(show(fun w'=>w'.cell? ⟨G+1,5,none⟩=some pv∧w'.cell? ⟨wr1.heap.size,0,none⟩=some (.int .i64 x.acc)∧w'.cell? ⟨wr1.heap.size,3,none⟩=some (.bool x.has)) w3 from⟨x4,Bx.cell F3.out 0 rfl,Bx.cell F3.out 3 rfl⟩)
        have hHeld:=hHeld2 (by decide)
        clear hHeld2
        clear hK K
        (try simp only [Act.put,List.setIfInBounds_toArray,List.set_cons_zero,List.set_cons_succ])
        refine un_step (i:=13) (by kernel_rfl) rfl (fun K hK=> ?_)
        go_simp
        refine hK.out _ _ (fun _=> ?_) (fun hHeld2=> ?_)
        ·exact(show(fun w'=>w'.cell? ⟨G+1,5,none⟩=some pv∧w'.cell? ⟨wr1.heap.size,0,none⟩=some (.int .i64 x.acc)∧w'.cell? ⟨wr1.heap.size,3,none⟩=some (.bool x.has)) w3 from⟨x4,Bx.cell F3.out 0 rfl,Bx.cell F3.out 3 rfl⟩)
        have hHeld:=hHeld2 (by decide)
        clear hHeld2
        clear hK K
        (try simp only [Act.put,List.setIfInBounds_toArray,List.set_cons_zero,List.set_cons_succ])
        refine un_step (i:=14) (by kernel_rfl) rfl (fun K hK=> ?_)
        go_simp
        refine hK.out _ _ (fun h=>absurd rfl h) (fun _=> ?_)
        clear hK K
        (try simp only [Act.put,List.setIfInBounds_toArray,List.set_cons_zero,List.set_cons_succ])
        refine un_done (by kernel_rfl) ?_
        have hXb:=Bx.set T3.out 5 (.slice (some ⟨g3,0,none⟩) (k+1) c3)
        have hBb:But M3 [G+1] w9 (w3.setCell ⟨G+1,5,none⟩ (.slice (some ⟨g3,0,none⟩) (k+1) c3)):=(But.of_below ((Dc.out.mono (by omega)).trans hbb)).set ⟨G+1,5,none⟩ (.inl (by simp)) _
        have hOb:=own_set (p:=⟨G+1,5,none⟩) hob (show g3≠G+1 by have:=(hob.lt g3 rfl).1;omega) (.slice (some ⟨g3,0,none⟩) (k+1) c3)
        have hsb:w9.heap.size≤(w3.setCell ⟨G+1,5,none⟩ (.slice (some ⟨g3,0,none⟩) (k+1) c3)).heap.size:=by
         have h1:=hgb.size
         have h2:=Dc.out.size
         simp only [World.size_setCell]
         omega
        clear hob hgb hbb hgg T3 F3 x4 y4 kq3 HOc Dc Db Da D0 hHeld SK TBk FBk
        generalize w3.setCell ⟨G+1,5,none⟩ (.slice (some ⟨g3,0,none⟩) (k+1) c3)=W' at*
        have B14:=Lib.hid (B8.out.of_but hBb (by omega) HG2 hXb)
        have HBT14:=Lib.hid ((HBT.out.trans ((But.of_below (S:= [G+1]) HB8.out).mono hzr (fun _ _ h=>h))).trans hBb)
        have HO14:=Lib.hid (own_eq hOb rfl (show _=((c.mths.take (k+1)).map (memM c.pool)).flatMap MemV.cells by rw [HX.out];simp only [List.map_append,List.flatMap_append,List.map_cons,List.map_nil,List.flatMap_cons,List.flatMap_nil,List.append_nil];simp only [memM,MemV.cells,HNM.out,HDS.out]))
        have hgz:M3≤W'.heap.size:=by omega
        clear hXb hBb hOb hsb hzb B8 F8 HB8
        go_wp2_with fail
        go_roundw
        case rel=>exact⟨k+1,_,by omega,by go_num,hgz,B14,HBT14,HO14⟩
        case measure=>simp [RowKit.intOf];omega
       ·obtain rfl:k=c.mths.length:=by omega
        have hrow:=HO.out
        rw [List.take_length] at hrow
        clear hlt
        obtain⟨Amo,kmo,hpv⟩:=own_slice HO.out
        subst hpv
        have HIF4:=Lib.hid (HIF3.out.keep (Kept.of_but (ok:=fun g=>G+2≤g∧g<M2) (S:= [G+1]) (show But wM3.heap.size [G+1] wM3 wr1 by rw [HM3.out];exact HBT.out) (fun g hg hm=>by simp at hm;omega)))
        have HFL4:=Lib.hid (HFL.out.keep (Kept.of_but (ok:=fun g=>G+2≤g∧g<M3) (S:= [G+1]) (show But wM3.heap.size [G+1] wM3 wr1 by rw [HM3.out];exact HBT.out) (fun g hg hm=>by simp at hm;omega)))
        go_wp2_with (first
         | (refine wpList_load_row rfl _ _ rfl (G+1) rfl _ _ _ _ Br.out.tb Tryz.underlying75 rfl (by kernel_rfl) ?_)
         | (refine wpList_store_row rfl _ _ _ rfl (w.heap.size+1) _ rfl rfl _ _ Br.out.ol.nr (by kernel_rfl) rfl (by simp [Value.oneCell']) ?_))
        have hkp:=Kept.of_but (ok:=fun g=>G+2≤g) (show But wr1.heap.size [w.heap.size+1] wr1 (wr1.setRow (w.heap.size+1) #[.string ((nameAt c.pool c.this).getD ⟨#[]⟩), .string ((nameAt c.pool c.sup).getD ⟨#[]⟩), .int .i64 c.acc, .slice Ao c.ifs.length ko, .slice Afo c.flds.length kfo, .slice Amo c.mths.length kmo]) from⟨rfl,rfl,rfl,by simp,fun q _ hm=>setRow_other _ _ _ _ (by simpa using hm)⟩) (fun q hq hm=>by simp at hm;omega)
        refine bodyPost_ret (results_two_cell rfl rfl rfl (Br.out.ol.nr.row _) rfl rfl (by kernel_rfl)) rfl ⟨Br.out.ol.bel.trans ⟨rfl,rfl,rfl,by simp,fun q hq=>setRow_other _ _ _ _ (by omega)⟩, .inr ⟨rfl,_,_,_,rfl, ?_, ?_, ?_⟩⟩
        ·have:=(((HIF4.out.mono (ok':=fun g=>G+2≤g) fun q _ hq=>hq.1).keep hkp).mono (ok':=fun g=>w.heap.size≤g) fun q _ hq=>by omega)
         simpa [outT,List.map_map,Function.comp_def] using this
        ·have:=(((HFL4.out.mono (ok':=fun g=>G+2≤g) fun q _ hq=>hq.1).keep hkp).mono (ok':=fun g=>w.heap.size≤g) fun q _ hq=>by omega)
         simpa [outT] using this
        ·have:=(((slAt_own hrow (fun g=>G+2≤g) (by omega) (by omega) (fun q hq=>by have:=(hrow.lt q hq).1;omega)).keep hkp).mono (ok':=fun g=>w.heap.size≤g) fun q _ hq=>by omega)
         simpa [outT] using this
 ·have hEb:(E !=0)=true:=by simpa using hE
  go_wp2_with (refine wpList_store_row rfl _ _ _ rfl (w.heap.size+1) _ rfl rfl _ _ B2.out.nr (by kernel_rfl) rfl (by simp [Value.oneCell']) ?_)
  refine bodyPost_ret (results_two_cell rfl rfl rfl (B2.out.nr.row zeroTyp) rfl rfl (by kernel_rfl)) rfl ⟨B2.out.bel.trans ⟨rfl,rfl,rfl,by simp,fun k hk=>setRow_other _ _ _ _ (by omega)⟩, .inl ⟨hE,rfl⟩⟩
set_option maxHeartbeats 1000000
theorem name_le {pool:List Ko} {n:Int} (ht: ∀k∈pool,k.text.size≤65536):(nameD pool n).size≤65536:=by
 unfold nameD nameAt
 rcases h:kindAt pool n 7 with _|k
 ·exact Nat.zero_le _
 ·exact text_le (n:=k.a) ht
theorem ldK_full (defs:List UInt8→Option (List UInt8)) (dn:List (List UInt8)) (hd: ∀s l,defs s=some l→s∈dn) (hc:dn.length≤64):LdK checkF defs dn where
 dom:=hd
 cnt:=hc
 out:=fun s l hs c hr p i f m ok W hW=>by
  obtain⟨hF,hn⟩:=readP_fine hr
  exact outline_any c p i f m ok W hW hF (checkF c) (fun W' hW'=>check_full c p i f m ok W' hW' hF) hn.nifs hn.nflds hn.nmths
 small:=fun s l c hs hr=>by
  obtain⟨hF,hn⟩:=readP_fine hr
  have ht: ∀k∈c.pool,k.text.size≤65536:=fun k hk=> (hF.pool k hk).2.2.1
  have h1:=name_le (n:=c.sup) ht
  have h2:=name_le (n:=c.this) ht
  refine⟨?_, ?_, ?_,fun i hi=> ?_⟩
  ·show(nameD c.pool c.sup).size≤1048576
   omega
  ·show(nameD c.pool c.this).size≤1048576
   omega
  ·show(c.ifs.map (nameD c.pool)).length≤64
   rw [List.length_map]
   exact hn.nifs
  ·obtain⟨n,_,rfl⟩:=List.mem_map.1 (show i∈c.ifs.map (nameD c.pool) from hi)
   have h3:=name_le (n:=n) ht
   omega
def noC:ClassV:=⟨0,0, [],0,0,0, [], [], []⟩
def LT.cls (σ:LT):List ClassV:=σ.ts.map fun t=> (σ.files t.1).getD noC
section
variable (ld:LT→ByteArray→Option ByteArray×LT) (P:LT→Prop) (hld: ∀σ s,P σ→P (ld σ s).2)
include hld
theorem above_ind (σ:LT) (frm to:ByteArray) (fc:Bool) (h:P σ):P (aboveW ld σ frm to fc).2:=by
 have h1:=hld σ to h
 unfold aboveW
 rcases hq:ld σ to with⟨_|e,σ1⟩
 ·rw [hq] at h1
  simp only
  split
  ·exact h1
  ·split<;>exact h1
 ·rw [hq] at h1
  exact h1
theorem faces_ind (frm:ByteArray): ∀(l:List ByteArray) (σ:LT),P σ→P (facesW ld frm l σ).2
 | [],σ,h=>h
 |t::r,σ,h=>by
  have h1:=above_ind ld P hld σ frm t true h
  unfold facesW
  rcases hq:aboveW ld σ frm t true with⟨_|e,σ1⟩
  ·rw [hq] at h1
   exact faces_ind frm r σ1 h1
  ·rw [hq] at h1
   exact h1
end
theorem load_ind (rd:ByteArray→Except ByteArray (ClassV×TypV)) (hrn: ∀s c t,rd s= .ok (c,t)→t.name=s) (P:LT→Prop) (hlast: ∀σ s c t,P σ→rd s= .ok (c,t)→s.data.toList∉σ.names→P (lastW s c t σ)): ∀(n:Nat) (going:List (List UInt8)) (σ:LT) (s:ByteArray),P σ→P (loadP rd n going σ s).2
 |0,going,σ,s,h=>h
 |n+1,going,σ,s,h=>by
  have hld: ∀σ s',P σ→P (loadP rd n (going++ [s.data.toList]) σ s').2:=fun σ s' h=>load_ind rd hrn P hlast n _ σ s' h
  have hnm: ∀σ s' x,x∈(loadP rd n (going++ [s.data.toList]) σ s').2.names→x∈σ.names∨x∉going++ [s.data.toList]:=fun σ s' x h=>names_load rd hrn n _ σ s' x h
  rw [loadP]
  split
  ·exact h
  ·split
   ·exact h
   ·rename_i h1 h2
    rcases hrd:rd s with e| ⟨c,t⟩
    ·exact h
    ·simp only
     have ha:=above_ind _ P hld σ s t.sup false h
     have na:=names_above _ _ hnm σ s t.sup false s.data.toList
     rcases hq:aboveW (loadP rd n (going++ [s.data.toList])) σ s t.sup false with⟨_|e,σ1⟩
     ·rw [hq] at ha na
      simp only at ha na⊢
      have hf:=faces_ind _ P hld s t.ifs σ1 ha
      have nf:=names_faces _ _ hnm s t.ifs σ1 s.data.toList
      rcases hw:facesW (loadP rd n (going++ [s.data.toList])) s t.ifs σ1 with⟨_|e,σ2⟩
      ·rw [hw] at hf nf
       refine hlast _ _ _ _ hf hrd fun hm=> ?_
       rcases nf hm with h3|h3
       ·rcases na h3 with h4|h4
        ·exact h1 h4
        ·exact h4 (by simp)
       ·exact h3 (by simp)
      ·rw [hw] at hf
       exact hf
     ·rw [hq] at ha
      exact ha
end Go.Proofs.YtpbnjakeielipaaGreatDoor
