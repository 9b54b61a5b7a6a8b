/-
  What the laws rest on, part 23: walks of the program's functions and plain laws. Conditions: none but those that each theorem names.
-/
import Derived.Test.YtpbnjakeielipaaGreatDoorB22
import Derived.Test.YtpbnjakeielipaaGreatDoorB21
import Derived.Test.YtpbnjakeielipaaGreatDoorB00
import Derived.Test.YtpbnjakeielipaaGreatDoorB06
import Derived.Test.YtpbnjakeielipaaGreatDoorB07
import Derived.Test.YtpbnjakeielipaaGreatDoorB19
import Derived.OrdersHeld
import Derived.Deep.RegionHeld2
set_option linter.unusedSimpArgs false
set_option linter.unusedVariables false
set_option maxRecDepth 100000
set_option maxHeartbeats 4000000
namespace Go.Proofs.YtpbnjakeielipaaGreatDoor
open Go Go.RowKit Lib
theorem argsKm_len: ∀(f:Nat) (r:ByteArray) (args:List UInt8) (e:Nat),args.length≤16→(argsK f r args e).2.1.length≤16
 |0,r,args,e,h=>by rw [argsK];exact h
 |f+1,r,args,e,h=>by
  rw [argsK]
  by_cases h1:r.size=0
  ·rw [if_pos h1];exact h
  ·rw [if_neg h1]
   by_cases h2:r.data.toList.headD 0=41
   ·rw [if_pos h2];exact h
   ·rw [if_neg h2]
    by_cases h3:fieldB (r.extract 0 (partLen r)).data.toList=false∨args.length=16
    ·rw [if_pos h3];exact h
    ·rw [if_neg h3]
     exact argsKm_len f _ _ _ (by rw [List.length_append];simp only [List.length_cons,List.length_nil];omega)
theorem kinds_small (s:ByteArray):(kindsV s).1.size≤16:=by
 unfold kindsV
 by_cases h1:s.size=0∨s.data.toList.headD 0≠40∨255<s.size
 ·rw [if_pos h1];decide
 ·rw [if_neg h1]
  have hl:=argsKm_len 256 (s.extract 1 s.size) [] 1 (by simp)
  obtain⟨⟨good,args,e⟩,hv⟩: ∃v,argsK 256 (s.extract 1 s.size) [] 1=v:=⟨_,rfl⟩
  rw [hv] at hl⊢
  dsimp only
  by_cases h2:good=false∨s.size≤e∨s.data.toList.getD e 0≠41
  ·rw [if_pos h2];decide
  ·rw [if_neg h2]
   by_cases h3:(s.extract (e+1) s.size).data.toList≠ [86]∧fieldB (s.extract (e+1) s.size).data.toList=false
   ·rw [if_pos h3];decide
   ·rw [if_neg h3]
    show args.toArray.size≤16
    simpa using hl
def mthBad (pool:List Ko) (cacc:Int) (x:MethV):Bool:=(!(textAt pool x.name).isSome|| !(textAt pool x.desc).isSome) || !methodNB ((textAt pool x.name).getD ⟨#[]⟩).data.toList|| !(kindsV ((textAt pool x.desc).getD ⟨#[]⟩)).2.2||mflags cacc x.acc ((textAt pool x.name).getD ⟨#[]⟩).data.toList||mthRet ((textAt pool x.name).getD ⟨#[]⟩).data.toList (kindsV ((textAt pool x.desc).getD ⟨#[]⟩)).2.1.data.toList ((textAt pool x.desc).getD ⟨#[]⟩).data.toList
def mthIn (pool:List Ko) (cacc:Int) (seen:List NmD) (x:MethV):Int:=mthRes (!(textAt pool x.name).isSome|| !(textAt pool x.desc).isSome) (!methodNB ((textAt pool x.name).getD ⟨#[]⟩).data.toList) (!(kindsV ((textAt pool x.desc).getD ⟨#[]⟩)).2.2) (mflags cacc x.acc ((textAt pool x.name).getD ⟨#[]⟩).data.toList) (mthRet ((textAt pool x.name).getD ⟨#[]⟩).data.toList (kindsV ((textAt pool x.desc).getD ⟨#[]⟩)).2.1.data.toList ((textAt pool x.desc).getD ⟨#[]⟩).data.toList) (decide ((((textAt pool x.name).getD ⟨#[]⟩).data.toList,((textAt pool x.desc).getD ⟨#[]⟩).data.toList)∈seen)) (codeBad x (kindsV ((textAt pool x.desc).getD ⟨#[]⟩)).1.size) (trapsNo pool x)
theorem method_book (c:ClassV) (A:Option Addr) (cap:Nat) (ifs flds mths:Value) (ok ok2:Nat→Prop) (x:MethV) (cv tv:Value) (b:Nat) (seen:List NmD) (w:World) (h:BookOk w ok c A cap ifs flds mths) (hM:MethAt w ok2 x cv tv) (hs:SeenM w b seen) (hlen:seen.length≤1048576) (hn1:Fine x.name) (hn2:Fine x.desc) (hn3: ∀t∈x.traps,Fine t.kind) (ht: ∀k∈c.pool,k.text.size≤65536):
  Calls Tryz.prog 130 #[bookV c (.slice A c.pool.length cap) ifs flds mths,methV x cv tv, .map (some b)] w fun e w'=>
   e= .returned (.int .i64 (mthIn c.pool c.acc seen x))∧But w.heap.size [b] w w'∧SeenM w' b (if mthBad c.pool c.acc x then seen else nmOf c.pool x.name x.desc::seen):=by
 have hcv:cv.oneCell'=true:=by obtain⟨Ac,kc,rfl,_,zc⟩:=sl_len hM.hcode;rfl
 have htv:tv.oneCell'=true:=by obtain⟨Ac,kc,rfl,_,zc⟩:=sl_len hM.htraps;rfl
 have hmf: ∀(fn:Fn) (first cap:Array Value) (w:World),(Instr.makeFunc fn first cap).run Tryz.prog w= .ok (.func fn first cap) w:=fun _ _ _ _=>rfl
 have BW0:=Lib.hid ((((Below.refl w.heap.size w).alloc (Nat.le_refl _) (.cells #[.int .i64 c.minor, .int .i64 c.major, .slice A c.pool.length cap, .int .i64 c.acc, .int .i64 c.this, .int .i64 c.sup,ifs,flds,mths] 248)).alloc (by simp) (.cells #[.int .i64 x.acc, .int .i64 x.name, .int .i64 x.desc, .bool x.has, .int .i64 x.stack, .int .i64 x.locals,cv,tv] 172)).alloc (by simp<;>omega) (.cells #[.map (some b)] 261))
 have X0:=Lib.hid ((bx_new w [.int .i64 c.minor, .int .i64 c.major, .slice A c.pool.length cap, .int .i64 c.acc, .int .i64 c.this, .int .i64 c.sup,ifs,flds,mths] 248).below (((Below.refl _ _).alloc (Nat.le_refl _) (.cells #[.int .i64 x.acc, .int .i64 x.name, .int .i64 x.desc, .bool x.has, .int .i64 x.stack, .int .i64 x.locals,cv,tv] 172)).alloc (by simp) (.cells #[.map (some b)] 261)) (by simp))
 have F0:=Lib.hid ((bx_new_at (w.alloc (.cells #[.int .i64 c.minor, .int .i64 c.major, .slice A c.pool.length cap, .int .i64 c.acc, .int .i64 c.this, .int .i64 c.sup,ifs,flds,mths] 248)) [.int .i64 x.acc, .int .i64 x.name, .int .i64 x.desc, .bool x.has, .int .i64 x.stack, .int .i64 x.locals,cv,tv] 172 (w.heap.size+1) (by simp)).below ((Below.refl _ _).alloc (Nat.le_refl _) (.cells #[.map (some b)] 261)) (by simp))
 have C5:=Lib.hid (show CapB _ (w.heap.size+2) (.map (some b)) from(bx_new_at ((w.alloc (.cells #[.int .i64 c.minor, .int .i64 c.major, .slice A c.pool.length cap, .int .i64 c.acc, .int .i64 c.this, .int .i64 c.sup,ifs,flds,mths] 248)).alloc (.cells #[.int .i64 x.acc, .int .i64 x.name, .int .i64 x.desc, .bool x.has, .int .i64 x.stack, .int .i64 x.locals,cv,tv] 172)) [.map (some b)] 261 (w.heap.size+2) (by simp)).cell 0 rfl)
 have H0:=Lib.hid (h.below BW0.out)
 have S0:=Lib.hid (hs.below BW0.out)
 have hbl:=hs.lt
 have HM:=Lib.hid hM
 have HN1:=Lib.hid hn1
 have HN2:=Lib.hid hn2
 have HN3:=Lib.hid hn3
 have HT:=Lib.hid ht
 have hs2:=text_le (n:=x.name) ht
 have hs3:=text_le (n:=x.desc) ht
 clear h hs hn1 hn2 hn3 ht hM
 rw [bookV_open]
 unfold methV mthIn mthBad nmOf
 obtain⟨tn,htn⟩: ∃s,textAt c.pool x.name=s:=⟨_,rfl⟩
 obtain⟨td,htd⟩: ∃s,textAt c.pool x.desc=s:=⟨_,rfl⟩
 rw [htn] at hs2⊢
 rw [htd] at hs3⊢
 have HTD:=Lib.hid htd
 have HTN:=Lib.hid htn
 clear htn htd
 have hs4:=kinds_small (td.getD ⟨#[]⟩)
 have HKD:=Lib.hid (fun W=>kinds_any (td.getD ⟨#[]⟩) W (by omega))
 obtain⟨⟨args,ret,is⟩,hkv⟩: ∃v,kindsV (td.getD ⟨#[]⟩)=v:=⟨_,rfl⟩
 rw [hkv] at HKD hs4⊢
 clear hkv
 dsimp only at HKD hs4⊢
 obtain⟨SN,hSN⟩: ∃s,(if(!tn.isSome|| !td.isSome) || !methodNB (tn.getD ⟨#[]⟩).data.toList|| !is||mflags c.acc x.acc (tn.getD ⟨#[]⟩).data.toList||mthRet (tn.getD ⟨#[]⟩).data.toList ret.data.toList (td.getD ⟨#[]⟩).data.toList then seen else((tn.getD ⟨#[]⟩).data.toList,(td.getD ⟨#[]⟩).data.toList)::seen)=s:=⟨_,rfl⟩
 rw [hSN]
 have HSN:=Lib.hid hSN
 clear hSN
 obtain⟨R,hR⟩: ∃r,mthRes (!tn.isSome|| !td.isSome) (!methodNB (tn.getD ⟨#[]⟩).data.toList) (!is) (mflags c.acc x.acc (tn.getD ⟨#[]⟩).data.toList) (mthRet (tn.getD ⟨#[]⟩).data.toList ret.data.toList (td.getD ⟨#[]⟩).data.toList) (decide (((tn.getD ⟨#[]⟩).data.toList,(td.getD ⟨#[]⟩).data.toList)∈seen)) (codeBad x args.size) (trapsNo c.pool x)=r:=⟨_,rfl⟩
 rw [hR]
 have HR:=Lib.hid hR
 clear hR
 have hz0:(((w.alloc (.cells #[.int .i64 c.minor, .int .i64 c.major, .slice A c.pool.length cap, .int .i64 c.acc, .int .i64 c.this, .int .i64 c.sup,ifs,flds,mths] 248)).alloc (.cells #[.int .i64 x.acc, .int .i64 x.name, .int .i64 x.desc, .bool x.has, .int .i64 x.stack, .int .i64 x.locals,cv,tv] 172)).alloc (.cells #[.map (some b)] 261)).heap.size=w.heap.size+3:=by simp
 go_enter Tryz.func130,Tryz.ntmps130
 go_wp2_with (first
  | (refine wpList_load_row rfl _ _ rfl w.heap.size rfl _ _ _ _ X0.out Tryz.underlying248 rfl (by kernel_rfl) ?_)
  | (go_at_call 113;refine stop_here ?_))
 generalize (((w.alloc (.cells #[.int .i64 c.minor, .int .i64 c.major, .slice A c.pool.length cap, .int .i64 c.acc, .int .i64 c.this, .int .i64 c.sup,ifs,flds,mths] 248)).alloc (.cells #[.int .i64 x.acc, .int .i64 x.name, .int .i64 x.desc, .bool x.has, .int .i64 x.stack, .int .i64 x.locals,cv,tv] 172)).alloc (.cells #[.map (some b)] 261))=w0 at*
 refine go_on ?_
 refine(text_book c A cap _ flds mths x.name ok _ H0.out HN1.out).mono ?_
 rw [HTN.out]
 rintro e w1 ⟨rfl,hb⟩
 simp only [optV]
 have hz1:=hb.size
 have B1:=Lib.hid (BW0.out.trans (hb.mono (by omega)))
 have X1:=Lib.hid (X0.out.below hb X0.out.lt)
 have F1:=Lib.hid (F0.out.below hb F0.out.lt)
 have C51:=Lib.hid (CapB.below C5.out hb)
 have H1:=Lib.hid (H0.out.below hb)
 have S1:=Lib.hid (S0.out.below hb)
 clear hb X0 F0 C5 H0 S0 BW0
 have f2:=F1.out.cell 2 rfl
 obtain⟨x1,x2,x3,x4,x5,x6,x7,x8,x9,x10,x11,x12⟩:=far w.heap.size w1.heap.size (by omega)
 obtain⟨y1,y2,y3,y4,y5,y6,y7,y8,y9,y10,y11,y12⟩:=far (w.heap.size+1) w1.heap.size (by omega)
 have BW1:=Lib.hid (((Below.refl w1.heap.size w1).alloc (Nat.le_refl _) (.cells #[.string (tn.getD ⟨#[]⟩)] 9)).alloc (by simp<;>omega) (.cells #[.bool tn.isSome] 4))
 have C7:=Lib.hid ((bx_new_at w1 [.string (tn.getD ⟨#[]⟩)] 9 _ rfl).below ((Below.refl _ _).alloc (Nat.le_refl _) (.cells #[.bool tn.isSome] 4)) (by simp<;>omega))
 have C8:=Lib.hid (bx_new_at (w1.alloc (.cells #[.string (tn.getD ⟨#[]⟩)] 9)) [.bool tn.isSome] 4 (w1.heap.size+1) (by simp))
 have XX1:=Lib.hid (X1.out.below BW1.out X1.out.lt)
 go_wp2_with (first
  | (refine wpList_load_row rfl _ _ rfl w.heap.size rfl _ _ _ _ XX1.out Tryz.underlying248 rfl (by kernel_rfl) ?_)
  | (go_at_call 113;refine stop_here ?_))
 refine go_on ?_
 clear x1 x2 x3 x4 x5 x6 x7 x8 x9 x10 x11 x12 y1 y2 y3 y4 y5 y6 y7 y8 y9 y10 y11 y12 f2 XX1
 refine(text_book c A cap _ flds mths x.desc ok _ (H1.out.below BW1.out) HN2.out).mono ?_
 rw [HTD.out]
 rintro e w2 ⟨rfl,hb⟩
 simp only [optV]
 have hz2:=hb.size
 simp only [World.size_alloc] at hz2
 have hb':=BW1.out.trans (hb.mono (by simp<;>omega))
 have B2:=Lib.hid (B1.out.trans (hb'.mono (by omega)))
 have X2:=Lib.hid (X1.out.below hb' X1.out.lt)
 have F2:=Lib.hid (F1.out.below hb' F1.out.lt)
 have C52:=Lib.hid (CapB.below C51.out hb')
 have H2:=Lib.hid (H1.out.below hb')
 have S2:=Lib.hid (S1.out.below hb')
 have C72:=Lib.hid (C7.out.below hb (by simp<;>omega))
 have C82:=Lib.hid (C8.out.below hb (by simp<;>omega))
 clear hb hb' X1 F1 C51 H1 S1 BW1 B1 C7 C8 HTD HTN
 have BW2:=Lib.hid (((Below.refl w2.heap.size w2).alloc (Nat.le_refl _) (.cells #[.string (td.getD ⟨#[]⟩)] 9)).alloc (by simp<;>omega) (.cells #[.bool td.isSome] 4))
 have C9:=Lib.hid ((bx_new_at w2 [.string (td.getD ⟨#[]⟩)] 9 _ rfl).below ((Below.refl _ _).alloc (Nat.le_refl _) (.cells #[.bool td.isSome] 4)) (by simp<;>omega))
 have C10:=Lib.hid (bx_new_at (w2.alloc (.cells #[.string (td.getD ⟨#[]⟩)] 9)) [.bool td.isSome] 4 (w2.heap.size+1) (by simp))
 go_wp2_with (go_at_call 157;refine stop_here ?_)
 refine go_on ?_
 refine(HKD.out _).mono ?_
 rintro e w3 ⟨rfl,hb⟩
 have hz3:=hb.size
 simp only [World.size_alloc] at hz3
 have hb':=BW2.out.trans (hb.mono (by simp<;>omega))
 have B3:=Lib.hid (B2.out.trans (hb'.mono (by omega)))
 have X3:=Lib.hid (X2.out.below hb' X2.out.lt)
 have F3:=Lib.hid (F2.out.below hb' F2.out.lt)
 have C53:=Lib.hid (CapB.below C52.out hb')
 have H3:=Lib.hid (H2.out.below hb')
 have S3:=Lib.hid (S2.out.below hb')
 have C73:=Lib.hid (C72.out.below hb' C72.out.lt)
 have C83:=Lib.hid (C82.out.below hb' C82.out.lt)
 have C93:=Lib.hid (C9.out.below hb (by simp<;>omega))
 have C103:=Lib.hid (C10.out.below hb (by simp<;>omega))
 clear hb hb' X2 F2 C52 H2 S2 BW2 B2 C9 C10 C72 C82 HKD
 obtain⟨y1,y2,y3,y4,y5,y6,y7,y8,y9,y10,y11,y12⟩:=far (w.heap.size+1) w3.heap.size (by omega)
 have BW3a:=Lib.hid ((((Below.refl w3.heap.size w3).alloc (Nat.le_refl _) (.cells #[.string args] 9)).alloc (by simp<;>omega) (.cells #[.string ret] 9)).alloc (by simp<;>omega) (.cells #[.bool is] 4))
 have BW3:=Lib.hid (BW3a.out.alloc (by simp<;>omega) (.cells (mthRules w.heap.size (w.heap.size+2) w1.heap.size (w1.heap.size+1) w2.heap.size (w2.heap.size+1) w3.heap.size (w3.heap.size+1) (w3.heap.size+1+1)).toArray 290))
 have FF3:=Lib.hid (F3.out.below BW3a.out F3.out.lt)
 have C11:=Lib.hid ((bx_new_at w3 [.string args] 9 _ rfl).below ((((Below.refl _ _).alloc (Nat.le_refl _) (.cells #[.string ret] 9)).alloc (by simp<;>omega) (.cells #[.bool is] 4)).alloc (by simp<;>omega) (.cells (mthRules w.heap.size (w.heap.size+2) w1.heap.size (w1.heap.size+1) w2.heap.size (w2.heap.size+1) w3.heap.size (w3.heap.size+1) (w3.heap.size+1+1)).toArray 290)) (by simp<;>omega))
 have C12:=Lib.hid ((bx_new_at (w3.alloc (.cells #[.string args] 9)) [.string ret] 9 (w3.heap.size+1) (by simp)).below (((Below.refl _ _).alloc (Nat.le_refl _) (.cells #[.bool is] 4)).alloc (by simp<;>omega) (.cells (mthRules w.heap.size (w.heap.size+2) w1.heap.size (w1.heap.size+1) w2.heap.size (w2.heap.size+1) w3.heap.size (w3.heap.size+1) (w3.heap.size+1+1)).toArray 290)) (by simp<;>omega))
 have C13:=Lib.hid ((bx_new_at ((w3.alloc (.cells #[.string args] 9)).alloc (.cells #[.string ret] 9)) [.bool is] 4 (w3.heap.size+1+1) (by simp)).below ((Below.refl _ _).alloc (Nat.le_refl _) (.cells (mthRules w.heap.size (w.heap.size+2) w1.heap.size (w1.heap.size+1) w2.heap.size (w2.heap.size+1) w3.heap.size (w3.heap.size+1) (w3.heap.size+1+1)).toArray 290)) (by simp<;>omega))
 have G3:=Lib.hid (bx_new_at (((w3.alloc (.cells #[.string args] 9)).alloc (.cells #[.string ret] 9)).alloc (.cells #[.bool is] 4)) (mthRules w.heap.size (w.heap.size+2) w1.heap.size (w1.heap.size+1) w2.heap.size (w2.heap.size+1) w3.heap.size (w3.heap.size+1) (w3.heap.size+1+1)) 290 (w3.heap.size+1+1+1) (by simp))
 have hz4:((((w3.alloc (.cells #[.string args] 9)).alloc (.cells #[.string ret] 9)).alloc (.cells #[.bool is] 4)).alloc (.cells (mthRules w.heap.size (w.heap.size+2) w1.heap.size (w1.heap.size+1) w2.heap.size (w2.heap.size+1) w3.heap.size (w3.heap.size+1) (w3.heap.size+1+1)).toArray 290)).heap.size=w3.heap.size+4:=by simp
 go_wp2_with (first
  | (refine wpList_load_row rfl _ _ rfl (w.heap.size+1) rfl _ _ _ _ FF3.out Tryz.underlying172 rfl (by kernel_rfl) ?_)
  | (go_at_call 158;refine stop_here ?_))
 refine go_on ?_
 clear y1 y2 y3 y4 y5 y6 y7 y8 y9 y10 y11 y12 FF3
 have HF:=MthW.mk (c:=c) (A:=A) (cap:=cap) (ifs:=ifs) (flds:=flds) (mths:=mths) (ok:=ok) (ok2:=ok2) (x:=x) (seen:=seen) G3.out (X3.out.below BW3.out X3.out.lt)
  (Bx.below F3.out (w':=_) BW3.out F3.out.lt) (CapB.below C53.out BW3.out) ((C73.out.below BW3.out C73.out.lt).cell 0 rfl) ((C83.out.below BW3.out C83.out.lt).cell 0 rfl) ((C93.out.below BW3.out C93.out.lt).cell 0 rfl) ((C103.out.below BW3.out C103.out.lt).cell 0 rfl) (C11.out.cell 0 rfl) (C12.out.cell 0 rfl) (C13.out.cell 0 rfl) (H3.out.below BW3.out)
  ⟨HM.out.hcode.keep (Kept.of_below (B3.out.trans (BW3.out.mono (by omega)))),HM.out.htraps.keep (Kept.of_below (B3.out.trans (BW3.out.mono (by omega))))⟩ (S3.out.below BW3.out)
 have HF2:=HF.below ((Below.refl _ _).alloc (Nat.le_refl _) (.cells #[.int .i64 x.acc, .int .i64 x.name, .int .i64 x.desc, .bool x.has, .int .i64 x.stack, .int .i64 x.locals,cv,tv] 172))
 have HF3:=MthW.mk HF2.gg HF2.kk (bx_new _ [.int .i64 x.acc, .int .i64 x.name, .int .i64 x.desc, .bool x.has, .int .i64 x.stack, .int .i64 x.locals,cv,tv] 172) HF2.c5 HF2.c7 HF2.c8 HF2.c9 HF2.c10 HF2.c11 HF2.c12 HF2.c13 HF2.bo HF2.ma HF2.sm
 refine(first_method c A cap ifs flds mths ok ok2 _ w.heap.size (w.heap.size+2) w1.heap.size (w1.heap.size+1) w2.heap.size (w2.heap.size+1) w3.heap.size (w3.heap.size+1) (w3.heap.size+1+1) b _ _ args ret tn.isSome td.isSome is x cv tv hcv htv seen _ HF3 (by omega) hs2 hs3 (by omega) hlen HN3.out).mono ?_
 rintro e w4 ⟨he,hb,hsm⟩
 have he:e= .returned (.int .i64 R):=he.trans (by rw [←HR.out])
 subst he
 have B4:=Lib.hid ((But.of_below (S:= [b]) (B3.out.trans (BW3.out.mono (by omega)))).trans (hb.mono (by omega) (fun _ _ h=>h)))
 have S4:=Lib.hid (show SeenM w4 b SN by rw [←HSN.out];exact hsm)
 clear hb hsm HF HF2 HF3
 go_wp2_with fail
 go_ret
 exact⟨rfl,B4.out,S4.out⟩
def RxAll {α:Type} (Q:α→Prop) (x:Rx α):Prop:= ∀a s,x= .ok (a,s)→Q a
theorem RxAll.bind {α β:Type} {x:Rx α} {f:α→Rs→Rx β} {Q:α→Prop} {R:β→Prop} (h:RxAll Q x) (hf: ∀a s,Q a→RxAll R (f a s)):RxAll R (Rx.bind x f):=by
 rcases x with e| ⟨a,s⟩
 ·intro b s' hb;cases hb
 ·exact hf a s (h a s rfl)
theorem RxAll.err {α:Type} {Q:α→Prop} (e:Nat×Nat):RxAll Q (.error e:Rx α):=fun a s h=>by cases h
theorem RxAll.ok {α:Type} {Q:α→Prop} {a:α} {s:Rs} (h:Q a):RxAll Q (.ok (a,s):Rx α):=fun b s' e=>by cases e;exact h
theorem RxAll.ite {α:Type} {Q:α→Prop} {c:Prop} [Decidable c] {x y:Rx α} (h1:c→RxAll Q x) (h2: ¬c→RxAll Q y):RxAll Q (if c then x else y):=by
 by_cases h:c
 ·rw [if_pos h];exact h1 h
 ·rw [if_neg h];exact h2 h
theorem beN_more (l:List UInt8) (x:UInt8):beN (l++ [x])=beN l*256+x.toNat:=by simp [beN]
theorem beN_less: ∀n (l:List UInt8),l.length=n→beN l<256^n
 |0,l,h=>by
  obtain rfl:=List.length_eq_zero_iff.1 h
  simp [beN]
 |n+1,l,h=>by
  have hne:l≠ []:=by intro e;subst e;simp at h
  obtain⟨l',x,rfl⟩: ∃l' x,l=l'++ [x]:=⟨_,_,(List.dropLast_concat_getLast hne).symm⟩
  have h':l'.length=n:=by simpa using h
  have:=beN_less n l' h'
  have hx:=x.toNat_lt
  rw [beN_more,Nat.pow_succ]
  omega
theorem bytesP_all (l:List UInt8) (n:Nat) (st:Rs):RxAll (fun b=>b.length≤n∧b.length≤l.length) (bytesP l n st):=by
 unfold bytesP
 refine RxAll.ite (fun _=> .err _) fun _=>RxAll.ite (fun _=> .err _) fun _=> .ok ⟨List.length_take_le _ _, ?_⟩
 rw [List.length_take,List.length_drop]
 omega
theorem numP_all (l:List UInt8) (n:Nat) (st:Rs) (hn:n≤4):RxAll (fun v=>v<4294967296) (numP l n st):=by
 unfold numP
 refine(bytesP_all l n st).bind fun b s hb=> .ok ?_
 have h1:=beN_less _ b rfl
 have h2:256^b.length≤256^4:=Nat.pow_le_pow_right (by omega) (by omega)
 have h3:(256:Nat)^4=4294967296:=by decide
 omega
theorem countP_all (l:List UInt8) (m:Nat) (st:Rs):RxAll (fun v=>v≤m) (countP l m st):=by
 unfold countP
 exact(numP_all l 2 st (by omega)).bind fun n s _=>RxAll.ite (fun _=> .err _) fun h=> .ok (by omega)
theorem fine_nat {n:Nat} (h:n<4294967296):Fine n:=⟨by omega,by omega⟩
theorem fine_zero:Fine 0:=⟨by decide,by decide⟩
def TagOk (n:Int):Prop:=n=1∨n=3∨n=7∨n=9∨n=10∨n=11∨n=12
def KoFine (k:Ko):Prop:=Fine k.a∧Fine k.b∧k.text.size≤65536∧TagOk k.tag
theorem koP_all (l:List UInt8) (st:Rs) (hl:l.length≤65536):RxAll KoFine (koP l st):=by
 unfold koP
 refine(numP_all l 1 st (by omega)).bind fun t s1 ht=> ?_
 refine RxAll.ite (fun _=> ?_) fun _=>RxAll.ite (fun _=> ?_) fun _=>RxAll.ite (fun _=> ?_) fun _=>RxAll.ite (fun h9=> ?_) fun _=> .err _
 ·refine(numP_all l 2 s1 (by omega)).bind fun n s2 _=> (bytesP_all l n s2).bind fun b s3 hb=> .ok ⟨fine_zero,fine_zero, ?_⟩
  refine⟨?_, .inl rfl⟩
  show b.toArray.size≤65536
  simp
  omega
 ·exact(numP_all l 4 s1 (by omega)).bind fun n s2 _=> .ok ⟨fine_zero,fine_zero,Nat.zero_le _, .inr (.inl rfl)⟩
 ·exact(numP_all l 2 s1 (by omega)).bind fun n s2 hn=> .ok ⟨fine_nat hn,fine_zero,Nat.zero_le _, .inr (.inr (.inl rfl))⟩
 ·exact(numP_all l 2 s1 (by omega)).bind fun n s2 hn=> (numP_all l 2 s2 (by omega)).bind fun m s3 hm=> .ok ⟨fine_nat hn,fine_nat hm,Nat.zero_le _,by unfold TagOk;show(t:Int)=1∨(t:Int)=3∨(t:Int)=7∨(t:Int)=9∨(t:Int)=10∨(t:Int)=11∨(t:Int)=12;omega⟩
theorem repP_all {α:Type} {f:Rs→Rx α} {Q:α→Prop} (h: ∀s,RxAll Q (f s)): ∀k st,RxAll (fun r=> (∀a∈r,Q a)∧r.length=k) (repP f k st)
 |0,st=>by
  rw [repP]
  exact .ok ⟨by simp,rfl⟩
 |k+1,st=>by
  rw [repP]
  refine(h st).bind fun a s ha=> (repP_all h k s).bind fun r s' hr=> .ok ⟨fun x hx=> ?_,by simp [hr.2]⟩
  rcases List.mem_cons.1 hx with rfl|hx
  ·exact ha
  ·exact hr.1 x hx
theorem attrP_all {σ:Type} (l:List UInt8) (want:Option (List UInt8)) (act:σ→Nat→Nat→Rs→Rx σ) {Q:σ→Prop} (ha: ∀x a n s,Q x→RxAll Q (act x a n s)): ∀k seen x st,Q x→RxAll Q (attrP l want act k seen x st)
 |0,_,x,st,hx=>by
  rw [attrP]
  exact .ok hx
 |k+1,seen,x,st,hx=>by
  rw [attrP]
  refine RxAll.bind (Q:=fun _=>True) (fun _ _ _=>trivial) fun a s1 _=>RxAll.ite (fun _=> .err _) fun _=> ?_
  refine RxAll.bind (Q:=fun _=>True) (fun _ _ _=>trivial) fun n s2 _=>RxAll.ite (fun _=> ?_) fun _=> ?_
  ·exact(ha x a.1 n s2 hx).bind fun x' s3 hx'=>attrP_all l want act ha k true x' s3 hx'
  ·exact RxAll.bind (Q:=fun _=>True) (fun _ _ _=>trivial) fun _ s3 _=>attrP_all l want act ha k seen x s3 hx
theorem attrsP_all {σ:Type} (l:List UInt8) (want:Option (List UInt8)) (act:σ→Nat→Nat→Rs→Rx σ) {Q:σ→Prop} (ha: ∀x a n s,Q x→RxAll Q (act x a n s)) (x:σ) (st:Rs) (hx:Q x):RxAll Q (attrsP l want act x st):=by
 unfold attrsP
 exact RxAll.bind (Q:=fun _=>True) (fun _ _ _=>trivial) fun k s _=>attrP_all l want act ha k false x s hx
def FieldFine (x:FieldV):Prop:=Fine x.name∧Fine x.desc∧Fine x.value
theorem fieldP_all (l:List UInt8) (st:Rs):RxAll FieldFine (fieldP l st):=by
 unfold fieldP
 refine(numP_all l 2 st (by omega)).bind fun a s1 _=> (numP_all l 2 s1 (by omega)).bind fun n s2 hn=> (numP_all l 2 s2 (by omega)).bind fun d s3 hd=> ?_
 refine attrsP_all l _ _ (fun x at' long s hx=>RxAll.ite (fun _=> .err _) fun _=> ?_) _ _ ⟨fine_nat hn,fine_nat hd,fine_zero⟩
 exact(numP_all l 2 s (by omega)).bind fun v s' hv=> .ok ⟨hx.1,hx.2.1,fine_nat hv⟩
def TrapFine (x:TrapV):Prop:=Fine x.lo∧Fine x.hi∧Fine x.tgt∧Fine x.kind
theorem trapP_all (l:List UInt8) (st:Rs):RxAll TrapFine (trapP l st):=by
 unfold trapP
 exact(numP_all l 2 st (by omega)).bind fun a s1 h1=> (numP_all l 2 s1 (by omega)).bind fun b s2 h2=> (numP_all l 2 s2 (by omega)).bind fun c s3 h3=> (numP_all l 2 s3 (by omega)).bind fun d s4 h4=> .ok ⟨fine_nat h1,fine_nat h2,fine_nat h3,fine_nat h4⟩
def MethFine (x:MethV):Prop:=Fine x.name∧Fine x.desc∧Fine x.stack∧Fine x.locals∧ ∀t∈x.traps,TrapFine t
theorem methP_all (l:List UInt8) (st:Rs):RxAll MethFine (methP l st):=by
 unfold methP
 refine(numP_all l 2 st (by omega)).bind fun a s1 _=> (numP_all l 2 s1 (by omega)).bind fun n s2 hn=> (numP_all l 2 s2 (by omega)).bind fun d s3 hd=> ?_
 refine attrsP_all l _ _ (fun x at' long s hx=> ?_) _ _ ⟨fine_nat hn,fine_nat hd,fine_zero,fine_zero,by simp⟩
 unfold codeP
 refine(numP_all l 2 _ (by omega)).bind fun sk s1 h1=> (numP_all l 2 s1 (by omega)).bind fun lo s2 h2=> (numP_all l 4 s2 (by omega)).bind fun k s3 h3=>RxAll.ite (fun _=> .err _) fun _=> ?_
 refine RxAll.bind (Q:=fun _=>True) (fun _ _ _=>trivial) fun b s4 _=>RxAll.bind (Q:=fun _=>True) (fun _ _ _=>trivial) fun k s5 _=> ?_
 refine(repP_all (trapP_all l) k s5).bind fun ts s6 hts=>RxAll.bind (Q:=fun _=>True) (fun _ _ _=>trivial) fun _ s7 _=>RxAll.ite (fun _=> .err _) fun _=> .ok ⟨hx.1,hx.2.1,fine_nat h1,fine_nat h2,hts.1⟩
structure ClassFine (c:ClassV):Prop where
 pool: ∀k∈c.pool,KoFine k
 this:Fine c.this
 sup:Fine c.sup
 ifs: ∀n∈c.ifs,Fine n
 flds: ∀x∈c.flds,FieldFine x
 mths: ∀x∈c.mths,MethFine x
structure ClassCnt (c:ClassV):Prop where
 npool:c.pool.length≤1024
 nifs:c.ifs.length≤64
 nflds:c.flds.length≤64
 nmths:c.mths.length≤64
theorem readP_fine {l:List UInt8} {c:ClassV} (h:readP l= .ok c):ClassFine c∧ClassCnt c:=by
 unfold readP at h
 by_cases hl:65536<l.length
 ·rw [if_pos hl] at h;cases h
 ·rw [if_neg hl] at h
  have key:RxAll (fun c=>ClassFine c∧ClassCnt c) (classP l ⟨0,4611686018427387904,0, []⟩):=by
   unfold classP
   refine RxAll.bind (Q:=fun _=>True) (fun _ _ _=>trivial) fun m s0 _=>RxAll.ite (fun _=> .err _) fun _=> ?_
   refine RxAll.bind (Q:=fun _=>True) (fun _ _ _=>trivial) fun mi s1 _=>RxAll.bind (Q:=fun _=>True) (fun _ _ _=>trivial) fun ma s2 _=> ?_
   refine(countP_all l 1025 s2).bind fun n s3 hn=>RxAll.ite (fun _=> .err _) fun _=> ?_
   refine(repP_all (fun s=>koP_all l s (by omega)) (n - 1) s3).bind fun pool s4 hp=> ?_
   unfold clsB
   refine RxAll.bind (Q:=fun _=>True) (fun _ _ _=>trivial) fun a s5 _=> (numP_all l 2 s5 (by omega)).bind fun t s6 ht=> (numP_all l 2 s6 (by omega)).bind fun u s7 hu=> ?_
   refine(countP_all l 64 s7).bind fun ni s8 hni=> (repP_all (fun s=>numP_all l 2 s (by omega)) ni s8).bind fun ifs s9 hi=> ?_
   unfold clsC
   refine(countP_all l 64 s9).bind fun nf s10 hnf=> (repP_all (fun s=>fieldP_all l s) nf s10).bind fun flds s11 hf=> ?_
   unfold clsD
   refine(countP_all l 64 s11).bind fun nm s12 hnm=> (repP_all (fun s=>methP_all l s) nm s12).bind fun mths s13 hm=> ?_
   unfold clsE
   refine RxAll.bind (Q:=fun _=>True) (fun _ _ _=>trivial) fun _ s14 _=>RxAll.ite (fun _=> .err _) fun _=> .ok ?_
   refine⟨⟨hp.1,fine_nat ht,fine_nat hu,fun x hx=> ?_,hf.1,hm.1⟩,by have:=hp.2;show pool.length≤1024;omega,by show(ifs.map Int.ofNat).length≤64;rw [List.length_map];omega,by show flds.length≤64;omega,by show mths.length≤64;omega⟩
   obtain⟨y,hy,rfl⟩:=List.mem_map.1 hx
   exact fine_nat (hi.1 y hy)
  rcases hc:classP l ⟨0,4611686018427387904,0, []⟩ with e| ⟨c',s⟩
  ·rw [hc] at h;cases h
  ·rw [hc] at h
   injection h with h
   subst h
   exact key c' s hc
set_option maxHeartbeats 1000000
def conF (pool:List Ko) (k:Ko):Int:=if k.tag=7 then classE pool k.a else if k.tag=12 then namedE pool k.a k.b else if k.tag=9∨k.tag=10∨k.tag=11 then memberE pool k.tag k.a k.b else 0
def seenFl (pool:List Ko) (cacc:Int) (l:List FieldV):List NmD:=l.foldl (fun s x=>if fldBad pool cacc x then s else nmOf pool x.name x.desc::s) []
def seenMt (pool:List Ko) (cacc:Int) (l:List MethV):List NmD:=l.foldl (fun s x=>if mthBad pool cacc x then s else nmOf pool x.name x.desc::s) []
theorem seenFl_len (pool:List Ko) (cacc:Int): ∀(l:List FieldV) (s:List NmD),(l.foldl (fun s x=>if fldBad pool cacc x then s else nmOf pool x.name x.desc::s) s).length≤s.length+l.length
 | [],s=>Nat.le_refl _
 |x::l,s=>by
  rw [List.foldl_cons]
  refine Nat.le_trans (seenFl_len pool cacc l _) ?_
  split<;>simp<;>omega
theorem seenM_len (pool:List Ko) (cacc:Int): ∀(l:List MethV) (s:List NmD),(l.foldl (fun s x=>if mthBad pool cacc x then s else nmOf pool x.name x.desc::s) s).length≤s.length+l.length
 | [],s=>Nat.le_refl _
 |x::l,s=>by
  rw [List.foldl_cons]
  refine Nat.le_trans (seenM_len pool cacc l _) ?_
  split<;>simp<;>omega
def checkF (c:ClassV):Int:=checkE (conF c.pool) (fun l x=>fldIn c.pool c.acc (seenFl c.pool c.acc l) x) (fun l x=>mthIn c.pool c.acc (seenMt c.pool c.acc l) x) c
theorem seen_new (W:World) (b:Nat) (h:W.heap[b]?=some (.map #[] 0)):SeenM W b []:=⟨#[],0,h,by
 refine⟨?_, ?_, ?_, ?_, ?_⟩ <;>simp⟩
theorem seen_keep {s:List NmD} (W W':World) (b:Nat) (h:SeenM W b s) (hb:W'.heap[b]?=W.heap[b]?):SeenM W' b s:=by
 obtain⟨es,clock,hm,hg⟩:=h
 exact⟨es,clock,hb.trans hm,hg⟩
theorem check_full (c:ClassV) (p i f m:Value) (ok:Nat→Prop) (w:World) (h:ClassAt w ok c p i f m) (hF:ClassFine c):
  Calls Tryz.prog 111 #[bookV c p i f m] w fun e w'=>e= .returned (.int .i64 (checkF c))∧Below w.heap.size w w':=by
 have h':=h.mono (ok':=fun g=>ok g∧g<w.heap.size) fun g hg ho=> ⟨ho,hg⟩
 have hlf:c.flds.length≤1048576:=by obtain⟨A3,k3,e3,q3,z3⟩:=sl_len h.hflds;exact z3
 have hlm:c.mths.length≤1048576:=by obtain⟨ms,m1,m2,m3⟩:=h.hmths;obtain⟨A4,k4,e4,q4,z4⟩:=sl_len m2;exact z4
 have htx: ∀k∈c.pool,k.text.size≤65536:=fun k hk=> (hF.pool k hk).2.2.1
 refine check_any c p i f m (fun g=>ok g∧g<w.heap.size) w h' (fun g hg=>hg.2) hF.this hF.sup (fun k hk=> (hF.pool k hk).1) hF.ifs htx
  (conF c.pool) (fun l x=>fldIn c.pool c.acc (seenFl c.pool c.acc l) x) (fun l x=>mthIn c.pool c.acc (seenMt c.pool c.acc l) x)
  (fun l b W=>SeenM W b (seenFl c.pool c.acc l)) (fun l b W=>SeenM W b (seenMt c.pool c.acc l)) ⟨fun W b hb=>seen_new W b hb,fun l b W W' hs hb=>seen_keep W W' b hs hb⟩ ⟨fun W b hb=>seen_new W b hb,fun l b W W' hs hb=>seen_keep W W' b hs hb⟩
  (fun k hk W hW=> ?_) (fun k x hx W b hW hb hs=> ?_) (fun k x hx W b cv tv hW hM hb hs=> ?_)
 ·obtain⟨A1,k1,rfl,q1,z1⟩:=sl_len hW.hpool
  obtain⟨A2,k2,rfl,q2,z2⟩:=sl_len hW.hifs
  obtain⟨A3,k3,rfl,q3,z3⟩:=sl_len hW.hflds
  obtain⟨ms,m1,m2,m3⟩:=hW.hmths
  obtain⟨A4,k4,rfl,q4,z4⟩:=sl_len m2
  have hk':=hF.pool k hk
  have hbo:BookOk W (fun g=>ok g∧g<w.heap.size) c A1 k1 (.slice A2 c.ifs.length k2) (.slice A3 c.flds.length k3) (.slice A4 c.mths.length k4):=⟨hW.hpool,rfl,rfl,rfl⟩
  obtain⟨tag,tx,nu,a,b⟩:=k
  obtain⟨ha,hb,ht,htag⟩:=hk'
  unfold conF
  simp only at ha hb htag⊢
  rcases htag with rfl|rfl|rfl|rfl|rfl|rfl|rfl
  ·exact constant_plain c _ _ _ _ ⟨1,tx,nu,a,b⟩ (.inl rfl) W
  ·exact constant_plain c _ _ _ _ ⟨3,tx,nu,a,b⟩ (.inr rfl) W
  ·exact constant_seven c A1 k1 _ _ _ _ tx nu a b W hbo ha htx
  ·exact constant_ref c A1 k1 _ _ _ _ 9 tx nu a b W hbo ha hb (fun k hk=> ⟨(hF.pool k hk).1,(hF.pool k hk).2.1⟩) htx (.inl rfl)
  ·exact constant_ref c A1 k1 _ _ _ _ 10 tx nu a b W hbo ha hb (fun k hk=> ⟨(hF.pool k hk).1,(hF.pool k hk).2.1⟩) htx (.inr (.inl rfl))
  ·exact constant_ref c A1 k1 _ _ _ _ 11 tx nu a b W hbo ha hb (fun k hk=> ⟨(hF.pool k hk).1,(hF.pool k hk).2.1⟩) htx (.inr (.inr rfl))
  ·exact constant_twelve c A1 k1 _ _ _ _ tx nu a b W hbo ha hb htx
 ·obtain⟨A1,k1,rfl,q1,z1⟩:=sl_len hW.hpool
  obtain⟨A2,k2,rfl,q2,z2⟩:=sl_len hW.hifs
  obtain⟨A3,k3,rfl,q3,z3⟩:=sl_len hW.hflds
  obtain⟨ms,m1,m2,m3⟩:=hW.hmths
  obtain⟨A4,k4,rfl,q4,z4⟩:=sl_len m2
  have hx':=hF.flds x (List.mem_of_getElem? hx)
  have hl:=seenFl_len c.pool c.acc (c.flds.take k) []
  have hl2:(c.flds.take k).length≤c.flds.length:=List.length_take_le' _ _
  have hst:seenFl c.pool c.acc (c.flds.take (k+1))=if fldBad c.pool c.acc x then seenFl c.pool c.acc (c.flds.take k) else nmOf c.pool x.name x.desc::seenFl c.pool c.acc (c.flds.take k):=by
   obtain⟨hlt,hg⟩:=List.getElem?_eq_some_iff.1 hx
   rw [List.take_succ_eq_append_getElem hlt,hg]
   unfold seenFl
   rw [List.foldl_append]
   rfl
  rw [hst]
  exact field_book c A1 k1 _ _ _ _ x b _ W ⟨hW.hpool,rfl,rfl,rfl⟩ hs (by unfold seenFl;simp only [List.length_nil] at hl;omega) hx'.1 hx'.2.1 hx'.2.2 htx
 ·obtain⟨A1,k1,rfl,q1,z1⟩:=sl_len hW.hpool
  obtain⟨A2,k2,rfl,q2,z2⟩:=sl_len hW.hifs
  obtain⟨A3,k3,rfl,q3,z3⟩:=sl_len hW.hflds
  obtain⟨ms,m1,m2,m3⟩:=hW.hmths
  obtain⟨A4,k4,rfl,q4,z4⟩:=sl_len m2
  have hx':=hF.mths x (List.mem_of_getElem? hx)
  have hl:=seenM_len c.pool c.acc (c.mths.take k) []
  have hl2:(c.mths.take k).length≤c.mths.length:=List.length_take_le' _ _
  have hst:seenMt c.pool c.acc (c.mths.take (k+1))=if mthBad c.pool c.acc x then seenMt c.pool c.acc (c.mths.take k) else nmOf c.pool x.name x.desc::seenMt c.pool c.acc (c.mths.take k):=by
   obtain⟨hlt,hg⟩:=List.getElem?_eq_some_iff.1 hx
   rw [List.take_succ_eq_append_getElem hlt,hg]
   unfold seenMt
   rw [List.foldl_append]
   rfl
  rw [hst]
  exact method_book c A1 k1 _ _ _ _ _ x cv tv b _ W ⟨hW.hpool,rfl,rfl,rfl⟩ hM hs (by unfold seenMt;simp only [List.length_nil] at hl;omega) hx'.1 hx'.2.1 (fun t ht=> (hx'.2.2.2.2 t ht).2.2.2) htx
section Until
variable {P:Program} {ops:Array Oper} {Q:Exit→Act→World→Prop} {S:World→Prop} {z:Nat}
def wpUn (P:Program) (ops:Array Oper) (Q:Exit→Act→World→Prop) (S:World→Prop) (z:Nat):Nat→Array Bool→Act→World→Prop
 |0,L,a,w=>Region.ready .any ops L= []∧Q .normal a w
 |f+1,L,a,w=> (Region.ready .any ops L= []→Q .normal a w)∧ ∀i∈Region.ready .any ops L,wpOp P ops Q i (fun a' w'=> (i≠z→S w')∧wpUn P ops Q S z f (L.setIfInBounds i true) a' w') a w
theorem any_of_un: ∀(f:Nat) (L:Array Bool) (a:Act) (w:World),wpUn P ops Q S z f L a w→wpAny P .any ops Q f L a w
 |0,_,_,_,h=>h
 |f+1,_,_,_,h=> ⟨h.1,fun i hi=>wpOp_mono (fun a' w' k=>any_of_un f _ a' w' k.2) (h.2 i hi)⟩
def waitsB (ops:Array Oper) (z i:Nat):Bool:=match ops[z]? with|some o=>o.after.any fun e=>Region.binds .any e&&e.on==i|none=>false
theorem un_first {i:Nat} {oi:Oper} {v:Value} (hi:ops[i]?=some oi) (hw:waitsB ops z i=true) (hs:Region.noSelect ops=true) (hQ: ∀c a w,Q (.panic c) (a.put oi.dst v) w→Q (.panic c) a w):
  ∀(f:Nat) (L:Array Bool) (a:Act) (w:World),(∀j oj,ops[j]?=some oj→j≠i→L.getD j true=false→(∀e∈oj.after,Region.binds .any e=true→e.on≠i)→oi.apart ops oj=true)→i∈Region.ready .any ops L→YieldsIf P ops S oi v a→S w→
   wpUn P ops Q S z f (L.setIfInBounds i true) (a.put oi.dst v) w→wpUn P ops Q S z (f+1) L a w:=by
 have hsel:=Region.noSelect_spec hs
 intro f
 induction f with
 |zero=>
  intro L a w hfr hr hy hS H
  refine⟨fun h=> (by rw [h] at hr;cases hr),fun j hj=> ?_⟩
  by_cases hji:j=i
  ·subst hji
   exact hy.wpOp hi hS ⟨fun _=>hS,H⟩
  ·have:=ready_mono hj hji
   rw [H.1] at this
   cases this
 |succ f ih=>
  intro L a w hfr hr hy hS H
  refine⟨fun h=> (by rw [h] at hr;cases hr),fun j hj=> ?_⟩
  by_cases hji:j=i
  ·subst hji
   exact hy.wpOp hi hS ⟨fun _=>hS,H⟩
  ·obtain⟨hjun,oj,hoj,hall⟩:=mem_ready.1 hj
   have hno: ∀e∈oj.after,Region.binds .any e=true→e.on≠i:=fun e he hb heq=>by
    have h1:=hall e he hb
    have h0:=(mem_ready.1 hr).1
    rw [heq] at h1
    rcases Nat.lt_or_ge i L.size with h'|h'
    ·simp [h'] at h0 h1
     rw [h0] at h1
     cases h1
    ·simp [Array.getElem?_eq_none h'] at h1
   have hjz:j≠z:=by
    rintro rfl
    unfold waitsB at hw
    rw [hoj] at hw
    obtain⟨e,he,h2⟩:=Array.any_eq_true'.1 hw
    simp only [Bool.and_eq_true,beq_iff_eq] at h2
    exact hno e he h2.1 h2.2
   have h2:=wpOp_putIf hoj (hfr j oj hoj hji hjun hno) (fun cs b=>hsel i oi cs b hi) (fun cs b=>hsel j oj cs b hoj) hQ hy (H.2 j (ready_mono hj hji))
   refine wpOp_mono (fun a' w' h3=> ⟨h3.2.1,ih (L.setIfInBounds j true) a' w' (fun k ok hk hki hun hn=> ?_) (ready_mono hr (Ne.symm hji)) h3.1 (h3.2.1 hjz) ?_⟩) h2
   ·refine hfr k ok hk hki ?_ hn
    by_cases hjk:j=k
    ·subst hjk
     exact hjun
    ·rw [getD_set_ne true hjk] at hun
     exact hun
   ·rw [Array.setIfInBounds_comm _ _ hji]
    exact h3.2.2
def unB (ops:Array Oper) (L:Array Bool) (z i:Nat):Bool:=Region.noSelect ops&&Region.free .any ops L i&&(Region.ready .any ops L).contains i&&waitsB ops z i
theorem un_take (i:Nat) {oi:Oper} (v:Value) {f:Nat} {L:Array Bool} {a:Act} {w:World} (hi:ops[i]?=some oi) (hb:unB ops L z i=true) (hQ: ∀c a w,Q (.panic c) (a.put oi.dst v) w→Q (.panic c) a w)
  (hw:Region.wanted oi (yielded ops a.tmps)=true) (hy: ∀w,S w→(execOp a.eval oi).run P w= .ok (.value v) w) (hS:S w) (h:wpUn P ops Q S z f (L.setIfInBounds i true) (a.put oi.dst v) w):wpUn P ops Q S z (f+1) L a w:=by
 simp only [unB,Bool.and_eq_true] at hb
 obtain⟨⟨⟨h1,h2⟩,h3⟩,h4⟩:=hb
 exact un_first hi h4 h1 hQ f L a w (Region.free_spec hi h2) (by simpa using h3) (.inl ⟨hw,hy⟩) hS h
def TkGo (P:Program) (ops:Array Oper) (S:World→Prop):List Nat→Act→(Act→Prop)→Prop
 | [],a,K=>K a
 |i::r,a,K=> ∃oi v,ops[i]?=some oi∧Region.wanted oi (yielded ops a.tmps)=true∧(∀w,S w→(execOp a.eval oi).run P w= .ok (.value v) w)∧TkGo P ops S r (a.put oi.dst v) K
theorem tk_cons {i:Nat} {r:List Nat} {oi:Oper} {a:Act} {K:Act→Prop} (v:Value) (hi:ops[i]?=some oi) (hw:Region.wanted oi (yielded ops a.tmps)=true) (hy: ∀w,S w→(execOp a.eval oi).run P w= .ok (.value v) w) (h:TkGo P ops S r (a.put oi.dst v) K):TkGo P ops S (i::r) a K:=⟨oi,v,hi,hw,hy,h⟩
theorem tk_nil {a:Act} {K:Act→Prop} (h:K a):TkGo P ops S [] a K:=h
def unsB (ops:Array Oper) (z:Nat):Array Bool→List Nat→Bool
 |_, []=>true
 |L,i::r=>unB ops L z i&&unsB ops z (L.setIfInBounds i true) r
def listL (L:Array Bool) (l:List Nat):Array Bool:=l.foldl (fun L i=>L.setIfInBounds i true) L
theorem un_go (hQ: ∀c a w d v,Q (.panic c) (a.put d v) w→Q (.panic c) a w) {w:World} (hS:S w): ∀(l:List Nat) (f:Nat) (L:Array Bool) (a:Act),unsB ops z L l=true→TkGo P ops S l a (fun a'=>wpUn P ops Q S z f (listL L l) a' w)→wpUn P ops Q S z (f+l.length) L a w
 | [],_,_,_,_,h=>h
 |i::r,f,L,a,hb,h=>by
  obtain⟨oi,v,hi,hw,hy,h⟩:=h
  unfold unsB at hb
  rw [Bool.and_eq_true] at hb
  exact un_take i v hi hb.1 (fun c a w=>hQ c a w _ _) hw hy hS (un_go hQ hS r f _ _ hb.2 h)
theorem un_many (l:List Nat) (f:Nat) {F:Nat} {L:Array Bool} {a:Act} {w:World} (hF:F=f+l.length) (hb:unsB ops z L l=true) (hQ: ∀c a w d v,Q (.panic c) (a.put d v) w→Q (.panic c) a w) (hS:S w) (h:TkGo P ops S l a (fun a'=>wpUn P ops Q S z f (listL L l) a' w)):wpUn P ops Q S z F L a w:=by
 subst hF
 exact un_go hQ hS l f L a hb h
theorem un_step {i:Nat} {o:Oper} {f:Nat} {L:Array Bool} {a:Act} {w:World} (hr:Region.ready .any ops L= [i]) (ho:ops[i]?=some o)
  (h: ∀K:Act→World→Prop,Shut (∀a w,(i≠z→S w)→((i≠z→S w)→wpUn P ops Q S z f (L.setIfInBounds i true) a w)→K a w)→if Region.wanted o (yielded ops a.tmps)=true then Oper.wp P o a w K Q else K (a.put o.dst undef) w):wpUn P ops Q S z (f+1) L a w:=by
 refine⟨fun h0=> (by rw [hr] at h0;cases h0),fun j hj=> ?_⟩
 rw [hr] at hj
 obtain rfl:=List.mem_singleton.1 hj
 exact wpOp_step ho fun K hK=>h K fun a w hS hW=>hK a w ⟨hS,hW hS⟩
theorem un_done {f:Nat} {L:Array Bool} {a:Act} {w:World} (hr:Region.ready .any ops L= []) (h:Q .normal a w):wpUn P ops Q S z f L a w:=by
 cases f with
 |zero=>exact⟨hr,h⟩
 |succ f=>exact⟨fun _=>h,fun i hi=>by rw [hr] at hi;cases hi⟩
theorem wp_region_un {id:Nat} {a:Act} {w:World} (S:World→Prop) (z:Nat) (hm:P.follows .mixedOrders=true) (hS:S w.drew) (h:S w.drew→wpUn P ops Q S z ops.size (Array.replicate ops.size false) a w.drew):(Code.region id ops true).wp P Q a w:=
 wp_region_any hm (any_of_un _ _ _ _ (h hS))
end Until
end Go.Proofs.YtpbnjakeielipaaGreatDoor
