/-
  What the laws rest on, part 28: walks of the program's functions and plain laws. Conditions: none but those that each theorem names.
-/
import Derived.Test.YtpbnjakeielipaaGreatDoorB27
import Derived.Test.YtpbnjakeielipaaGreatDoorB12
import Derived.Test.YtpbnjakeielipaaGreatDoorB00
import Derived.Lib.AppendStr
set_option linter.unusedSimpArgs false
set_option linter.unusedVariables false
set_option maxRecDepth 100000
set_option maxHeartbeats 4000000
namespace Go.Proofs.YtpbnjakeielipaaGreatDoor
open Go Go.RowKit Lib Go.Maps
def errO:Option ByteArray→Value
 |none=> .nilIface
 |some s=> .iface 88 (.string s)
def errOf (s:ByteArray):Option ByteArray:=if s=⟨#[]⟩ then none else some s
theorem errOf_some {s e:ByteArray} (h:errOf s=some e):e≠⟨#[]⟩:=by
 unfold errOf at h
 split at h
 ·cases h
 ·injection h with h
  exact h▸(by assumption)
theorem failed_w (s:ByteArray) (w:World):Calls Tryz.prog 48 #[.string s] w fun e w'=>e= .returned (errO (errOf s))∧w=w':=by
 by_cases hs:s=⟨#[]⟩
 ·subst hs
  go_enter Tryz.func48,Tryz.ntmps48
  go_wp2_with fail
  go_ret
  exact⟨rfl,rfl⟩
 ·have he:(s.toList== [])=false:=by
   rw [ByteArray.toList_eq,beq_eq_false_iff_ne]
   intro e
   exact hs (ByteArray.ext (Array.toList_inj.1 e))
  have ho:errO (errOf s)= .iface 88 (.string s):=by unfold errOf;rw [if_neg hs];rfl
  rw [ho]
  clear ho hs
  go_enter Tryz.func48,Tryz.ntmps48
  go_wp2_with fail
  go_ret
  exact⟨rfl,rfl⟩
def entf (x:WSt) (s:List UInt8) (n:Int):Option EntV:=(x.pl s).bind fun q=>q.f n
structure WKeep (x x':WSt):Prop where
 lk:LKeep ⟨x.σ.ts,x.σ.F⟩ ⟨x'.σ.ts,x'.σ.F⟩
 pl: ∀y q,x.pl y=some q→ ∃q',x'.pl y=some q'∧q'.g=q.g∧q'.m=q.m∧q'.n=q.n∧ ∀m e,q.f m=some e→q'.f m=some e
theorem WKeep.refl (x:WSt):WKeep x x:=⟨LKeep.refl _,fun y q h=> ⟨q,h,rfl,rfl,rfl,fun _ _ h=>h⟩⟩
theorem WKeep.trans {x y z:WSt} (h:WKeep x y) (k:WKeep y z):WKeep x z:=⟨h.lk.trans k.lk,fun s q hq=>by
 obtain⟨q1,a1,a2,a3,a4,a5⟩:=h.pl s q hq
 obtain⟨q2,b1,b2,b3,b4,b5⟩:=k.pl s q1 a1
 exact⟨q2,b1,b2.trans a2,b3.trans a3,b4.trans a4,fun m e hm=>b5 m e (a5 m e hm)⟩⟩
theorem WKeep.load (x:WSt) (s:ByteArray):WKeep x (x.load s):=⟨keep_load _ _ _ _ _,fun y q h=> ⟨q,h,rfl,rfl,rfl,fun _ _ h=>h⟩⟩
theorem WKeep.ent {x x':WSt} (h:WKeep x x') {s:List UInt8} {n:Int} {e:EntV} (he:entf x s n=some e):entf x' s n=some e:=by
 unfold entf at*
 rcases hq:x.pl s with _|q
 ·rw [hq] at he;cases he
 ·rw [hq] at he
  obtain⟨q',a1,_,_,_,a5⟩:=h.pl s q hq
  rw [a1]
  exact a5 n e he
def CmP (B:Nat) (p:WPos) (L:LPos) (v:Value) (x:WSt) (T:Nat) (s:List UInt8) (A:Int→Prop) (W:World) (e:Ending) (w':World):Prop:=
 ∃(L':LPos) (v':Value) (x':WSt) (f:FndV) (o:Option ByteArray),e= .returned (.tuple #[.agg #[.string f.cls, .int .i64 f.at_],errO o])∧(∀r,o=some r→r≠⟨#[]⟩)∧LLe L L'∧WdAt B p L' v' x' T w'∧WFr B p L v x W L' v' x' w'∧WKeep x x'∧ ∀y m,(y≠s∨ ¬A m)→entf x' y m=entf x y m
theorem WdAt.below {B:Nat} {p:WPos} {L:LPos} {v:Value} {x:WSt} {T:Nat} {W W':World} (h:WdAt B p L v x T W) (hb:Below W.heap.size W W'):WdAt B p L v x T W':=by
 obtain⟨k,h1,h2⟩:=h
 exact⟨k,h1,h2.below hb⟩
theorem WFr.of_and {B:Nat} {p:WPos} {L:LPos} {v:Value} {x:WSt} {W W':World} (xs:List Nat) (hB:B≤W.heap.size) (h:Below W.heap.size W W'):WFr B p L v x W (L.and xs) v x W':=⟨h.mono hB,fun g hg ho=> ⟨ho,h.block g hg⟩⟩
theorem WFr.store {B:Nat} {p:WPos} {L L':LPos} {v v':Value} {x x':WSt} {W W5 W6:World} (h:WFr B p L v x W L' v' x' W5) {S:List Nat} (hb:But W5.heap.size S W5 W6) (hS: ∀g∈S,W.heap.size≤g) (hB:B≤W.heap.size):WFr B p L v x W L' v' x' W6:=
 ⟨h.bel.trans (hb.mono (S':= []) (Nat.le_trans hB h.bel.size) (fun g hg hm=>by have:=hS g hm;omega)).below,fun g hg ho=>by
  obtain⟨h1,h2⟩:=h.out g hg ho
  exact⟨h1,(hb.block g (Nat.lt_of_lt_of_le hg h.bel.size) (fun hm=>by have:=hS g hm;omega)).trans h2⟩⟩
theorem but_two (W:World) (g:Nat) (y z:Value):But W.heap.size [g] W ((W.setCell ⟨g,0,none⟩ y).setCell ⟨g,1,none⟩ z):=((But.refl _ _ _).set ⟨g,0,none⟩ (.inl (by simp)) _).set ⟨g,1,none⟩ (.inl (by simp)) _
theorem WdAt.side {B:Nat} {p:WPos} {L:LPos} {v:Value} {x:WSt} {T:Nat} {W W':World} (h:WdAt B p L v x T W) (S:List Nat) (hS: ∀g∈S,g∈L.ex∧Out p L v x g∧B≤g) (hb:But W.heap.size S W W'):WdAt B p L v x T W':=by
 obtain⟨k,h1,h2⟩:=h
 exact⟨k,h1,h2.side S hS hb⟩
theorem WdAt.ands {B:Nat} {p:WPos} {L:LPos} {v:Value} {x:WSt} {T:Nat} {W W':World} (h:WdAt B p L v x T W) (hb:Below W.heap.size W W') (xs:List Nat) (h1: ∀y∈xs,W.heap.size≤y) (h2: ∀y∈xs,y<W'.heap.size):WdAt B p (L.and xs) v x T W':=by
 obtain⟨k,h3,h4⟩:=h
 exact⟨k,h3,h4.ands hb xs h1 h2⟩
theorem WdAt.outNew {B:Nat} {p:WPos} {L:LPos} {v:Value} {x:WSt} {T:Nat} {W:World} (h:WdAt B p L v x T W) {g:Nat} (hg:W.heap.size≤g):Out p L v x g:=by
 obtain⟨k,h1,h2⟩:=h
 exact h2.outNew hg
theorem WdAt.Ble {B:Nat} {p:WPos} {L:LPos} {v:Value} {x:WSt} {T:Nat} {W:World} (h:WdAt B p L v x T W):B≤W.heap.size:=by
 obtain⟨k,h1,h2⟩:=h
 exact h2.Ble
def illeW:ByteArray:=⟨#[106,97,118,97,47,108,97,110,103,47,73,108,108,101,103,97,108,65,99,99,101,115,115,69,114,114,111,114]⟩
theorem wclass_any {B:Nat} {p:WPos} {L:LPos} {v:Value} {x:WSt} {T:Nat} {W:World} (h:WdAt B p L v x T W) (s:ByteArray) (hs:s.size≤1048576) {c:ClassV} (hf:x.σ.F s.data.toList=some c) (k:Ko) {u:Ko} (hu:kindAt c.pool k.a 1=some u) (A:Int→Prop):
  Calls Tryz.prog 28 #[.pointer (some ⟨p.wb,0,none⟩), .string s,koV k] W (CmP B p L v x T s.data.toList A W):=by
 obtain⟨k0,hk0,hK⟩:=h
 obtain⟨m1,m2,hpu,hut,hum⟩:=kindAt_get hu
 have hus:u.text.size≤65536:=(hK.ok.fok _ c hf).txt u hum
 have HB1:=Lib.hid ((Below.refl W.heap.size W).alloc (Nat.le_refl _) (.cells #[.int .i64 k.tag, .string k.text, .int .i64 k.num, .int .i64 k.a, .int .i64 k.b] 81))
 have HB2:=Lib.hid (HB1.out.alloc HB1.out.size (.cells #[.string ⟨#[]⟩, .int .i64 0] 37))
 have X1:=Lib.hid ((bx_new W [.int .i64 k.tag, .string k.text, .int .i64 k.num, .int .i64 k.a, .int .i64 k.b] 81).below ((Below.refl _ (W.alloc (.cells #[.int .i64 k.tag, .string k.text, .int .i64 k.num, .int .i64 k.a, .int .i64 k.b] 81))).alloc (Nat.le_refl _) (.cells #[.string ⟨#[]⟩, .int .i64 0] 37)) (by simp))
 have X2:=Lib.hid (bx_new (W.alloc (.cells #[.int .i64 k.tag, .string k.text, .int .i64 k.num, .int .i64 k.a, .int .i64 k.b] 81)) [.string ⟨#[]⟩, .int .i64 0] 37)
 have hz1:(W.alloc (.cells #[.int .i64 k.tag, .string k.text, .int .i64 k.num, .int .i64 k.a, .int .i64 k.b] 81)).heap.size=W.heap.size+1:=by simp
 have hz2:((W.alloc (.cells #[.int .i64 k.tag, .string k.text, .int .i64 k.num, .int .i64 k.a, .int .i64 k.b] 81)).alloc (.cells #[.string ⟨#[]⟩, .int .i64 0] 37)).heap.size=W.heap.size+2:=by simp
 rw [hz1] at X2
 have h2:=hK.below HB2.out
 have c0:=h2.bx.cell 0 rfl
 have HR:=Lib.hid (raw_some h2.ld s hs hf)
 have H0:=Lib.hid hK
 have HM:=Lib.hid (And.intro m1 (And.intro m2 hpu))
 have hwl:=hK.wlt
 unfold koV
 clear hf hu h2 hK hpu hut hum
 go_enter Tryz.func28,Tryz.ntmps28
 go_wp2_with (go_at_call 46;refine HR.out.mono ?_;rintro e w3 ⟨pv,iv,fv,mv,rfl,hsl,hone,hb3⟩;refine stop_here ?_)
 generalize (W.alloc (.cells #[.int .i64 k.tag, .string k.text, .int .i64 k.num, .int .i64 k.a, .int .i64 k.b] 81)).alloc (.cells #[.string ⟨#[]⟩, .int .i64 0] 37)=w2 at*
 have Z:=Lib.hid (bx_new w3 zeroClass 104)
 unfold zeroClass at Z
 have HB3:=Lib.hid hb3
 obtain⟨Ap,kp,rfl,hkp,hml⟩:=sl_len hsl
 have HSL:=Lib.hid hsl
 have HON:=Lib.hid (show #[.int .i64 c.minor, .int .i64 c.major, .slice Ap c.pool.length kp, .int .i64 c.acc, .int .i64 c.this, .int .i64 c.sup,iv,fv,mv].all (·.oneCell')=true by simp [Value.oneCell'];exact⟨hone.1,hone.2.1,hone.2.2⟩)
 unfold bookC
 clear hb3 hsl hone
 refine go_on ?_
 go_wp2_with (refine wpList_store_row rfl _ _ _ rfl w3.heap.size _ rfl rfl _ _ Z.out (by kernel_rfl) rfl HON.out ?_;refine stop_here ?_)
 have HB4:=Lib.hid (below_row ((Below.refl w3.heap.size w3).alloc (Nat.le_refl _) (.cells #[.int .i64 0, .int .i64 0, .slice none 0 0, .int .i64 0, .int .i64 0, .int .i64 0, .slice none 0 0, .slice none 0 0, .slice none 0 0] 104)) w3.heap.size #[.int .i64 c.minor, .int .i64 c.major, .slice Ap c.pool.length kp, .int .i64 c.acc, .int .i64 c.this, .int .i64 c.sup,iv,fv,mv] (Nat.le_refl _))
 have Z4:=Lib.hid ((show Bx _ w3.heap.size [.int .i64 0, .int .i64 0, .slice none 0 0, .int .i64 0, .int .i64 0, .int .i64 0, .slice none 0 0, .slice none 0 0, .slice none 0 0] 104 from Z.out).row [.int .i64 c.minor, .int .i64 c.major, .slice Ap c.pool.length kp, .int .i64 c.acc, .int .i64 c.this, .int .i64 c.sup,iv,fv,mv])
 generalize (w3.alloc (.cells #[.int .i64 0, .int .i64 0, .slice none 0 0, .int .i64 0, .int .i64 0, .int .i64 0, .slice none 0 0, .slice none 0 0, .slice none 0 0] 104)).setRow w3.heap.size #[.int .i64 c.minor, .int .i64 c.major, .slice Ap c.pool.length kp, .int .i64 c.acc, .int .i64 c.this, .int .i64 c.sup,iv,fv,mv]=w4 at*
 have HW4:=Lib.hid (HB3.out.trans (HB4.out.mono HB3.out.size))
 have Y1:=Lib.hid (X1.out.below HW4.out (by omega))
 have Y2:=Lib.hid (X2.out.below HW4.out (by omega))
 have HBW:=Lib.hid (HB2.out.trans (HW4.out.mono (by omega)))
 have hsl4:=HSL.out.keep (kept_any HB4.out)
 obtain⟨j,hj⟩: ∃j:Nat,k.a=(j:Int)+1:=⟨(k.a - 1).toNat,by have:=HM.out.1;omega⟩
 have hpj:c.pool[j]?=some u:=by rw [←HM.out.2.2,hj];congr 1;omega
 obtain⟨b,o,rfl,g1,a0,a1,a2,a3,a4⟩:=pool_cells hsl4 j u hpj
 have hjl:j<c.pool.length:=(List.getElem?_eq_some_iff.1 hpj).1
 have y3:=Y1.out.cell 3 rfl
 rw [hj] at y3
 have p2:=Z4.out.cell 2 rfl
 have HA4:=Lib.hid (show WdAt B p (L.and [W.heap.size+1]) v x T w4 from(WdAt.ands ⟨k0,hk0,H0.out⟩ HBW.out [W.heap.size+1] (by simp) (by simp;have:=HW4.out.size;omega)))
 have HL:=Lib.hid (wload_any HA4.out u.text (by omega))
 have hz3:=HB3.out.size
 have hz4:=HB4.out.size
 clear hpj hj hsl4
 refine go_on ?_
 go_wp2_with (go_at_call 8;refine HL.out.mono ?_;rintro e w5 ⟨rfl,v5,h5,hf5⟩;refine stop_here ?_)
 have hout: ∀g,W.heap.size≤g→Out p L v x g:=fun g hg=>H0.out.outNew hg
 have V1:=Lib.hid (hf5.bx Y1.out (hout _ (by omega)))
 have V2:=Lib.hid (hf5.bx Y2.out (hout _ (by omega)))
 have HO5:=Lib.hid (hf5.out (W.heap.size+1) (by omega) (hout _ (by omega))).1
 have HFR:=Lib.hid ((WFr.of_and (p:=p) (L:=L) (v:=v) (x:=x) [W.heap.size+1] H0.out.Ble HBW.out).trans hf5)
 have H5:=Lib.hid h5
 have hz5:=hf5.bel.size
 have hBle:=H0.out.Ble
 have HFail:=Lib.hid (failed_w (x.σ.says u.text))
 obtain⟨r,hr⟩: ∃r,errOf (x.σ.says u.text)=r:=⟨_,rfl⟩
 rw [hr] at HFail
 have HRN:=Lib.hid (fun r' (e:r=some r')=>errOf_some (hr.trans e))
 have HWK:=Lib.hid (WKeep.load x u.text)
 obtain⟨x5,hx5⟩: ∃x5,x.load u.text=x5:=⟨_,rfl⟩
 have HPL:=Lib.hid (show∀y m,entf x5 y m=entf x y m from fun y m=>by rw [←hx5];rfl)
 rw [hx5] at HO5 HFR H5 HWK
 obtain⟨ans,hans⟩: ∃ans,x.σ.says u.text=ans:=⟨_,rfl⟩
 rw [hans] at HFail⊢
 have y0:=V2.out.cell 0 rfl
 have y1:=V2.out.cell 1 rfl
 have z0:=V2.out.frozen 0
 have z1:=V2.out.frozen 1
 -- what is left behind a store into the result
 have FIN:=Lib.hid (fun(f:FndV) (o:Option ByteArray) (ho: ∀r,o=some r→r≠⟨#[]⟩)=>show CmP B p L v x T s.data.toList A W (.returned (.tuple #[.agg #[.string f.cls, .int .i64 f.at_],errO o])) ((w5.setCell ⟨W.heap.size+1,0,none⟩ (.string f.cls)).setCell ⟨W.heap.size+1,1,none⟩ (.int .i64 f.at_)) from
  ⟨L.and [W.heap.size+1],v5,x5,f,o,rfl,ho,LLe.and L _,H5.out.side [W.heap.size+1] (fun g hg=>by
   simp only [List.mem_singleton] at hg
   subst hg
   exact⟨List.mem_append_left _ (by simp),HO5.out,by omega⟩) (but_two _ _ _ _),HFR.out.store (but_two _ _ _ _) (by simp) hBle,HWK.out,fun y m _=>HPL.out y m⟩)
 clear h5 hf5 hr hx5 hans
 refine go_on ?_
 go_wp2_with (go_at_call 48;refine(HFail.out _).mono ?_;rintro e w6 ⟨rfl,rfl⟩;refine stop_here ?_)
 cases r with
 |some r'=>
  unfold errO
  refine go_on ?_
  go_wp2_with fail
  refine bodyPost_ret (results_two_cell rfl rfl rfl (bx_two V2.out _ _) Tryz.underlying37 rfl rfl) rfl (FIN.out fnd0 (some r') HRN.out)
 |none=>
  obtain⟨k5,hk5,hK5⟩:=H5.out
  obtain⟨g,cap,ts,rfl,hkey,hT,hc4⟩:=hK5.ld.tab hK5.ok.sm
  have HTab:=Lib.hid (table_any L.lb (tabV g cap ts) ⟨_,_,_,rfl⟩ _ hc4)
  have d0:=hK5.bx.cell 0 rfl
  have HSees:=Lib.hid (sees_all s u.text _ hT.cap (by have:=hT.le;omega) hT.c hs (by omega))
  unfold tabV at HTab
  unfold errO
  have hgl:=hT.lt
  obtain⟨sb,hsb⟩: ∃b,seesB (ts.map TyV.key) s u.text=b:=⟨_,rfl⟩
  rw [hsb] at HSees
  have hwl5:=hK5.wlt
  clear hT hc4 hK5 hsb
  refine go_on ?_
  cases sb
  ·go_wp2_with (first
    | (go_at_call 22;refine HTab.out.mono ?_;rintro e w6 ⟨rfl,rfl⟩)
    | (go_at_call 49;refine HSees.out.mono ?_;rintro e w6 ⟨rfl,rfl⟩))
   refine bodyPost_ret (results_two_cell rfl rfl rfl (bx_two V2.out _ _) Tryz.underlying37 rfl rfl) rfl (FIN.out fnd0 (some illeW) (by intro r e;cases e;decide))
  ·go_wp2_with (first
    | (go_at_call 22;refine HTab.out.mono ?_;rintro e w6 ⟨rfl,rfl⟩)
    | (go_at_call 49;refine HSees.out.mono ?_;rintro e w6 ⟨rfl,rfl⟩))
   refine bodyPost_ret (results_two_cell rfl rfl rfl (bx_two V2.out _ _) Tryz.underlying37 rfl rfl) rfl (FIN.out ⟨u.text,0⟩ none (by intro r e;cases e))
end Go.Proofs.YtpbnjakeielipaaGreatDoor
namespace Go.Proofs.YtpbnjakeielipaaGreatDoor
open Go Go.RowKit Lib
def AtL (l:List UInt8) (p:Nat) (r:List UInt8):Prop:= ∃pre,l=pre++r∧pre.length=p
theorem AtL.next {l:List UInt8} {p:Nat} {b r:List UInt8} (h:AtL l p (b++r)):AtL l (p+b.length) r:=by
 obtain⟨pre,e,hp⟩:=h
 exact⟨pre++b,by rw [e,List.append_assoc],by rw [List.length_append,hp]⟩
set_option maxRecDepth 10000
def hiB (n:Nat):UInt8:=UInt8.ofNat (n/256)
def loB (n:Nat):UInt8:=UInt8.ofNat (n%256)
def bareL (n s:List UInt8):List UInt8:=
 [202,254,186,190]++([0,0]++([0,52]++([0,5]++(1::hiB n.length::loB n.length::(n++(7::0::1::(1::hiB s.length::loB s.length::(s++(7::0::3::([0,33]++([0,2]++([0,4]++([0,0]++([0,0]++([0,0]++([0,0]++ []))))))))))))))))
set_option maxRecDepth 100000
set_option maxHeartbeats 1000000
theorem put2_any (v:Int) (w:World):
  Calls Tryz.prog 61 #[.int .i64 v, .int .i64 2] w fun e w'=> ∃r,e= .returned r∧w'.ownsRow w.heap.size 5 1 r 2 [.int .u8 (v/256%256), .int .u8 (v%256)]∧Below w.heap.size w w':=by
 go_enter Tryz.func61,Tryz.ntmps61
 go_wp2
 refine wp_loop_rounds 3 ?_
 rw [rounds_succ]
 go_wp2_with (at_builtin;refine wpl_append rfl _ _ 35 rfl Tryz.underlying35 info_u8 rfl (by omega) w.heap.size rfl (World.ownsRow_nil _ _ _ _) rfl rfl (cells_new_at _ _ _ _ (by simp)) (by simp [Value.oneCell']) (by simp [maxLen]) (by omega) (by simp) ?_;intro v1 w1 ho1 hg1 hb1;have hz1:=hb1.size;simp only [World.size_alloc] at hz1;have hB1:=Lib.hid (((Below.refl w.heap.size w).alloc (Nat.le_refl _) _).trans hb1))
 rw [rounds_succ]
 go_wp2_with (at_builtin;refine wpl_append rfl _ _ 35 rfl Tryz.underlying35 info_u8 rfl (by omega) w.heap.size rfl (ho1.alloc _) rfl rfl (cells_new_at _ _ _ _ (by simp)) (by simp [Value.oneCell']) (by simp [maxLen]) (by omega) (by have:=hz1;simp;omega) ?_;intro v2 w2 ho2 hg2 hb2;have hz2:=hb2.size;simp only [World.size_alloc] at hz2;have hB2:=Lib.hid ((hB1.out.alloc (by omega) _).trans hb2))
 rw [rounds_succ]
 go_wp2
 go_ret
 exact⟨_,rfl,ho2,hB2.out⟩
theorem put4_any (v:Int) (w:World):
  Calls Tryz.prog 61 #[.int .i64 v, .int .i64 4] w fun e w'=> ∃r,e= .returned r∧w'.ownsRow w.heap.size 5 1 r 4 [.int .u8 (v/16777216%256), .int .u8 (v/65536%256), .int .u8 (v/256%256), .int .u8 (v%256)]∧Below w.heap.size w w':=by
 go_enter Tryz.func61,Tryz.ntmps61
 go_wp2
 refine wp_loop_rounds 5 ?_
 rw [rounds_succ]
 go_wp2_with (at_builtin;refine wpl_append rfl _ _ 35 rfl Tryz.underlying35 info_u8 rfl (by omega) w.heap.size rfl (World.ownsRow_nil _ _ _ _) rfl rfl (cells_new_at _ _ _ _ (by simp)) (by simp [Value.oneCell']) (by simp [maxLen]) (by omega) (by simp) ?_;intro v1 w1 ho1 hg1 hb1;have hz1:=hb1.size;simp only [World.size_alloc] at hz1;have hB1:=Lib.hid (((Below.refl w.heap.size w).alloc (Nat.le_refl _) _).trans hb1))
 rw [rounds_succ]
 go_wp2_with (at_builtin;refine wpl_append rfl _ _ 35 rfl Tryz.underlying35 info_u8 rfl (by omega) w.heap.size rfl (ho1.alloc _) rfl rfl (cells_new_at _ _ _ _ (by simp)) (by simp [Value.oneCell']) (by simp [maxLen]) (by omega) (by have:=hz1;simp;omega) ?_;intro v2 w2 ho2 hg2 hb2;have hz2:=hb2.size;simp only [World.size_alloc] at hz2;have hB2:=Lib.hid ((hB1.out.alloc (by omega) _).trans hb2))
 rw [rounds_succ]
 go_wp2_with (at_builtin;refine wpl_append rfl _ _ 35 rfl Tryz.underlying35 info_u8 rfl (by omega) w.heap.size rfl (ho2.alloc _) rfl rfl (cells_new_at _ _ _ _ (by simp)) (by simp [Value.oneCell']) (by simp [maxLen]) (by omega) (by have:=hz2;simp;omega) ?_;intro v3 w3 ho3 hg3 hb3;have hz3:=hb3.size;simp only [World.size_alloc] at hz3;have hB3:=Lib.hid ((hB2.out.alloc (by omega) _).trans hb3))
 rw [rounds_succ]
 go_wp2_with (at_builtin;refine wpl_append rfl _ _ 35 rfl Tryz.underlying35 info_u8 rfl (by omega) w.heap.size rfl (ho3.alloc _) rfl rfl (cells_new_at _ _ _ _ (by simp)) (by simp [Value.oneCell']) (by simp [maxLen]) (by omega) (by have:=hz3;simp;omega) ?_;intro v4 w4 ho4 hg4 hb4;have hz4:=hb4.size;simp only [World.size_alloc] at hz4;have hB4:=Lib.hid ((hB3.out.alloc (by omega) _).trans hb4))
 rw [rounds_succ]
 go_wp2
 go_ret
 exact⟨_,rfl,ho4,hB4.out⟩
theorem own_src {w:World} {base:Nat} {e:TypeId} {g n cap:Nat} {xs:List Value} (h:w.ownsRow base e 1 (.slice (some ⟨g,0,none⟩) n cap) n xs): ∀j u,xs[j]?=some u→w.cell? ((⟨g,0,none⟩:Addr).add j)=some u:=fun j u hj=>by
 have hl:j<n:=by
  have:=(List.getElem?_eq_some_iff.1 hj).1
  have:=h.1
  omega
 rw [add_cell,Nat.zero_add,h.cellAt j (by omega)]
 exact hj
def twoV (v:Int):List Value:= [.int .u8 (v/256%256), .int .u8 (v%256)]
theorem twos_snoc {L:List Int} {i:Nat} {v:Int} (h:L[i]?=some v):(L.take (i+1)).flatMap twoV=(L.take i).flatMap twoV++twoV v:=by
 rw [List.take_add_one,h]
 simp
theorem two_any (base g n cap:Nat) (xs:List Value) (bl off m capl:Nat) (L:List Int) (w:World) (ho:w.ownsRow base 5 1 (.slice (some ⟨g,0,none⟩) n cap) n xs) (hbase:base≤w.heap.size) (h0:0<n) (hn:n≤100000) (hL:L.length=m) (hm:m≤1000) (hml:m≤capl)
  (hc: ∀j v,L[j]?=some v→w.cell? ⟨bl,off+j,none⟩=some (.int .i64 v)) (hlt:bl<w.heap.size) (hne:bl≠g):
  Calls Tryz.prog 62 #[.slice (some ⟨g,0,none⟩) n cap, .slice (some ⟨bl,off,none⟩) m capl] w fun e w'=> ∃g' cap',e= .returned (.slice (some ⟨g',0,none⟩) (n+2*m) cap')∧
   w'.ownsRow base 5 1 (.slice (some ⟨g',0,none⟩) (n+2*m) cap') (n+2*m) (xs++L.flatMap twoV)∧But w.heap.size [g] w w'∧(g'=g∨w.heap.size≤g'):=by
 have HO:=Lib.hid ho
 have HL:=Lib.hid hL
 have HC:=Lib.hid hc
 have hgb:=(ho.lt g rfl)
 clear ho hL hc
 go_enter Tryz.func62,Tryz.ntmps62
 go_wp2_with fail
 go_loopw [0,5] (fun b i wr=> ∃k g' cap':Nat,i= .int .i64 k∧k≤m∧b= .slice (some ⟨g',0,none⟩) (n+2*k) cap'∧Hid (wr.ownsRow base 5 1 (.slice (some ⟨g',0,none⟩) (n+2*k) cap') (n+2*k) (xs++(L.take k).flatMap twoV))∧Hid (But w.heap.size [g] w wr)∧(g'=g∨w.heap.size≤g')) (fun _ i _=>m - (RowKit.intOf i).toNat)
 case atStart=>exact⟨0,g,cap,rfl,by omega,rfl,by first|exact(by simpa using HO.out:w.ownsRow _ _ _ _ _ _) |exact Lib.hid (by simpa using HO.out),by first|exact But.refl _ _ _|exact Lib.hid (But.refl _ _ _), .inl rfl⟩
 case round=>
  obtain⟨k,g1,c1,rfl,hk,rfl,HO1,HB1,hg1⟩:=hrel
  have hz1:=HB1.out.size
  by_cases hlt2:k<m
  ·obtain⟨v,hv⟩: ∃v,L[k]?=some v:=⟨_,List.getElem?_eq_getElem (by rw [HL.out];exact hlt2)⟩
   have cv:=(HB1.out.cell (p:=⟨bl,off+k,none⟩) hlt (by simpa using hne)).trans (HC.out k v hv)
   have HV:=Lib.hid (twos_snoc hv)
   clear hv
   go_wp2_with (go_at_call 61;refine(put2_any _ _).mono ?_;rintro e p ⟨r,rfl,hq,hbp⟩;refine stop_here ?_)
   obtain⟨gp,kp,rfl,_,_⟩:=hq.form (by omega)
   have HQ:=Lib.hid (own_src hq)
   have HO2:=Lib.hid (own_heap HO1.out fun q hq=>hbp.block q (HO1.out.lt q hq).2)
   have HB2:=Lib.hid (HB1.out.trans (But.of_below (hbp.mono hz1)))
   have hg1s:=(HO1.out.lt g1 rfl).2
   have hzp:=hbp.size
   clear hq hbp cv
   refine go_on ?_
   go_wp2_with (at_builtin;refine wpl_lies (v:= .slice (some ⟨g1,0,none⟩) (n+2*k) c1) rfl _ _ 35 rfl Tryz.underlying35 info_u8 rfl (by omega) base rfl HO2.out rfl rfl (fun _=> ⟨_,rfl,HQ.out⟩) (by simp [Value.oneCell']) (by omega) (by simp only [maxLen];omega) (by omega) (by omega) ?_;intro g3 c3 w3 ho3 hg3 hb3 hgg3 hlt3;refine stop_here ?_)
   have HO3:=Lib.hid (own_eq ho3 (show n+2*k+2=n+2*k+2 from rfl) (show _=xs++(L.take (k+1)).flatMap twoV by rw [HV.out, ←List.append_assoc];rfl))
   have HB3:=Lib.hid (HB2.out.grown hg3 (by omega) (fun q hq=>by
    have e:g1=q:=by simpa [Value.ownBlock] using hq
    subst e
    rcases hg1 with h|h
    ·left
     simp [h]
    ·right
     exact h))
   have hg3':g3=g∨w.heap.size≤g3:=by
    rcases hgg3 with h|h
    ·have e:g1=g3:=by simpa [Value.ownBlock] using h
     subst e
     exact hg1
    ·right
     omega
   clear ho3 hg3 hb3 hgg3
   refine go_on ?_
   go_wp2_with fail
   go_roundw
   case rel=>exact⟨k+1,g3,c3,by go_num,by omega,by first|rfl| (congr 1),HO3,HB3,hg3'⟩
   case measure=>simp [RowKit.intOf];omega
  ·have hkm:k=m:=by omega
   subst hkm
   have ht:L.take k=L:=List.take_of_length_le (by have:=HL.out;omega)
   rw [ht] at HO1
   go_wp2_with fail
   go_ret
   exact⟨g1,c1,rfl,HO1.out,HB1.out,hg1⟩
theorem app_str {P:Program} (w:World) (base:Nat) (t u ty e:TypeId) (ht:P.underlying t=some (.slice e)) (hu:P.underlying u=some .string) (hi:(P.info? e).map (fun i=> (i.zero,i.size,i.bytes))=some (some (.int .u8 0),1,1))
  {g n cap:Nat} {xs:List Value} (hown:w.ownsRow base e 1 (.slice (some ⟨g,0,none⟩) n cap) n xs) (s:ByteArray) (hpos:0<n) (h63:n+s.size≤maxLen) (hbytes:n+s.size≤140737488355328) (hbase:base≤w.heap.size):
  ∃g' cap' w',(Builtin.append_ #[t,u] ty #[.slice (some ⟨g,0,none⟩) n cap, .string s]).run P w= .ok (.slice (some ⟨g',0,none⟩) (n+s.size) cap') w'∧w'.ownsRow base e 1 (.slice (some ⟨g',0,none⟩) (n+s.size) cap') (n+s.size) (xs++strCells s)∧w.grownBy w' (some g)∧(g'=g∨g'=w.heap.size):=by
 obtain⟨i,hi,hz,hsize,hby⟩:=info_parts hi
 obtain⟨v',w',hr,h2,h3,_⟩:=run_append_own_string (P:=P) w base t u ty e i ht hu hi hz hsize hby _ n xs hown s h63 hbytes hbase
 obtain⟨g',cap',rfl,_,_⟩:=h2.form (by omega)
 refine⟨g',cap',w',hr,h2,h3, ?_⟩
 rcases hown.2 with⟨hv,_⟩ | ⟨g0,cap0,cur,hv,hb,hg,hnc,hcm,hcs,hx⟩
 ·cases hv
 ·injection hv with hv _ hcp
  injection hv with hv
  injection hv with hv
  subst hv
  subst hcp
  by_cases hroom:n+s.size≤cap
  ·left
   have hr2:=run_append_room_string (P:=P) w t u ty e i ht hu hi hsize g n cap cur hg s hroom (by omega)
   rw [hr] at hr2
   injection hr2 with hr2
   injection hr2 with hr2
   injection hr2 with hr2
   injection hr2
  ·right
   have hr2:=run_append_grow_string (P:=P) w t u ty e i (.int .u8 0) ht hu hi hz ⟨g,0,none⟩ n cap xs (by rw [hsize];simpa using hown.1) (hown.cells (g:=g) rfl) s (by omega) (by unfold maxLen at h63;omega) (by rw [hby];exact growslice_fits (by omega) (by omega))
   rw [hr] at hr2
   injection hr2 with hr2
   injection hr2 with hr2
   injection hr2 with hr2
   injection hr2
theorem wpl_app_str {P:Program} {w:World} {ops:Array Oper} {rest:List Oper} {o:Oper} {a:Act} {Q:Exit→Act→World→Prop} (hgd:o.guard=none) (sl x:Operand) (t u:TypeId)
  (ho:o.op= .call { callee:= .builtin .append,args:= #[sl,x],argTypes:= #[t,u] }) {e:TypeId} (ht:P.underlying t=some (.slice e)) (hu:P.underlying u=some .string)
  (hi:(P.info? e).map (fun i=> (i.zero,i.size,i.bytes))=some (some (.int .u8 0),1,1)) (base:Nat) {g n cap:Nat} {xs:List Value} (hs:a.eval sl= .slice (some ⟨g,0,none⟩) n cap) (hown:w.ownsRow base e 1 (.slice (some ⟨g,0,none⟩) n cap) n xs)
  {s:ByteArray} (hx:a.eval x= .string s) (hpos:0<n) (h63:n+s.size≤maxLen) (hbytes:n+s.size≤140737488355328) (hbase:base≤w.heap.size)
  (h: ∀g' cap' w',w'.ownsRow base e 1 (.slice (some ⟨g',0,none⟩) (n+s.size) cap') (n+s.size) (xs++strCells s)→w.grownBy w' (some g)→(g'=g∨g'=w.heap.size)→wpList P ops Q rest (a.put o.dst (.slice (some ⟨g',0,none⟩) (n+s.size) cap')) w'):wpList P ops Q (o::rest) a w:=by
 refine wpList_plain hgd fun K hK=> ?_
 obtain⟨g',cap',w',hr,h2,h3,h4⟩:=app_str (P:=P) w base t u o.type e ht hu hi hown s hpos h63 hbytes hbase
 unfold Oper.wp execOp
 simp only [ho,resolve,invoke,builtin,Sem.run_bind,Sem.run_pure,Result.andThen_ok,List.map_toArray,List.map_cons,List.map_nil,hs,hx,hr]
 exact hK _ _ (h g' cap' w' h2 h3 h4)
theorem const_class (base g n cap:Nat) (xs:List Value) (a:Int) (w:World) (ho:w.ownsRow base 5 1 (.slice (some ⟨g,0,none⟩) n cap) n xs) (hbase:base≤w.heap.size) (h0:0<n) (hn:n≤90000):
  Calls Tryz.prog 63 #[.slice (some ⟨g,0,none⟩) n cap, .agg #[.int .i64 7, .string ⟨#[]⟩, .int .i64 0, .int .i64 a, .int .i64 0]] w fun e w'=> ∃g' cap',e= .returned (.slice (some ⟨g',0,none⟩) (n+3) cap')∧
   w'.ownsRow base 5 1 (.slice (some ⟨g',0,none⟩) (n+3) cap') (n+3) (xs++([.int .u8 7]++twoV a))∧But w.heap.size [g] w w'∧(g'=g∨w.heap.size≤g'):=by
 have HO:=Lib.hid ho
 have hgb:=(ho.lt g rfl)
 clear ho
 obtain⟨x1,x2,x3,x4,x5,x6,x7,x8,x9,x10,x11,x12⟩:=far g w.heap.size hgb.2
 go_enter Tryz.func63,Tryz.ntmps63
 go_wp2_with (at_builtin;refine wpl_lies (v:= .slice (some ⟨g,0,none⟩) n cap) rfl _ _ 35 rfl Tryz.underlying35 info_u8 rfl (by omega) base rfl ((HO.out.alloc _).alloc _) rfl rfl (fun _=> ⟨_,rfl,cells_new_at _ _ _ _ (by simp)⟩) (by simp [Value.oneCell']) (by omega) (by simp only [maxLen];omega) (by omega) (by simp;omega) ?_;intro g3 c3 w3 ho3 hg3 hb3 hgg3 hlt3;refine stop_here ?_)
 have F:=grown_facts hg3 rfl
 have hz3:=F.2.2.2
 simp only [World.size_alloc] at hz3
 have b0:=(F.1 w.heap.size 0 (by simp;omega) (by omega)).trans (show _=some (Value.int .i64 7) by simp [go_sem])
 have b3:=(F.1 w.heap.size 3 (by simp;omega) (by omega)).trans (show _=some (Value.int .i64 a) by simp [go_sem])
 have HO3:=Lib.hid ho3
 have hg3':g3=g∨w.heap.size<g3:=by
  rcases hgg3 with h|h
  ·left
   have e:g=g3:=by simpa [Value.ownBlock] using h
   exact e.symm
  ·right
   simp at h
   omega
 have HB3:=Lib.hid ((But.of_below (S:= [g]) (((Below.refl w.heap.size w).alloc (Nat.le_refl _) _).alloc (by simp) _)).grown hg3 (by simp;omega) (fun q hq=>by
  have e:g=q:=by simpa [Value.ownBlock] using hq
  left
  simp [e]))
 clear F ho3 hg3 hb3 hgg3
 have hgl3:=(HO3.out.lt g3 rfl)
 refine go_on ?_
 go_wp2_with (go_at_call 62;refine(two_any base g3 (n+1) c3 _ w3.heap.size 0 1 1 [a] _ (HO3.out.alloc _) (by simp;omega) (by omega) (by omega) rfl (by omega) (by omega) (fun j v hj=>by
  have h:=cells_new w3 [Value.int .i64 a] 3 j (.int .i64 v) (by rcases j with _|j<;>simp_all)
  rw [add_cell] at h
  exact h) (by simp) (by omega)).mono ?_;rintro e w4 ⟨g4,c4,rfl,ho4,hb4,hg4⟩;refine stop_here ?_)
 have HO4:=Lib.hid (own_eq ho4 (show n+1+2*1=n+3 by omega) (show _=xs++([.int .u8 7]++twoV a) by simp))
 have HB4:=Lib.hid (HB3.out.trans ((But.of_below (S:= [g]) ((Below.refl w.heap.size w3).alloc (by omega) _)).trans (hb4.mono (by simp;omega) (fun k hk hkm=>by
  have e:k=g3:=by simpa using hkm
  subst e
  rcases hg3' with h|h
  ·simp [h]
  ·omega))))
 have hg4':g4=g∨w.heap.size≤g4:=by
  rcases hg4 with h|h
  ·rw [h]
   rcases hg3' with h|h
   ·exact .inl h
   ·exact .inr (by omega)
  ·right
   simp at h
   omega
 clear ho4 hb4 hg4
 refine go_on ?_
 go_wp2_with fail
 go_ret
 exact⟨g4,c4,rfl,HO4.out,HB4.out,hg4'⟩
theorem const_text (base g n cap:Nat) (xs:List Value) (s:ByteArray) (w:World) (ho:w.ownsRow base 5 1 (.slice (some ⟨g,0,none⟩) n cap) n xs) (hbase:base≤w.heap.size) (h0:0<n) (hn:n≤90000) (hs:s.size≤1000):
  Calls Tryz.prog 63 #[.slice (some ⟨g,0,none⟩) n cap, .agg #[.int .i64 1, .string s, .int .i64 0, .int .i64 0, .int .i64 0]] w fun e w'=> ∃g' cap',e= .returned (.slice (some ⟨g',0,none⟩) (n+3+s.size) cap')∧
   w'.ownsRow base 5 1 (.slice (some ⟨g',0,none⟩) (n+3+s.size) cap') (n+3+s.size) (xs++([.int .u8 1]++twoV s.size++strCells s))∧But w.heap.size [g] w w'∧(g'=g∨w.heap.size≤g'):=by
 have HO:=Lib.hid ho
 have hgb:=(ho.lt g rfl)
 clear ho
 obtain⟨x1,x2,x3,x4,x5,x6,x7,x8,x9,x10,x11,x12⟩:=far g w.heap.size hgb.2
 go_enter Tryz.func63,Tryz.ntmps63
 go_wp2_with (at_builtin;refine wpl_lies (v:= .slice (some ⟨g,0,none⟩) n cap) rfl _ _ 35 rfl Tryz.underlying35 info_u8 rfl (by omega) base rfl ((HO.out.alloc _).alloc _) rfl rfl (fun _=> ⟨_,rfl,cells_new_at _ _ _ _ (by simp)⟩) (by simp [Value.oneCell']) (by omega) (by simp only [maxLen];omega) (by omega) (by simp;omega) ?_;intro g3 c3 w3 ho3 hg3 hb3 hgg3 hlt3;refine stop_here ?_)
 have F:=grown_facts hg3 rfl
 have hz3:=F.2.2.2
 simp only [World.size_alloc] at hz3
 have b0:=(F.1 w.heap.size 0 (by simp;omega) (by omega)).trans (show _=some (Value.int .i64 1) by simp [go_sem])
 have b1:=(F.1 w.heap.size 1 (by simp;omega) (by omega)).trans (show _=some (Value.string s) by simp [go_sem])
 have HO3:=Lib.hid ho3
 have hg3':g3=g∨w.heap.size<g3:=by
  rcases hgg3 with h|h
  ·left
   have e:g=g3:=by simpa [Value.ownBlock] using h
   exact e.symm
  ·right
   simp at h
   omega
 have HB3:=Lib.hid ((But.of_below (S:= [g]) (((Below.refl w.heap.size w).alloc (Nat.le_refl _) _).alloc (by simp) _)).grown hg3 (by simp;omega) (fun q hq=>by
  have e:g=q:=by simpa [Value.ownBlock] using hq
  left
  simp [e]))
 clear F ho3 hg3 hb3 hgg3
 have hgl3:=(HO3.out.lt g3 rfl)
 refine go_on ?_
 go_wp2_with (go_at_call 62;refine(two_any base g3 (n+1) c3 _ w3.heap.size 0 1 1 [(s.size:Int)] _ (HO3.out.alloc _) (by simp;omega) (by omega) (by omega) rfl (by omega) (by omega) (fun j v hj=>by
  have h:=cells_new w3 [Value.int .i64 s.size] 3 j (.int .i64 v) (by rcases j with _|j<;>simp_all)
  rw [add_cell] at h
  exact h) (by simp) (by omega)).mono ?_;rintro e w4 ⟨g4,c4,rfl,ho4,hb4,hg4⟩;refine stop_here ?_)
 have HO4:=Lib.hid (own_eq ho4 (show n+1+2*1=n+3 by omega) (show _=xs++([.int .u8 1]++twoV s.size) by simp))
 have c1:=(hb4.cell (p:=⟨w.heap.size,1,none⟩) (by simp;omega) (by simp;omega)).trans (show _=some (Value.string s) by rw [World.cell?_alloc_lt _ _ _ (by show w.heap.size<_;omega)];exact b1)
 have hz4:=hb4.size
 simp only [World.size_alloc] at hz4
 have HB4:=Lib.hid (HB3.out.trans ((But.of_below (S:= [g]) ((Below.refl w.heap.size w3).alloc (by omega) _)).trans (hb4.mono (by simp;omega) (fun k hk hkm=>by
  have e:k=g3:=by simpa using hkm
  subst e
  rcases hg3' with h|h
  ·simp [h]
  ·omega))))
 have hg4':g4=g∨w.heap.size<g4:=by
  rcases hg4 with h|h
  ·rw [h]
   rcases hg3' with h|h
   ·exact .inl h
   ·exact .inr (by omega)
  ·right
   simp at h
   omega
 clear ho4 hb4 hg4
 refine go_on ?_
 go_wp2_with (at_builtin;refine wpl_app_str (n:=n+3) rfl _ _ 35 9 rfl Tryz.underlying35 Tryz.underlying9 info_u8 base rfl HO4.out rfl (by omega) (by simp only [maxLen];omega) (by omega) (by omega) ?_;intro g5 c5 w5 ho5 hg5 hgg5;refine stop_here ?_)
 have HO5:=Lib.hid (own_eq ho5 rfl (show _=xs++([.int .u8 1]++twoV s.size++strCells s) by rw [List.append_assoc]))
 have HB5:=Lib.hid (HB4.out.grown hg5 (by omega) (fun q hq=>by
  injection hq with hq
  subst hq
  rcases hg4' with h|h
  ·left
   simp [h]
  ·right
   omega))
 have hg5':g5=g∨w.heap.size≤g5:=by
  rcases hgg5 with h|h
  ·rw [h]
   rcases hg4' with h|h
   ·exact .inl h
   ·exact .inr (by omega)
  ·right
   omega
 clear ho5 hg5 hgg5
 refine go_on ?_
 go_wp2_with fail
 go_ret
 exact⟨g5,c5,rfl,HO5.out,HB5.out,hg5'⟩
theorem wrap0 (w:World):Calls Tryz.prog 104 #[.int .i64 0] w fun e w'=>e= .returned (.int .i64 0)∧w'=w:=by
 have H:bits .and .i64 0 4294967295=0:=by decide
 go_enter Tryz.func104,Tryz.ntmps104
 go_wp2
 all_goals go_ret
 all_goals first|exact⟨by simp [H],rfl⟩ |exact⟨rfl,rfl⟩
theorem kind1 (w:World):Calls Tryz.prog 89 #[.int .i64 1] w fun e w'=>e= .returned (.bool true)∧w'=w:=by
 go_enter Tryz.func89,Tryz.ntmps89
 go_wp2
 go_ret
 exact⟨rfl,rfl⟩
theorem kind7 (w:World):Calls Tryz.prog 89 #[.int .i64 7] w fun e w'=>e= .returned (.bool true)∧w'=w:=by
 go_enter Tryz.func89,Tryz.ntmps89
 go_wp2
 go_ret
 exact⟨rfl,rfl⟩
theorem twos_nil (w:World):Calls Tryz.prog 90 #[.slice none 0 0] w fun e w'=>e= .returned (.bool true)∧w'=w:=by
 go_enter Tryz.func90,Tryz.ntmps90
 go_wp2
 refine wp_loop_rounds 1 ?_
 rw [rounds_succ]
 go_wp2
 go_ret
 exact⟨rfl,rfl⟩
theorem twos_ok (b off n cap:Nat) (L:List Int) (w:World) (hl:L.length=n) (hm:n≤1000) (hcap:n≤cap) (hc: ∀j v,L[j]?=some v→w.cell? ⟨b,off+j,none⟩=some (.int .i64 v)) (hr: ∀v∈L,0≤v∧v≤65535):
  Calls Tryz.prog 90 #[.slice (some ⟨b,off,none⟩) n cap] w fun e w'=>e= .returned (.bool true)∧w'=w:=by
 have HL:=Lib.hid hl
 have HC:=Lib.hid hc
 have HR:=Lib.hid hr
 clear hl hc hr
 go_enter Tryz.func90,Tryz.ntmps90
 go_wp2_with fail
 go_loop [3] (fun i=> ∃k:Nat,k≤n∧i= .int .i64 k) (fun i=>n - (RowKit.intOf i).toNat)
 case atStart=>exact⟨0,by omega,rfl⟩
 case round=>
  obtain⟨k,hk,rfl⟩:=hrel
  by_cases hlt:k<n
  ·obtain⟨v,hv⟩: ∃v,L[k]?=some v:=⟨_,List.getElem?_eq_getElem (by rw [HL.out];exact hlt)⟩
   have cv:=HC.out k v hv
   obtain⟨r0,r1⟩:=HR.out v (List.mem_of_getElem? hv)
   have r0': ¬v<0:=by omega
   have r1': ¬65535<v:=by omega
   clear hv
   go_wp2
   go_round
   case rel=>exact⟨k+1,by omega,by go_num⟩
   case measure=>simp [RowKit.intOf];omega
  ·go_wp2
   go_ret
   exact⟨rfl,rfl⟩
theorem fair_text (s:ByteArray) (hs:s.size≤1000) (w:World):
  Calls Tryz.prog 91 #[.agg #[.int .i64 1, .string s, .int .i64 0, .int .i64 0, .int .i64 0]] w fun e w'=>e= .returned (.bool true)∧Below w.heap.size w w':=by
 have HT: ∀W:World,Calls Tryz.prog 90 #[.slice (some ⟨W.heap.size,0,none⟩) 2 2] (W.alloc (.cells #[.int .i64 0, .int .i64 0] 3)) fun e w'=>e= .returned (.bool true)∧w'=W.alloc (.cells #[.int .i64 0, .int .i64 0] 3):=fun W=>
  twos_ok W.heap.size 0 2 2 [0,0] _ rfl (by omega) (by omega) (fun j v hj=>by
   have h:=cells_new W [Value.int .i64 0, .int .i64 0] 3 j (.int .i64 v) (by rcases j with _|_|j<;>simp_all)
   rw [add_cell] at h
   exact h) (by intro v hv;simp at hv;rcases hv with rfl|rfl<;>omega)
 have HT':=Lib.hid HT
 clear HT
 go_enter Tryz.func91,Tryz.ntmps91
 go_wp2_with fail
 have h1:=HT'.out (w.alloc (.cells #[.int .i64 1, .string s, .int .i64 0, .int .i64 0, .int .i64 0] 81))
 simp only [World.size_alloc] at h1
 refine h1.mono ?_
 rintro e w2 ⟨rfl,rfl⟩
 clear h1
 have hd: ¬(65535:Int) < (s.size:Int):=by omega
 have hd2: ¬65535<s.size:=by omega
 go_wp2_with fail
 go_quiet ((go_at_call 104;exact Calls.quiet_of_same (wrap0 _)))
 go_wp2_with fail
 go_ret
 refine⟨rfl, ?_⟩
 repeat' (first|with_reducible exact Below.refl _ _|with_reducible refine below_drewN ?_ _|with_reducible refine Below.alloc ?_ ?_ _| (simp;done) | (simp;omega) |omega)
theorem fair_class (a:Int) (h0:0≤a) (h1:a≤65535) (w:World):
  Calls Tryz.prog 91 #[.agg #[.int .i64 7, .string ⟨#[]⟩, .int .i64 0, .int .i64 a, .int .i64 0]] w fun e w'=>e= .returned (.bool true)∧Below w.heap.size w w':=by
 have HT: ∀W:World,Calls Tryz.prog 90 #[.slice (some ⟨W.heap.size,0,none⟩) 2 2] (W.alloc (.cells #[.int .i64 a, .int .i64 0] 3)) fun e w'=>e= .returned (.bool true)∧w'=W.alloc (.cells #[.int .i64 a, .int .i64 0] 3):=fun W=>
  twos_ok W.heap.size 0 2 2 [a,0] _ rfl (by omega) (by omega) (fun j v hj=>by
   have h:=cells_new W [Value.int .i64 a, .int .i64 0] 3 j (.int .i64 v) (by rcases j with _|_|j<;>simp_all)
   rw [add_cell] at h
   exact h) (by intro v hv;simp at hv;rcases hv with rfl|rfl<;>omega)
 have HT':=Lib.hid HT
 clear HT
 go_enter Tryz.func91,Tryz.ntmps91
 go_wp2_with fail
 have h5:=HT'.out (w.alloc (.cells #[.int .i64 7, .string ⟨#[]⟩, .int .i64 0, .int .i64 a, .int .i64 0] 81))
 simp only [World.size_alloc] at h5
 refine h5.mono ?_
 rintro e w2 ⟨rfl,rfl⟩
 clear h5
 go_wp2_with fail
 go_quiet ((go_at_call 104;exact Calls.quiet_of_same (wrap0 _)))
 go_wp2_with fail
 go_ret
 refine⟨rfl, ?_⟩
 repeat' (first|with_reducible exact Below.refl _ _|with_reducible refine below_drewN ?_ _|with_reducible refine Below.alloc ?_ ?_ _| (simp;done) | (simp;omega) |omega)
theorem long4 (A:Option Addr) (cap:Nat) (mi ma acc th su:Int) (w:World):
  Calls Tryz.prog 88 #[.agg #[.int .i64 mi, .int .i64 ma, .slice A 4 cap, .int .i64 acc, .int .i64 th, .int .i64 su, .slice none 0 0, .slice none 0 0, .slice none 0 0]] w fun e w'=>e= .returned (.bool false)∧Below w.heap.size w w':=by
 go_enter Tryz.func88,Tryz.ntmps88
 go_wp2_with fail
 refine wp_loop_rounds 1 ?_
 rw [rounds_succ]
 go_wp2_with fail
 go_ret
 exact⟨rfl,(Below.refl _ _).alloc (Nat.le_refl _) _⟩
def PoolAt (w:World) (g:Nat) (ks:List Ko):Prop:= ∀(j:Nat) (k:Ko),ks[j]?=some k→w.cell? ⟨g,j*5,none⟩=some (.int .i64 k.tag)∧w.cell? ⟨g,j*5+1,none⟩=some (.string k.text)∧w.cell? ⟨g,j*5+2,none⟩=some (.int .i64 k.num)∧w.cell? ⟨g,j*5+3,none⟩=some (.int .i64 k.a)∧w.cell? ⟨g,j*5+4,none⟩=some (.int .i64 k.b)
theorem PoolAt.below {w w':World} {g B:Nat} {ks:List Ko} (h:PoolAt w g ks) (hb:Below B w w') (hg:g<B):PoolAt w' g ks:=fun j k hk=>by
 obtain⟨h0,h1,h2,h3,h4⟩:=h j k hk
 exact⟨(hb.cell (by exact hg)).trans h0,(hb.cell (by exact hg)).trans h1,(hb.cell (by exact hg)).trans h2,(hb.cell (by exact hg)).trans h3,(hb.cell (by exact hg)).trans h4⟩
def BoxAt (w:World) (g:Nat) (vs:List Value):Prop:= ∀(j:Nat) (u:Value),vs[j]?=some u→w.cell? ⟨g,j,none⟩=some u
theorem BoxAt.below {w w':World} {g B:Nat} {vs:List Value} (h:BoxAt w g vs) (hb:Below B w w') (hg:g<B):BoxAt w' g vs:=fun j u hj=> (hb.cell (by exact hg)).trans (h j u hj)
theorem box_new (w:World) (vs:List Value) (e:TypeId):BoxAt (w.alloc (.cells vs.toArray e)) w.heap.size vs:=fun j u hj=>by
 have h:=cells_new w vs e j u hj
 rw [add_cell] at h
 simpa using h
def four (n s:ByteArray):List Ko:= [⟨1,n,0,0,0⟩,⟨7,⟨#[]⟩,0,1,0⟩,⟨1,s,0,0,0⟩,⟨7,⟨#[]⟩,0,3,0⟩]
theorem four_fair {n s:ByteArray} (hn:n.size≤1000) (hs:s.size≤1000) {j:Nat} {k:Ko} (h:(four n s)[j]?=some k):(∃t:ByteArray,t.size≤1000∧k=⟨1,t,0,0,0⟩)∨(∃a:Int,0≤a∧a≤65535∧k=⟨7,⟨#[]⟩,0,a,0⟩):=by
 rcases j with _|_|_|_|j
 ·exact .inl ⟨n,hn,by simpa [four] using h.symm⟩
 ·exact .inr ⟨1,by omega,by omega,by simpa [four] using h.symm⟩
 ·exact .inl ⟨s,hs,by simpa [four] using h.symm⟩
 ·exact .inr ⟨3,by omega,by omega,by simpa [four] using h.symm⟩
 ·simp [four] at h
theorem refused4 (g cap:Nat) (n s:ByteArray) (hn:n.size≤1000) (hs:s.size≤1000) (hcap:4≤cap) (w:World) (hp:PoolAt w g (four n s)) (hg:g<w.heap.size):
  Calls Tryz.prog 60 #[.agg #[.int .i64 0, .int .i64 52, .slice (some ⟨g,0,none⟩) 4 cap, .int .i64 33, .int .i64 2, .int .i64 4, .slice none 0 0, .slice none 0 0, .slice none 0 0]] w fun e w'=>e= .returned (.int .i64 0)∧Below w.heap.size w w':=by
 have HP:=Lib.hid hp
 clear hp
 obtain⟨x1,x2,x3,x4,x5,x6,x7,x8,x9,x10,x11,x12⟩:=far g w.heap.size hg
 go_enter Tryz.func60,Tryz.ntmps60
 go_wp2_with (go_at_call 88;refine(long4 _ _ _ _ _ _ _ _).mono ?_;rintro e w1 ⟨rfl,hb1⟩;refine stop_here ?_)
 have hz1:=hb1.size
 simp only [World.size_alloc] at hz1
 have HP1:=Lib.hid (HP.out.below (((Below.refl w.heap.size w).alloc (Nat.le_refl _) _).trans (hb1.mono (by simp))) hg)
 have HB1:=Lib.hid ((box_new w [.int .i64 0, .int .i64 52, .slice (some ⟨g,0,none⟩) 4 cap, .int .i64 33, .int .i64 2, .int .i64 4, .slice none 0 0, .slice none 0 0, .slice none 0 0] 104).below hb1 (by simp))
 have HW1:=Lib.hid (((Below.refl w.heap.size w).alloc (Nat.le_refl _) (.cells #[.int .i64 0, .int .i64 52, .slice (some ⟨g,0,none⟩) 4 cap, .int .i64 33, .int .i64 2, .int .i64 4, .slice none 0 0, .slice none 0 0, .slice none 0 0] 104)).trans (hb1.mono (by simp)))
 clear hb1
 have b2:=HB1.out 2 _ rfl
 refine go_on ?_
 go_wp2_with fail
 go_loop [4,5] (fun i o=> ∃k:Nat,k≤4∧i= .int .i64 k) (fun i o=>4 - (RowKit.intOf i).toNat)
 case atStart=>exact⟨0,by omega,rfl⟩
 case round=>
  obtain⟨k,hk,rfl⟩:=hrel
  by_cases hlt:k<4
  ·obtain⟨v,hv⟩: ∃v,(four n s)[k]?=some v:=⟨_,List.getElem?_eq_getElem (by simpa [four] using hlt)⟩
   have hf:=four_fair hn hs hv
   have c0:=(HP1.out k v hv).1
   clear hv
   rcases hf with⟨t,ht,rfl⟩ | ⟨a,ha0,ha1,rfl⟩
   ·go_wp2_with (go_at_call 89;refine(kind1 _).mono ?_;rintro e w2 ⟨rfl,rfl⟩)
    go_round
    case rel=>exact⟨k+1,by omega,by go_num⟩
    case measure=>simp [RowKit.intOf];omega
   ·go_wp2_with (go_at_call 89;refine(kind7 _).mono ?_;rintro e w2 ⟨rfl,rfl⟩)
    go_round
    case rel=>exact⟨k+1,by omega,by go_num⟩
    case measure=>simp [RowKit.intOf];omega
  ·have hk4:k=4:=by omega
   subst hk4
   have b0:=HB1.out 0 _ rfl
   have b1:=HB1.out 1 _ rfl
   have b3:=HB1.out 3 _ rfl
   have b4:=HB1.out 4 _ rfl
   have b5:=HB1.out 5 _ rfl
   have b6:=HB1.out 6 _ rfl
   go_wp2_with fail
   refine(twos_ok w1.heap.size 0 5 5 [0,52,33,2,4] _ rfl (by omega) (by omega) (fun j v hj=>by
    have h:=cells_new w1 [Value.int .i64 0, .int .i64 52, .int .i64 33, .int .i64 2, .int .i64 4] 3 j (.int .i64 v) (by rcases j with _|_|_|_|_|j<;>simp_all)
    rw [add_cell] at h
    exact h) (by intro v hv;simp at hv;rcases hv with rfl|rfl|rfl|rfl|rfl<;>omega)).mono ?_
   rintro e w2 ⟨rfl,rfl⟩
   obtain⟨z1,z2,z3,z4,z5,z6,z7,z8,z9,z10,z11,z12⟩:=far w.heap.size w1.heap.size (by omega)
   go_wp2_with fail
   refine(twos_nil _).mono ?_
   rintro e w2 ⟨rfl,rfl⟩
   go_wp2_with fail
   have HB2:=Lib.hid (HB1.out.below ((Below.refl (w.heap.size+1) w1).alloc (by omega) (.cells #[.int .i64 0, .int .i64 52, .int .i64 33, .int .i64 2, .int .i64 4] 3)) (by omega))
   have HP2:=Lib.hid (HP1.out.below ((Below.refl (w.heap.size+1) w1).alloc (by omega) (.cells #[.int .i64 0, .int .i64 52, .int .i64 33, .int .i64 2, .int .i64 4] 3)) (by omega))
   have HW2:=Lib.hid (HW1.out.alloc (by omega) (.cells #[.int .i64 0, .int .i64 52, .int .i64 33, .int .i64 2, .int .i64 4] 3))
   have hz2:w.heap.size+1≤(w1.alloc (.cells #[.int .i64 0, .int .i64 52, .int .i64 33, .int .i64 2, .int .i64 4] 3)).heap.size:=by simp;omega
   clear b0 b1 b2 b3 b4 b5 b6
   generalize w1.alloc (.cells #[.int .i64 0, .int .i64 52, .int .i64 33, .int .i64 2, .int .i64 4] 3)=w2 at*
   go_loopw [6,7,8] (fun ok i f wr=> ∃k:Nat,k≤4∧ok= .bool true∧i= .int .i64 k∧Hid (Below (w.heap.size+1) w2 wr)∧w2.heap.size≤wr.heap.size) (fun ok i f _=>4 - (RowKit.intOf i).toNat)
   case atStart=>exact⟨0,by omega,rfl,rfl,by first|exact Below.refl _ _|exact Lib.hid (Below.refl _ _),Nat.le_refl _⟩
   case round=>
    obtain⟨k,hk,rfl,rfl,HR,hzr⟩:=hrel
    have b2:=(HB2.out.below HR.out (by omega)) 2 _ rfl
    by_cases hlt:k<4
    ·obtain⟨v,hv⟩: ∃v,(four n s)[k]?=some v:=⟨_,List.getElem?_eq_getElem (by simpa [four] using hlt)⟩
     have hf:=four_fair hn hs hv
     obtain⟨c0,c1,c2,c3,c4⟩:=(HP2.out.below HR.out (by omega)) k v hv
     clear hv
     rcases hf with⟨t,ht,rfl⟩ | ⟨a,ha0,ha1,rfl⟩
     ·go_wp2_with (go_at_call 91;refine(fair_text _ ht _).mono ?_;rintro e w3 ⟨rfl,hb3⟩;refine stop_here ?_)
      have HR3:=Lib.hid (HR.out.trans (hb3.mono (by omega)))
      have hz3:=hb3.size
      clear hb3 b2 c0 c1 c2 c3 c4
      refine go_on ?_
      go_wp2_with fail
      go_roundw
      case rel=>exact⟨k+1,by omega,rfl,by go_num,HR3,by omega⟩
      case measure=>simp [RowKit.intOf];omega
     ·go_wp2_with (go_at_call 91;refine(fair_class _ ha0 ha1 _).mono ?_;rintro e w3 ⟨rfl,hb3⟩;refine stop_here ?_)
      have HR3:=Lib.hid (HR.out.trans (hb3.mono (by omega)))
      have hz3:=hb3.size
      clear hb3 b2 c0 c1 c2 c3 c4
      refine go_on ?_
      go_wp2_with fail
      go_roundw
      case rel=>exact⟨k+1,by omega,rfl,by go_num,HR3,by omega⟩
      case measure=>simp [RowKit.intOf];omega
    ·have hk4:k=4:=by omega
     subst hk4
     have HB3:=Lib.hid (HB2.out.below HR.out (by omega))
     have b7:=HB3.out 7 _ rfl
     have b8:=HB3.out 8 _ rfl
     go_wp2_with fail
     refine wp_loop_rounds 1 ?_
     rw [rounds_succ]
     go_wp2_with fail
     refine wp_loop_rounds 1 ?_
     rw [rounds_succ]
     go_wp2_with fail
     refine wp_loop_rounds 1 ?_
     rw [rounds_succ]
     go_wp2_with fail
     go_ret
     exact⟨rfl,HW2.out.trans (HR.out.mono (by omega))⟩
theorem named4 (g cap:Nat) (n s q:ByteArray) (hn:n.size≤1000) (hs:s.size≤1000) (hcap:4≤cap) (w:World) (hp:PoolAt w g (four n s)) (hg:g<w.heap.size):
  Calls Tryz.prog 64 #[.agg #[.int .i64 0, .int .i64 52, .slice (some ⟨g,0,none⟩) 4 cap, .int .i64 33, .int .i64 2, .int .i64 4, .slice none 0 0, .slice none 0 0, .slice none 0 0], .string q] w fun e w'=> ∃i:Int,e= .returned (.int .i64 i)∧Below w.heap.size w w':=by
 have HP:=Lib.hid hp
 clear hp
 obtain⟨x1,x2,x3,x4,x5,x6,x7,x8,x9,x10,x11,x12⟩:=far g w.heap.size hg
 have HB:=Lib.hid ((Below.refl w.heap.size w).alloc (Nat.le_refl _) (.cells #[.int .i64 0, .int .i64 52, .slice (some ⟨g,0,none⟩) 4 cap, .int .i64 33, .int .i64 2, .int .i64 4, .slice none 0 0, .slice none 0 0, .slice none 0 0] 104))
 go_enter Tryz.func64,Tryz.ntmps64
 go_wp2_with fail
 go_loop [5] (fun i=> ∃k:Nat,k≤4∧i= .int .i64 k) (fun i=>4 - (RowKit.intOf i).toNat)
 case atStart=>exact⟨0,by omega,rfl⟩
 case round=>
  obtain⟨k,hk,rfl⟩:=hrel
  by_cases hlt:k<4
  ·obtain⟨v,hv⟩: ∃v,(four n s)[k]?=some v:=⟨_,List.getElem?_eq_getElem (by simpa [four] using hlt)⟩
   have hf:=four_fair hn hs hv
   obtain⟨c0,c1,_,_,_⟩:=HP.out k v hv
   clear hv
   rcases hf with⟨t,ht,rfl⟩ | ⟨a,ha0,ha1,rfl⟩
   ·cases hq:(t.toList==q.toList) with
    |true=>
     go_wp2
     go_ret
     exact⟨⟨_,rfl⟩,HB.out⟩
    |false=>
     go_wp2
     go_round
     case rel=>exact⟨k+1,by omega,by go_num⟩
     case measure=>simp [RowKit.intOf];omega
   ·go_wp2
    go_round
    case rel=>exact⟨k+1,by omega,by go_num⟩
    case measure=>simp [RowKit.intOf];omega
  ·go_wp2
   go_ret
   exact⟨⟨_,rfl⟩,HB.out⟩
end Go.Proofs.YtpbnjakeielipaaGreatDoor
