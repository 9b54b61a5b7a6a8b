/-
  What the laws rest on, part 34: walks of the program's functions and plain laws. Conditions: none but those that each theorem names.
-/
import Derived.Test.YtpbnjakeielipaaGreatDoorB33
import Derived.Test.YtpbnjakeielipaaGreatDoorB29
set_option linter.unusedSimpArgs false
set_option linter.unusedVariables false
set_option maxRecDepth 100000
set_option maxHeartbeats 4000000
namespace Go.Proofs.YtpbnjakeielipaaGreatDoor
open Go Go.RowKit Lib Go.Maps
def ResP (B:Nat) (p:WPos) (L:LPos) (v:Value) (x:WSt) (T:Nat) (s:List UInt8) (n:Int) (W:World) (e:Ending) (w':World):Prop:=
 ∃(L':LPos) (v':Value) (x':WSt) (er:ByteArray) (en:Int),e= .returned (.tuple #[.string er, .int .i64 en])∧LLe L L'∧WdAt B p L' v' x' T w'∧WFr B p L v x W L' v' x' w'∧WKeep x x'∧((en==0)=true→ ∃ent,er=ent.err∧EntOk ent∧entf x' s n=some ent)
theorem ResOk.any {B:Nat} {p:WPos} {L:LPos} {v:Value} {x:WSt} {T T':Nat} {s:List UInt8} {n:Int} {A:Int→Prop} {W:World} {e:Ending} {w':World} (h:ResOk B p L v x T s n A W e w') (hT:T≤T'):ResP B p L v x T' s n W e w':=by
 obtain⟨L',v',x',ent,h1,h2,h3,h4,h5,h6,h7,h8⟩:=h
 exact⟨L',v',x',ent.err,0,h1,h3,h4.moreT hT,h5,h6,fun _=> ⟨ent,rfl,h2,h7⟩⟩
theorem resolve_mem {B:Nat} {p:WPos} {L:LPos} {v:Value} {x:WSt} {T:Nat} {W:World} (h:WdAt B p L v x T W) (s:ByteArray) (hs:s.size≤1048576) (n:Int) (ko:Ko) (hc:constAt x.σ.F s.data.toList n=some ko) (ht:ko.tag=9∨ko.tag=10∨ko.tag=11) (hT:T<900000):
  Calls Tryz.prog 9 #[.pointer (some ⟨p.wb,0,none⟩), .string s, .int .i64 n] W (ResOk B p L v x (T+4) s.data.toList n (fun m=>m=ko.a) W):=by
 obtain⟨c,hf,hn1,hn2,hpk,hpl⟩:=constAt_some hc
 have hpo:PoolOk c.pool:=by
  obtain⟨k0,hk0,hK⟩:=h
  exact hK.ok.fok _ c hf
 have hko:=List.mem_of_getElem? hpk
 obtain⟨u,vv,xx,yy,hu,hv,hxx,hyy⟩:=hpo.mem ko hko ht
 obtain⟨u1,u2,u3,u4,u5⟩:=kindAt_get hu
 have hne: ¬n=ko.a:=fun e=>by
  rw [←e,hpk] at u3
  injection u3 with u3
  rw [←u3] at u4
  omega
 refine resolve_ok h s hs n ko hc (.inr ht) (fun m=>m=ko.a) hne (by omega) 2 (by omega) fun W' L1 v1 x1 T1 h1 hx hT1=> ?_
 rw [show resFn ko.tag=29 from by unfold resFn;rw [if_neg (by omega)]]
 exact wmember_any h1 s hs (by rw [hx];exact hf) ko hko ht (by omega)
theorem resolve_any {B:Nat} {p:WPos} {L:LPos} {v:Value} {x:WSt} {T:Nat} {W:World} (h:WdAt B p L v x T W) (s:ByteArray) (hs:s.size≤1048576) (n:Int) (hn:I64 n) (hT:T<900000):
  Calls Tryz.prog 9 #[.pointer (some ⟨p.wb,0,none⟩), .string s, .int .i64 n] W (ResP B p L v x (T+4) s.data.toList n W):=by
 by_cases hb: ∃ko,constAt x.σ.F s.data.toList n=some ko∧(ko.tag=7∨ko.tag=9∨ko.tag=10∨ko.tag=11)
 ·obtain⟨ko,hc,ht⟩:=hb
  rcases ht with ht|ht
  ·exact(resolve_cls h s hs n ko hc ht (by omega)).mono fun e w' h=>h.any (by omega)
  ·exact(resolve_mem h s hs n ko hc ht hT).mono fun e w' h=>h.any (by omega)
 ·have hkt: ¬(((constAt x.σ.F s.data.toList n).getD koZero).tag=7∨((constAt x.σ.F s.data.toList n).getD koZero).tag=9∨((constAt x.σ.F s.data.toList n).getD koZero).tag=10∨((constAt x.σ.F s.data.toList n).getD koZero).tag=11):=fun hh=>by
   rcases hc:constAt x.σ.F s.data.toList n with _|ko
   ·rw [hc] at hh
    simp [koZero] at hh
   ·rw [hc] at hh
    exact hb ⟨ko,hc,hh⟩
  obtain⟨k0,hk0,hK⟩:=h
  obtain⟨g,cap,ts,hv,hkey,hTab,hc4⟩:=hK.ld.tab hK.ok.sm
  have c0:=hK.bx.cell 0 rfl
  have HTy:=Lib.hid (wtype_any p.wb L.lb g cap ts s W hTab c0 hc4)
  have HNX:=Lib.hid (fun(hnm:s.data.toList∈tns ts)=>show s.data.toList∈x.σ.ts.map (·.1) from tns_key hkey▸hnm)
  have HMT:=Lib.hid (fun(k:Nat) (t:TyV) (hk:ts[k]?=some t)=>mem_tns hk)
  have HCo:=Lib.hid (fun W' (hb:Below W.heap.size W W')=>wconst_any p.wb (hK.ld.below hb) ((hK.below hb).bx.cell 0 rfl) s hs n hn)
  have HEn:=Lib.hid (fun W' (hb:Below W.heap.size W W') hnm=>wentries_any (hK.below hb) s hs hnm (by omega))
  have H0:=Lib.hid hK
  have hwl:=hK.wlt
  have hBle:=hK.Ble
  have HRD:=Lib.hid hTab.rd
  obtain⟨⟨kt,kx,kn,ka,kb⟩,hko⟩: ∃ko,(constAt x.σ.F s.data.toList n).getD koZero=ko:=⟨_,rfl⟩
  obtain⟨cb,hcb⟩: ∃cb,(constAt x.σ.F s.data.toList n).isSome=cb:=⟨_,rfl⟩
  rw [hko] at hkt HCo
  rw [hcb] at HCo
  simp only [not_or] at hkt
  have t7:(kt==7)=false:=beq_eq_false_iff_ne.2 hkt.1
  have t9:(kt==9)=false:=beq_eq_false_iff_ne.2 hkt.2.1
  have t10:(kt==10)=false:=beq_eq_false_iff_ne.2 hkt.2.2.1
  have t11:(kt==11)=false:=beq_eq_false_iff_ne.2 hkt.2.2.2
  clear hko hcb hkt hb hK hv hkey hTab hc4 c0
  unfold koV at HCo
  go_enter Tryz.func9,Tryz.ntmps9
  go_wp2_with (go_at_call 24;refine HTy.out.mono ?_;rintro e w1 ⟨hb1,(⟨hno,rfl⟩ | ⟨kk,t,hk1,hk2,hk3,rfl⟩)⟩;all_goals refine stop_here ?_)
  ·have HB1:=Lib.hid (hb1.alloc hb1.size (.cells #[.string ⟨#[]⟩, .string ⟨#[]⟩, .int .i64 0, .slice none 0 0, .slice none 0 0, .slice none 0 0] 75))
   clear hb1
   refine go_on ?_
   go_wp2_with fail
   go_ret2
   exact⟨L,v,x,⟨#[]⟩,40,rfl,LLe.refl L,⟨k0,hk0,(H0.out.below HB1.out).moreT (by omega)⟩,WFr.of_below hBle HB1.out,WKeep.refl x,fun h=>by cases h⟩
  ·obtain⟨r1,r2,r3⟩:=HRD.out t (List.mem_of_getElem? hk2)
   obtain⟨A1,q1,e1,_,_⟩:=sl_len r1
   obtain⟨A2,q2,e2,_,_⟩:=sl_len r2
   obtain⟨A3,q3,e3,_,_⟩:=sl_len r3
   rw [e1,e2,e3]
   have HB1:=Lib.hid hb1
   have hnm:=HMT.out kk t hk2
   have hnm2:s.data.toList∈tns ts:=hk3▸hnm
   have HNM:=Lib.hid (HNX.out hnm2)
   clear hk1 hk2 r1 r2 r3 e1 e2 e3 hb1 HTy HRD hnm hnm2
   refine go_on ?_
   have HB2:=Lib.hid (HB1.out.alloc HB1.out.size (.cells #[.string ⟨s.data⟩, .string ⟨t.sup.toArray⟩, .int .i64 t.acc, .slice A1 t.ifl.length q1, .slice A2 t.fl.length q2, .slice A3 t.ml.length q3] 75))
   have HCo2:=Lib.hid (HCo.out _ HB2.out)
   clear hk3 HCo
   go_wp2_with (go_at_call 25;refine HCo2.out.mono ?_;rintro e w3 ⟨rfl,hb3⟩;refine stop_here ?_)
   have HB3:=Lib.hid (HB2.out.trans (hb3.mono HB2.out.size))
   have HB4:=Lib.hid (HB3.out.alloc HB3.out.size (.cells #[.int .i64 kt, .string kx, .int .i64 kn, .int .i64 ka, .int .i64 kb] 81))
   have X4:=Lib.hid (bx_new w3 [.int .i64 kt, .string kx, .int .i64 kn, .int .i64 ka, .int .i64 kb] 81)
   have HEn4:=Lib.hid (HEn.out _ HB4.out HNM.out)
   have hz3:=HB3.out.size
   clear hb3 HB2 HCo2 HEn
   refine go_on ?_
   go_wp2_with (go_at_call 26;refine HEn4.out.mono ?_;rintro e w5 ⟨q,L1,x1,rfl,hlb,hK1,hgr,hpl1,hent,hqq,hfr⟩;refine stop_here ?_)
   have hout0: ∀g,W.heap.size≤g→Out p L v x g:=fun g hg=>H0.out.outNew hg
   have X5:=Lib.hid (hfr.bx X4.out (hout0 _ (by omega)))
   have HF5:=Lib.hid ((WFr.of_below hBle HB4.out).trans hfr)
   have HB6:=Lib.hid (((Below.refl w5.heap.size w5).alloc (Nat.le_refl _) (.cells #[.string ⟨#[]⟩, .int .i64 0] 37)).alloc (by simp) (.cells #[.string ⟨#[]⟩] 88))
   have x0:=(X5.out.below HB6.out X5.out.lt).cell 0 rfl
   have H6:=Lib.hid (hK1.below HB6.out)
   have HLB:=Lib.hid hlb
   have HWK:=Lib.hid (grow_keep hgr hpl1 hqq)
   have hk1:k0≤x1.σ.ts.length:=by rw [hgr.st];exact hk0
   have hB5:=hK1.Ble
   clear hfr hlb hK1 hgr hpl1 hent hqq hout0
   refine go_on ?_
   go_wp2_with fail
   go_ret2
   exact⟨L1,v,x1,⟨#[]⟩,41,rfl,HLB.out,⟨k0,hk1,H6.out.moreT (by omega)⟩,HF5.out.trans (WFr.of_below hB5 HB6.out),HWK.out,fun h=>by cases h⟩
structure RwI (B:Nat) (p:WPos) (L:LPos) (v:Value) (x:WSt) (W:World) (e:TypeId) (sz:Nat) (rv:Value) (n:Nat) (cs:List Value):Prop where
 own:W.ownsRow B e sz rv n cs
 fr: ∀g,rv.ownBlock=some g→g∈L.ex∧Out p L v x g
section
variable {B:Nat} {p:WPos} {L L':LPos} {v v':Value} {x x':WSt} {k N T:Nat} {W W':World} {e sz n:Nat} {rv:Value} {cs:List Value}
theorem RwI.nil:RwI B p L v x W e sz (.slice none 0 0) 0 []:=⟨World.ownsRow_nil _ _ _ _,fun g h=>by cases h⟩
theorem RwI.below (h:RwI B p L v x W e sz rv n cs) (hb:Below W.heap.size W W'):RwI B p L v x W' e sz rv n cs:=⟨own_heap h.own fun q hq=>hb.block q (h.own.lt q hq).2,h.fr⟩
theorem RwI.call (h:RwI B p L v x W e sz rv n cs) (hf:WFr B p L v x W L' v' x' W') (hle:LLe L L'):RwI B p L' v' x' W' e sz rv n cs:=
 ⟨own_heap h.own fun q hq=> (hf.out q (h.own.lt q hq).2 (h.fr q hq).2).2,fun g hg=> ⟨hle.2 g (h.fr g hg).1,(hf.out g (h.own.lt g hg).2 (h.fr g hg).2).1⟩⟩
theorem own_apart {w:World} {B1 B2 e1 e2 s1 s2 n1 n2:Nat} {v1 v2:Value} {c1 c2:List Value} (h1:w.ownsRow B1 e1 s1 v1 n1 c1) (h2:w.ownsRow B2 e2 s2 v2 n2 c2) (he:e1≠e2) {g:Nat} (hg:v1.ownBlock=some g):v2.ownBlock≠some g:=by
 intro hg2
 rcases h1.2 with⟨rfl,_⟩ | ⟨g1,cap1,cur1,rfl,_,a1,_⟩
 ·cases hg
 ·rcases h2.2 with⟨rfl,_⟩ | ⟨g2,cap2,cur2,rfl,_,a2,_⟩
  ·cases hg2
  ·have e1':g1=g:=by injection (show some g1=some g from hg)
   have e2':g2=g:=by injection (show some g2=some g from hg2)
   rw [e1'] at a1
   rw [e2',a1] at a2
   injection a2 with a2
   injection a2 with _ h4
   exact he h4
theorem WdK.sides (h:WdK B p L v x k N T W) (S:List Nat) (hS: ∀g∈S,g∈L.ex∧Out p L v x g∧B≤g) (hb:But W.heap.size S W W') (xs:List Nat) (h1: ∀y∈xs,W.heap.size≤y) (h2: ∀y∈xs,y<W'.heap.size):WdK B p (L.and xs) v x k N T W':=by
 have hl:=h.ld.and (hb.mono (Nat.le_refl _) fun g _ hg=> (hS g hg).1) xs h1 h2
 have hbB:Below B W W':=(hb.mono (S':= []) h.Ble (fun g hg hm=>by have:=(hS g hm).2.2;omega)).below
 obtain⟨F,n,s1,s2⟩:=h.st
 obtain⟨F2,n2,t1,t2,t3⟩:=h.pl
 have hin: ∀g,g∈L.ex→g∈(L.and xs).ex:=fun g hg=>List.mem_append_right _ hg
 exact⟨hl,h.ok,(hb.block _ h.wlt (fun hm=> (hS _ hm).2.1.2.1.1 rfl)).trans h.bx,⟨F,n,s1,s2.keep (hb.block _ s2.lt (fun hm=> (hS _ hm).2.1.2.1.2.2 rfl))⟩,⟨F2,n2,t1,t2.keep (hb.block _ t2.lt (fun hm=> (hS _ hm).2.1.2.1.2.1 rfl)),t3⟩,fun s q hq=> (h.ea s q hq).keep (hb.block _ (h.ea s q hq).glt (fun hm=> ((hS _ hm).2.1.2.2 s q hq).1 rfl)) (hb.block _ (h.ea s q hq).mlt (fun hm=> ((hS _ hm).2.1.2.2 s q hq).2 rfl)),h.ap,h.ne,h.gm,⟨hin _ h.ex.1,hin _ h.ex.2.1,hin _ h.ex.2.2.1,fun s q hq=> ⟨hin _ (h.ex.2.2.2 s q hq).1,hin _ (h.ex.2.2.2 s q hq).2⟩⟩,h.lo,h.B0,h.glt hbB⟩
theorem WdAt.push (h:WdAt B p L v x T W) (hr:RwI B p L v x W e sz rv n cs) {g c n':Nat} {cs':List Value} (ho:W'.ownsRow B e sz (.slice (some ⟨g,0,none⟩) n' c) n' cs') (hg:W.grownBy W' rv.ownBlock) (hgg:rv.ownBlock=some g∨g=W.heap.size) (hgl:g<W'.heap.size):
  ∃L',LLe L L'∧WdAt B p L' v x T W'∧RwI B p L' v x W' e sz (.slice (some ⟨g,0,none⟩) n' c) n' cs'∧(∀(e2 sz2:Nat) (rv2:Value) (n2:Nat) (cs2:List Value),e2≠e→RwI B p L v x W e2 sz2 rv2 n2 cs2→RwI B p L' v x W' e2 sz2 rv2 n2 cs2):=by
 obtain⟨k,hk,hK⟩:=h
 have hb:But W.heap.size rv.ownBlock.toList W W':=(But.refl _ _ _).grown hg (Nat.le_refl _) fun q hq=> .inl (by simp [hq])
 have hS: ∀g∈rv.ownBlock.toList,g∈L.ex∧Out p L v x g∧B≤g:=fun q hq=>by
  have hq':rv.ownBlock=some q:=by simpa using hq
  exact⟨(hr.fr q hq').1,(hr.fr q hq').2,(hr.own.lt q hq').1⟩
 have hot: ∀(xs:List Nat) (e2 sz2:Nat) (rv2:Value) (n2:Nat) (cs2:List Value),e2≠e→RwI B p L v x W e2 sz2 rv2 n2 cs2→RwI B p (L.and xs) v x W' e2 sz2 rv2 n2 cs2:=fun xs e2 sz2 rv2 n2 cs2 he h2=>
  ⟨own_heap h2.own fun q hq=>hb.block q (h2.own.lt q hq).2 (by simpa using own_apart h2.own hr.own he hq),fun q hq=> ⟨List.mem_append_right _ (h2.fr q hq).1,(h2.fr q hq).2⟩⟩
 rcases hgg with hgg|hgg
 ·refine⟨L.and [],LLe.and L [],⟨k,hk,hK.sides _ hS hb [] (by simp) (by simp)⟩,⟨ho,fun q hq=> ?_⟩,hot []⟩
  have:q=g:=by injection (show some g=some q from hq) with h;exact h.symm
  subst this
  exact hr.fr q hgg
 ·refine⟨L.and [g],LLe.and L [g],⟨k,hk,hK.sides _ hS hb [g] (by simp [hgg]) (by simpa using hgl)⟩,⟨ho,fun q hq=> ?_⟩,hot [g]⟩
  have:q=g:=by injection (show some g=some q from hq) with h;exact h.symm
  subst this
  exact⟨List.mem_append_left _ (by simp),hK.outNew (by omega)⟩
end
structure RemV where
 s:ByteArray
 n:Int
 e:EntV
def remS (l:List RemV):List Value:=l.map fun r=> .string r.s
def remN (l:List RemV):List Value:=l.map fun r=> .int .i64 r.n
def remE (l:List RemV):List Value:=l.flatMap fun r=> [.int .i64 r.e.st, .string r.e.err]
def remT (l:List RemV):List Value:=l.flatMap fun r=> [.string r.e.tgt.cls, .int .i64 r.e.tgt.at_]
structure KpI (B:Nat) (p:WPos) (L:LPos) (v:Value) (x:WSt) (T:Nat) (W:World) (r7 r8 r9 r10:Value) (l:List RemV):Prop where
 wd:WdAt B p L v x T W
 o7:RwI B p L v x W 9 1 r7 l.length (remS l)
 o8:RwI B p L v x W 3 1 r8 l.length (remN l)
 o9:RwI B p L v x W 54 2 r9 l.length (remE l)
 o10:RwI B p L v x W 37 2 r10 l.length (remT l)
 en: ∀r∈l,r.s.size≤60000∧I64 r.n∧entf x r.s.data.toList r.n=some r.e
section
variable {B:Nat} {p:WPos} {L L':LPos} {v v':Value} {x x':WSt} {T T':Nat} {W W':World} {r7 r8 r9 r10:Value} {l:List RemV}
theorem KpI.below (h:KpI B p L v x T W r7 r8 r9 r10 l) (hb:Below W.heap.size W W'):KpI B p L v x T W' r7 r8 r9 r10 l:=⟨h.wd.below hb,h.o7.below hb,h.o8.below hb,h.o9.below hb,h.o10.below hb,h.en⟩
theorem KpI.call (h:KpI B p L v x T W r7 r8 r9 r10 l) (hw:WdAt B p L' v' x' T' W') (hf:WFr B p L v x W L' v' x' W') (hle:LLe L L') (hk:WKeep x x'):KpI B p L' v' x' T' W' r7 r8 r9 r10 l:=
 ⟨hw,h.o7.call hf hle,h.o8.call hf hle,h.o9.call hf hle,h.o10.call hf hle,fun r hr=> ⟨(h.en r hr).1,(h.en r hr).2.1,hk.ent (h.en r hr).2.2⟩⟩
end
theorem KpI.moreT {B:Nat} {p:WPos} {L:LPos} {v:Value} {x:WSt} {T T':Nat} {W:World} {r7 r8 r9 r10:Value} {l:List RemV} (h:KpI B p L v x T W r7 r8 r9 r10 l) (hT:T≤T'):KpI B p L v x T' W r7 r8 r9 r10 l:=⟨h.wd.moreT hT,h.o7,h.o8,h.o9,h.o10,h.en⟩
theorem KpI.rows {B:Nat} {p:WPos} {L:LPos} {v:Value} {x:WSt} {T:Nat} {W:World} {r7 r8 r9 r10:Value} {l:List RemV} (h:KpI B p L v x T W r7 r8 r9 r10 l) (hl:l.length≤1000):
  ∃A7 c7 A8 c8 A9 c9 A10 c10,r7= .slice A7 l.length c7∧r8= .slice A8 l.length c8∧r9= .slice A9 l.length c9∧r10= .slice A10 l.length c10∧l.length≤c7∧l.length≤c8∧l.length≤c9∧l.length≤c10:=by
 obtain⟨A7,c7,e7,d7,_⟩:=sl_len (slAt_own h.o7.own anyB (by omega) (by omega) (fun _ _=>trivial))
 obtain⟨A8,c8,e8,d8,_⟩:=sl_len (slAt_own h.o8.own anyB (by omega) (by omega) (fun _ _=>trivial))
 obtain⟨A9,c9,e9,d9,_⟩:=sl_len (slAt_own h.o9.own anyB (by omega) (by omega) (fun _ _=>trivial))
 obtain⟨A10,c10,e10,d10,_⟩:=sl_len (slAt_own h.o10.own anyB (by omega) (by omega) (fun _ _=>trivial))
 exact⟨A7,c7,A8,c8,A9,c9,A10,c10,e7,e8,e9,e10,d7,d8,d9,d10⟩
theorem sl_cells {w:World} {sz n:Nat} {xs:List Value} {A:Option Addr} {cap:Nat} (h:SlAt w anyB sz n xs (.slice A n cap)) (hn:0<n): ∃b off,A=some ⟨b,off,none⟩∧b<w.heap.size∧ ∀i y,xs[i]?=some y→w.cell? ⟨b,off+i,none⟩=some y:=by
 obtain⟨A',cap',e,_,_,_,h5⟩:=h
 cases e
 obtain⟨b,off,e,hlt,hok,hc⟩:=h5 hn
 exact⟨b,off,e,hlt,hc⟩
theorem KpI.cell {B:Nat} {p:WPos} {L:LPos} {v:Value} {x:WSt} {T:Nat} {W:World} {A7 A8 A9 A10:Option Addr} {c7 c8 c9 c10:Nat} {l:List RemV} (h:KpI B p L v x T W (.slice A7 l.length c7) (.slice A8 l.length c8) (.slice A9 l.length c9) (.slice A10 l.length c10) l) (hl:l.length≤1000) (j:Nat) (r:RemV) (hr:l[j]?=some r):
  ∃b7 o7 b8 o8 b9 o9 b10 o10,A7=some ⟨b7,o7,none⟩∧A8=some ⟨b8,o8,none⟩∧A9=some ⟨b9,o9,none⟩∧A10=some ⟨b10,o10,none⟩∧W.cell? ⟨b7,o7+j,none⟩=some (.string r.s)∧W.cell? ⟨b8,o8+j,none⟩=some (.int .i64 r.n)∧W.cell? ⟨b9,o9+j*2,none⟩=some (.int .i64 r.e.st)∧W.cell? ⟨b9,o9+j*2+1,none⟩=some (.string r.e.err)∧W.cell? ⟨b10,o10+j*2,none⟩=some (.string r.e.tgt.cls)∧W.cell? ⟨b10,o10+j*2+1,none⟩=some (.int .i64 r.e.tgt.at_):=by
 have h0:0<l.length:=by have:=(List.getElem?_eq_some_iff.1 hr).1;omega
 obtain⟨b7,o7,e7,_,k7⟩:=sl_cells (slAt_own h.o7.own anyB (by omega) (by omega) (fun _ _=>trivial)) h0
 obtain⟨b8,o8,e8,_,k8⟩:=sl_cells (slAt_own h.o8.own anyB (by omega) (by omega) (fun _ _=>trivial)) h0
 obtain⟨b9,o9,e9,_,k9⟩:=sl_cells (slAt_own h.o9.own anyB (by omega) (by omega) (fun _ _=>trivial)) h0
 obtain⟨b10,o10,e10,_,k10⟩:=sl_cells (slAt_own h.o10.own anyB (by omega) (by omega) (fun _ _=>trivial)) h0
 have q9:=rows_at (fun r:RemV=> [.int .i64 r.e.st, .string r.e.err]) 2 (fun _=>rfl) l j r hr
 have q10:=rows_at (fun r:RemV=> [.string r.e.tgt.cls, .int .i64 r.e.tgt.at_]) 2 (fun _=>rfl) l j r hr
 exact⟨b7,o7,b8,o8,b9,o9,b10,o10,e7,e8,e9,e10,k7 j _ (by unfold remS;rw [List.getElem?_map,hr];rfl),k8 j _ (by unfold remN;rw [List.getElem?_map,hr];rfl),k9 _ _ ((q9 0 (by omega)).trans rfl),k9 _ _ ((q9 1 (by omega)).trans rfl),k10 _ _ ((q10 0 (by omega)).trans rfl),k10 _ _ ((q10 1 (by omega)).trans rfl)⟩
theorem KpI.snoc {B:Nat} {p:WPos} {L:LPos} {v:Value} {x:WSt} {T:Nat} {W:World} {r7 r8 r9 r10:Value} {l:List RemV} (r:RemV) (hw:WdAt B p L v x T W) (h7:RwI B p L v x W 9 1 r7 (l.length+1) (remS l++ [.string r.s])) (h8:RwI B p L v x W 3 1 r8 (l.length+1) (remN l++ [.int .i64 r.n])) (h9:RwI B p L v x W 54 2 r9 (l.length+1) (remE l++ [.int .i64 r.e.st, .string r.e.err])) (h10:RwI B p L v x W 37 2 r10 (l.length+1) (remT l++ [.string r.e.tgt.cls, .int .i64 r.e.tgt.at_]))
  (hen: ∀q∈l,q.s.size≤60000∧I64 q.n∧entf x q.s.data.toList q.n=some q.e) (hr:r.s.size≤60000∧I64 r.n∧entf x r.s.data.toList r.n=some r.e):KpI B p L v x T W r7 r8 r9 r10 (l++ [r]):=by
 have hl:(l++ [r]).length=l.length+1:=by simp
 refine⟨hw, ?_, ?_, ?_, ?_,fun q hq=> ?_⟩
 ·rw [hl,show remS (l++ [r])=remS l++ [.string r.s] by simp [remS]];exact h7
 ·rw [hl,show remN (l++ [r])=remN l++ [.int .i64 r.n] by simp [remN]];exact h8
 ·rw [hl,show remE (l++ [r])=remE l++ [.int .i64 r.e.st, .string r.e.err] by simp [remE]];exact h9
 ·rw [hl,show remT (l++ [r])=remT l++ [.string r.e.tgt.cls, .int .i64 r.e.tgt.at_] by simp [remT]];exact h10
 ·rcases List.mem_append.1 hq with hq|hq
  ·exact hen q hq
  ·simp only [List.mem_singleton] at hq
   subst hq
   exact hr
theorem bx_push {W W':World} {B e sz n:Nat} {rv:Value} {cs vs:List Value} {g t:Nat} (h:W.ownsRow B e sz rv n cs) (hb:Bx W g vs t) (ht:t≠e) (hg:W.grownBy W' rv.ownBlock):Bx W' g vs t:=by
 refine(hg.block g hb.lt fun e1=> ?_).trans hb
 rcases h.2 with⟨rfl,_⟩ | ⟨g',cap,cur,rfl,_,h3,_⟩
 ·cases e1
 ·have e2:g=g':=by injection (show some g=some g' from e1)
  subst e2
  unfold Bx at hb
  rw [hb] at h3
  injection h3 with h3
  injection h3 with _ h4
  exact ht h4
theorem keep_define (x:WSt) (s:ByteArray) (l:List UInt8):WKeep x (x.define s l):=
 ⟨by show LKeep ⟨x.σ.ts,x.σ.F⟩ ⟨(x.σ.define s l).ts,(x.σ.define s l).F⟩;rw [(St.define_ts x.σ s l).1,(St.define_ts x.σ s l).2];exact LKeep.refl _,fun y q h=> ⟨q,h,rfl,rfl,rfl,fun _ _ h=>h⟩⟩
theorem entAt_of {x:WSt} {s:List UInt8} {n:Int} {e:EntV} (h:entf x s n=some e):entAt x s n=e:=by
 unfold entAt
 unfold entf at h
 rw [h]
 rfl
end Go.Proofs.YtpbnjakeielipaaGreatDoor
