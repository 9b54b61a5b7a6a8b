/-
  What the laws rest on, part 5: walks of the program's functions and plain laws. Conditions: none but those that each theorem names.
-/
import Derived.Test.YtpbnjakeielipaaGreatDoorB04
set_option linter.unusedSimpArgs false
set_option linter.unusedVariables false
set_option maxRecDepth 100000
set_option maxHeartbeats 1000000
namespace Go.Proofs.YtpbnjakeielipaaGreatDoor
open Go Go.RowKit Lib
def threeP {α:Type} (l:List UInt8) (K:Nat→Nat→Nat→Rs→Rx α) (x1 x2 x3:Nat) (st:Rs):Nat→Rx α
 |0=>Rx.bind (numP l 2 st) fun a s1=>Rx.bind (numP l 2 s1) fun n s2=>Rx.bind (numP l 2 s2) fun d s3=>K a n d s3
 |1=>Rx.bind (numP l 2 st) fun n s2=>Rx.bind (numP l 2 s2) fun d s3=>K x1 n d s3
 |2=>Rx.bind (numP l 2 st) fun d s3=>K x1 x2 d s3
 |_=>K x1 x2 x3 st
structure NumW (T:TypeId) (zs:List Value) (w:World) (r b nr:Nat) (A:Option Addr) (cap:Nat) (l:List UInt8) (s:Rs) (wk:World):Prop where
 rb:RB r w wk
 box:Bx wk b [.pointer (some ⟨r,0,none⟩)] 242
 res:Bx wk nr zs T
 rd:RdrAt wk r A cap l s
theorem NumW.step {T:TypeId} {zs:List Value} {w:World} {r b nr:Nat} {A:Option Addr} {cap:Nat} {l:List UInt8} {s s':Rs} {wk wq:World} (h:NumW T zs w r b nr A cap l s wk) (hb:b≠r) (hn:nr≠r) (hq:RB r wk wq) (hs:RdrAt wq r A cap l s'):NumW T zs w r b nr A cap l s' wq:=
 ⟨⟨h.rb.but.trans (hq.but.mono h.rb.but.size fun _ _ h=>h),hq.c4.trans h.rb.c4⟩,h.box.but hq.but (ne_one hb),h.res.but hq.but (ne_one hn),hs⟩
theorem NumW.below {T:TypeId} {zs:List Value} {w:World} {r b nr:Nat} {A:Option Addr} {cap:Nat} {l:List UInt8} {s:Rs} {wk wq:World} (h:NumW T zs w r b nr A cap l s wk) (hr:r<w.heap.size) (hb:Below wk.heap.size wk wq):NumW T zs w r b nr A cap l s wq:=
 ⟨ha_low h.rb hr (hb.mono h.rb.but.size),h.box.below hb h.box.lt,h.res.below hb h.res.lt,h.rd.keep hb⟩
theorem NumW.other {T:TypeId} {zs:List Value} {w:World} {r b nr g:Nat} {A:Option Addr} {cap:Nat} {l:List UInt8} {s:Rs} {wk:World} (h:NumW T zs w r b nr A cap l s wk) (cs:Array Value) (hr:g≠r) (hb:g≠b) (hn:g≠nr) (hg:w.heap.size≤g) (hA: ∀a,A=some a→0<l.length→a.block≠g):NumW T zs w r b nr A cap l s (wk.setRow g cs):=by
 have hbt:But wk.heap.size [g] wk (wk.setRow g cs):=⟨rfl,rfl,rfl,by simp,fun k _ hs=>setRow_other wk g k cs (by simpa using hs)⟩
 have hc: ∀o,(wk.setRow g cs).cell? ⟨r,o,none⟩=wk.cell? ⟨r,o,none⟩:=fun o=>cell_setRow_other wk g cs _ (Ne.symm hr)
 refine⟨⟨⟨h.rb.but.os,h.rb.but.tape,h.rb.but.output,by simpa using h.rb.but.size,fun k hk hs=> (setRow_other wk g k cs (by omega)).trans (h.rb.but.block k hk hs)⟩,(hc 4).trans h.rb.c4⟩,
  h.box.but hbt (ne_one (Ne.symm hb)),h.res.but hbt (ne_one (Ne.symm hn)), ?_⟩
 exact⟨(hc 0).trans h.rd.c0,(hc 1).trans h.rd.c1,(hc 2).trans h.rd.c2,(hc 3).trans h.rd.c3,
  fun o=> (World.frozen?_of_block (w:=wk) (setRow_other wk g r cs (Ne.symm hr))).trans (h.rd.fz o),
  ⟨h.rd.rd.hlen,h.rd.rd.hle,h.rd.rd.hmax,fun h0=>by
   obtain⟨k,off,e,hlt,hc⟩:=h.rd.rd.hat h0
   exact⟨k,off,e,by simpa using hlt,fun i hi=> (cell_setRow_other wk g cs ⟨k,off+i,none⟩ (hA ⟨k,off,none⟩ e h0)).trans (hc i hi)⟩⟩,
  h.rd.ne,by simpa using h.rd.lt,h.rd.len,h.rd.pos,h.rd.pm,h.rd.most⟩
theorem if_pos_mp {c:Bool} {p q:Prop} (h:c=true) (hp:p):if c=true then p else q:=by rw [if_pos h];exact hp
theorem RB.trans {r:Nat} {a b c:World} (h:RB r a b) (k:RB r b c):RB r a c:=⟨h.but.trans (k.but.mono h.but.size fun _ _ h=>h),k.c4.trans h.c4⟩
theorem region_three {α:Type} (T:TypeId) (pos:String) (zs:List Value) (mk:Nat→Nat→Nat→List Value) (r b nr:Nat) (A:Option Addr) (cap:Nat) (l:List UInt8) (st:Rs) (w W0:World) (p:Rx α) (K:Nat→Nat→Nat→Rs→Rx α)
  (hbr:b≠r) (hnr:nr≠r) (hbw:w.heap.size≤b) (hnw:w.heap.size≤nr) (hrw:r<w.heap.size) (hAw: ∀a,A=some a→0<l.length→a.block<w.heap.size) (h0:NumW T zs w r b nr A cap l st W0) (hp:p=threeP l K 0 0 0 st 0)
  (hal: ∀(a:Act) (wk:World),(execOp a.eval { dst:=some 3,op:=Op.alloc T,type:=0,pos:=pos,after:= #[],guard:=none }).run Tryz.prog wk= .ok (.value (.pointer (some ⟨wk.heap.size,0,none⟩))) (wk.alloc (.cells zs.toArray T)))
  (hbu: ∀(v3 v10:Value) (wk:World) (x y z:Nat),(execOp (Act.eval { tmps:= #[.pointer (some ⟨r,0,none⟩), .pointer (some ⟨b,0,none⟩), .pointer (some ⟨nr,0,none⟩),v3, .pointer (some ⟨r,0,none⟩), .int .i64 x, .pointer (some ⟨r,0,none⟩), .int .i64 y, .pointer (some ⟨r,0,none⟩), .int .i64 z,v10,undef,undef,undef,undef],defers:= [] }) { dst:=some 10,op:=Op.build T #[(0,Operand.tmp 5),(1,Operand.tmp 7),(2,Operand.tmp 9)],type:=T,pos:=pos,after:= #[{ on:=1,ground:=Ground.data },{ on:=3,ground:=Ground.data },{ on:=5,ground:=Ground.data }],guard:=none }).run Tryz.prog wk= .ok (.value (.agg (mk x y z).toArray)) wk)
  (hmk: ∀x y z,(mk x y z).length=zs.length∧ ∀v∈(mk x y z),v.oneCell'=true) (d:TypeDesc) (hu:Tryz.prog.underlying T=some d) (hd:(match d with| .struct _| .array _ _=>true|_=>false)=true) (hinf:(Tryz.prog.info? T).map (·.size)=some zs.length)
  (Q:Exit→Act→World→Prop) (hQ: ∀c a (k:Nat) v w,Q (.panic c) (a.put (some k) v) w→Q (.panic c) a w)
  (hpan: ∀(a:Act) pa er wk,a.defers= []→p= .error (pa,er)→RB r w wk→Q (.panic [{ v:=stopV pa er,recovered:=false }]) a wk)
  (hfin: ∀(x1 x2 x3:Nat) (s3:Rs) (g:Nat) (wk:World),p=K x1 x2 x3 s3→s3.pool=st.pool→NumW T zs w r b nr A cap l s3 wk→Bx wk g (mk x1 x2 x3) T→W0.heap.size≤g→
   Q .normal { tmps:= #[.pointer (some ⟨r,0,none⟩), .pointer (some ⟨b,0,none⟩), .pointer (some ⟨nr,0,none⟩), .pointer (some ⟨g,0,none⟩), .pointer (some ⟨r,0,none⟩), .int .i64 x1, .pointer (some ⟨r,0,none⟩), .int .i64 x2, .pointer (some ⟨r,0,none⟩), .int .i64 x3, .agg (mk x1 x2 x3).toArray,undef,undef,undef,undef],defers:= [] } wk):
  Code.wp Tryz.prog (Code.region 1 #[
   { dst:=some 4,op:=Op.load 242 (Operand.tmp 1),type:=242,pos:=pos,after:= #[],guard:=none },
   { dst:=some 5,op:=Op.call { callee:=Callee.value (Operand.func 119),args:= #[Operand.tmp 4,Operand.const (Value.int IntKind.i64 2)],argTypes:= #[242,3] },type:=3,pos:=pos,after:= #[{ on:=0,ground:=Ground.data }],guard:=none },
   { dst:=some 6,op:=Op.load 242 (Operand.tmp 1),type:=242,pos:=pos,after:= #[],guard:=none },
   { dst:=some 7,op:=Op.call { callee:=Callee.value (Operand.func 119),args:= #[Operand.tmp 6,Operand.const (Value.int IntKind.i64 2)],argTypes:= #[242,3] },type:=3,pos:=pos,after:= #[{ on:=2,ground:=Ground.data },{ on:=1,ground:=Ground.chain }],guard:=none },
   { dst:=some 8,op:=Op.load 242 (Operand.tmp 1),type:=242,pos:=pos,after:= #[],guard:=none },
   { dst:=some 9,op:=Op.call { callee:=Callee.value (Operand.func 119),args:= #[Operand.tmp 8,Operand.const (Value.int IntKind.i64 2)],argTypes:= #[242,3] },type:=3,pos:=pos,after:= #[{ on:=4,ground:=Ground.data },{ on:=3,ground:=Ground.chain }],guard:=none },
   { dst:=some 10,op:=Op.build T #[(0,Operand.tmp 5),(1,Operand.tmp 7),(2,Operand.tmp 9)],type:=T,pos:=pos,after:= #[{ on:=1,ground:=Ground.data },{ on:=3,ground:=Ground.data },{ on:=5,ground:=Ground.data }],guard:=none },
   { dst:=some 3,op:=Op.alloc T,type:=0,pos:=pos,after:= #[],guard:=none },
   { dst:=none,op:=Op.store T (Operand.tmp 3) (Operand.tmp 10),type:=0,pos:=pos,after:= #[{ on:=7,ground:=Ground.data },{ on:=6,ground:=Ground.data },{ on:=5,ground:=Ground.chain },{ on:=0,ground:=Ground.phase },{ on:=1,ground:=Ground.phase },{ on:=2,ground:=Ground.phase },{ on:=3,ground:=Ground.phase },{ on:=4,ground:=Ground.phase },{ on:=5,ground:=Ground.phase },{ on:=6,ground:=Ground.phase },{ on:=7,ground:=Ground.phase }],guard:=none }] true)
   Q { tmps:= #[.pointer (some ⟨r,0,none⟩), .pointer (some ⟨b,0,none⟩), .pointer (some ⟨nr,0,none⟩),undef,undef,undef,undef,undef,undef,undef,undef,undef,undef,undef,undef],defers:= [] } W0:=by
 have hS0:W0.drew.cell? ⟨b,0,none⟩=some (.pointer (some ⟨r,0,none⟩)):=h0.box.cell 0 rfl
 have hz0:W0.drew.heap.size=W0.heap.size:=rfl
 have H0:NumW T zs w r b nr A cap l st W0.drew:=h0.below hrw ⟨rfl,rfl,rfl,Nat.le_refl _,fun _ _=>rfl⟩
 refine wp_region_held_drew (S:=fun w'=>w'.cell? ⟨b,0,none⟩=some (.pointer (some ⟨r,0,none⟩))) rfl hS0 (fun _=> ?_)
 generalize W0.drew=W1 at*
 refine wpAnyH_take (i:=0) (oi:={ dst:=some 4,op:=Op.load 242 (Operand.tmp 1),type:=242,pos:=pos,after:= #[],guard:=none }) (v:= .pointer (some ⟨r,0,none⟩)) rfl (by kernel_rfl) (by kernel_rfl) (by kernel_rfl) (fun _ _ _ h=>hQ _ _ _ _ _ h) (Or.inl ⟨by rfl, ?_⟩) hS0 ?_
 ·intro w' hw'
  go_simp
 refine wpAnyH_take (i:=2) (oi:={ dst:=some 6,op:=Op.load 242 (Operand.tmp 1),type:=242,pos:=pos,after:= #[],guard:=none }) (v:= .pointer (some ⟨r,0,none⟩)) rfl (by kernel_rfl) (by kernel_rfl) (by kernel_rfl) (fun _ _ _ h=>hQ _ _ _ _ _ h) (Or.inl ⟨by rfl, ?_⟩) hS0 ?_
 ·intro w' hw'
  go_simp
 refine wpAnyH_take (i:=4) (oi:={ dst:=some 8,op:=Op.load 242 (Operand.tmp 1),type:=242,pos:=pos,after:= #[],guard:=none }) (v:= .pointer (some ⟨r,0,none⟩)) rfl (by kernel_rfl) (by kernel_rfl) (by kernel_rfl) (fun _ _ _ h=>hQ _ _ _ _ _ h) (Or.inl ⟨by rfl, ?_⟩) hS0 ?_
 ·intro w' hw'
  go_simp
 simp only [Act.put,List.setIfInBounds_toArray,List.set_cons_zero,List.set_cons_succ]
 have hbl:=H0.box.lt
 have hnl:=H0.res.lt
 have hw1:w.heap.size≤W1.heap.size:=by omega
 refine wpAnyH_at (L':=threeL (0,false)) (by kernel_rfl) ?_
 refine wpAnyH_states threeL (fun s a wk=>s.1≤5∧(s.1=5→s.2=true)∧ ∃(v3 v5 v7 v9 v10:Value) (x1 x2 x3:Nat) (s':Rs),a={ tmps:= #[.pointer (some ⟨r,0,none⟩), .pointer (some ⟨b,0,none⟩), .pointer (some ⟨nr,0,none⟩),v3, .pointer (some ⟨r,0,none⟩),v5, .pointer (some ⟨r,0,none⟩),v7, .pointer (some ⟨r,0,none⟩),v9,v10,undef,undef,undef,undef],defers:= [] }∧
   NumW T zs w r b nr A cap l s' wk∧s'.pool=st.pool∧W1.heap.size≤wk.heap.size∧p=threeP l K x1 x2 x3 s' s.1∧(s.2=true→ ∃g,v3= .pointer (some ⟨g,0,none⟩)∧W1.heap.size≤g∧Bx wk g (if s.1=5 then mk x1 x2 x3 else zs) T)∧
   (1≤s.1→v5= .int .i64 x1)∧(2≤s.1→v7= .int .i64 x2)∧(3≤s.1→v9= .int .i64 x3)∧(4≤s.1→v10= .agg (mk x1 x2 x3).toArray)) threeU threeN ?_ ?_ ?_ 6 (0,false) _ _ rfl ?_
 ·rintro⟨k,al⟩ a wk ⟨h1,h2,_⟩
  rcases three_cases h1 h2 with h|h|h|h|h|h|h|h|h|h|h<;>rw [h] <;>kernel_rfl
 ·rintro⟨k,al⟩ a wk ⟨h1,h2,v3,v5,v7,v9,v10,x1,x2,x3,s',rfl,hN,hpo,hz,hpp,hg,e5,e7,e9,e10⟩ h0
  obtain⟨rfl,rfl⟩:k=5∧al=true:=by
   rcases three_cases h1 h2 with h|h|h|h|h|h|h|h|h|h|h<;>injection h with h3 h4<;>subst h3<;>subst h4<;>first|exact⟨rfl,rfl⟩ | (exfalso;revert h0;decide)
  obtain⟨g,rfl,hgl,hbx⟩:=hg rfl
  obtain rfl:=e5 (by omega)
  obtain rfl:=e7 (by omega)
  obtain rfl:=e9 (by omega)
  obtain rfl:=e10 (by omega)
  exact hfin x1 x2 x3 s' g wk hpp hpo hN hbx (by omega)
 ·rintro⟨k,al⟩ a wk ⟨h1,h2,v3,v5,v7,v9,v10,x1,x2,x3,s',rfl,hN,hpo,hz,hpp,hg,e5,e7,e9,e10⟩ i hi
  have hb0:=hN.box.cell 0 rfl
  have hlt:=hN.box.lt
  have hrd:=hN.rd
  rcases three_mem hi with⟨rfl,hk⟩ | ⟨rfl,hk⟩ | ⟨rfl,hk⟩ | ⟨rfl,hk⟩ | ⟨rfl,hk,ha⟩ | ⟨rfl,ha⟩
  ·simp only at hk
   subst hk
   obtain⟨q1,q2⟩:=three_next (b:=al) 1 (.inl ⟨rfl,rfl⟩)
   refine⟨(1,al),q1,q2, ?_⟩
   have HN:=Lib.hid hN
   have HPP:=Lib.hid hpp
   have HG:=Lib.hid hg
   have E0:=Lib.hid e5
   have E1:=Lib.hid e7
   have E2:=Lib.hid e9
   clear hN hpp hg e5 e7 e9 e10 q1 q2 hrd hi h1 h2
   refine wpOp_step rfl (fun K' hK=> ?_)
   go_wp2_with (go_at_call 119;refine stop_here ?_)
   refine go_on ?_
   refine(number_all r A cap 2 l s' _ HN.out.rd (by omega)).mono ?_
   intro e wq hq
   rcases hq.cases with⟨pa,er,hp',hb,rfl⟩ | ⟨xq,sq,v,hp',hb,rfl,⟨⟨rfl,hnq⟩,hsz⟩,hs⟩
   ·exact hpan _ _ _ _ rfl (HPP.out.trans (bind_stop hp')) (HN.out.rb.trans hb)
   ·have hN':=HN.out.step hbr hnr hb hs
    exact hK _ _ ⟨hN'.box.cell 0 rfl,by omega,by simp,v3,(.int .i64 xq),v7,v9,v10,xq,x2,x3,sq,rfl,hN',(keeps_num _ _ _ _ _ hp').trans hpo,by omega,HPP.out.trans (bind_step hp'),fun h=> (by obtain⟨g,h1,h2,h3⟩:=HG.out h;exact⟨g,h1,h2,h3.but hb.but (ne_one (by omega))⟩),fun _=>rfl,fun h=>absurd h (by simp),fun h=>absurd h (by simp),fun h=>absurd h (by simp)⟩
  ·simp only at hk
   subst hk
   obtain⟨q1,q2⟩:=three_next (b:=al) 3 (.inr (.inl ⟨rfl,rfl⟩))
   refine⟨(2,al),q1,q2, ?_⟩
   have HN:=Lib.hid hN
   have HPP:=Lib.hid hpp
   have HG:=Lib.hid hg
   have E0:=Lib.hid e5
   have E1:=Lib.hid e7
   have E2:=Lib.hid e9
   clear hN hpp hg e5 e7 e9 e10 q1 q2 hrd hi h1 h2
   refine wpOp_step rfl (fun K' hK=> ?_)
   go_wp2_with (go_at_call 119;refine stop_here ?_)
   refine go_on ?_
   refine(number_all r A cap 2 l s' _ HN.out.rd (by omega)).mono ?_
   intro e wq hq
   rcases hq.cases with⟨pa,er,hp',hb,rfl⟩ | ⟨xq,sq,v,hp',hb,rfl,⟨⟨rfl,hnq⟩,hsz⟩,hs⟩
   ·exact hpan _ _ _ _ rfl (HPP.out.trans (bind_stop hp')) (HN.out.rb.trans hb)
   ·have hN':=HN.out.step hbr hnr hb hs
    exact hK _ _ ⟨hN'.box.cell 0 rfl,by omega,by simp,v3,v5,(.int .i64 xq),v9,v10,x1,xq,x3,sq,rfl,hN',(keeps_num _ _ _ _ _ hp').trans hpo,by omega,HPP.out.trans (bind_step hp'),fun h=> (by obtain⟨g,h1,h2,h3⟩:=HG.out h;exact⟨g,h1,h2,h3.but hb.but (ne_one (by omega))⟩),fun _=>E0.out (by omega),fun _=>rfl,fun h=>absurd h (by simp),fun h=>absurd h (by simp)⟩
  ·simp only at hk
   subst hk
   obtain⟨q1,q2⟩:=three_next (b:=al) 5 (.inr (.inr (.inl ⟨rfl,rfl⟩)))
   refine⟨(3,al),q1,q2, ?_⟩
   have HN:=Lib.hid hN
   have HPP:=Lib.hid hpp
   have HG:=Lib.hid hg
   have E0:=Lib.hid e5
   have E1:=Lib.hid e7
   have E2:=Lib.hid e9
   clear hN hpp hg e5 e7 e9 e10 q1 q2 hrd hi h1 h2
   refine wpOp_step rfl (fun K' hK=> ?_)
   go_wp2_with (go_at_call 119;refine stop_here ?_)
   refine go_on ?_
   refine(number_all r A cap 2 l s' _ HN.out.rd (by omega)).mono ?_
   intro e wq hq
   rcases hq.cases with⟨pa,er,hp',hb,rfl⟩ | ⟨xq,sq,v,hp',hb,rfl,⟨⟨rfl,hnq⟩,hsz⟩,hs⟩
   ·exact hpan _ _ _ _ rfl (HPP.out.trans (bind_stop hp')) (HN.out.rb.trans hb)
   ·have hN':=HN.out.step hbr hnr hb hs
    exact hK _ _ ⟨hN'.box.cell 0 rfl,by omega,by simp,v3,v5,v7,(.int .i64 xq),v10,x1,x2,xq,sq,rfl,hN',(keeps_num _ _ _ _ _ hp').trans hpo,by omega,HPP.out.trans (bind_step hp'),fun h=> (by obtain⟨g,h1,h2,h3⟩:=HG.out h;exact⟨g,h1,h2,h3.but hb.but (ne_one (by omega))⟩),fun _=>E0.out (by omega),fun _=>E1.out (by omega),fun _=>rfl,fun h=>absurd h (by simp)⟩
  ·simp only at hk
   subst hk
   obtain⟨q1,q2⟩:=three_next (b:=al) 6 (.inr (.inr (.inr (.inl ⟨rfl,rfl⟩))))
   refine⟨(4,al),q1,q2, ?_⟩
   obtain rfl:=e5 (by omega)
   obtain rfl:=e7 (by omega)
   obtain rfl:=e9 (by omega)
   refine wpOp_step (o:={ dst:=some 10,op:=Op.build T #[(0,Operand.tmp 5),(1,Operand.tmp 7),(2,Operand.tmp 9)],type:=T,pos:=pos,after:= #[{ on:=1,ground:=Ground.data },{ on:=3,ground:=Ground.data },{ on:=5,ground:=Ground.data }],guard:=none }) rfl (fun K' hK=> ?_)
   refine if_pos_mp rfl ?_
   unfold Oper.wp
   rw [hbu v3 v10 wk x1 x2 x3,Oper.upon_value]
   exact hK _ _ ⟨hb0,by omega,by simp,v3,_,_,_,_,x1,x2,x3,s',rfl,hN,hpo,hz,hpp,fun h=>by obtain⟨g,h1,h2,h3⟩:=hg h;exact⟨g,h1,h2,h3⟩,fun _=>rfl,fun _=>rfl,fun _=>rfl,fun _=>rfl⟩
  ·simp only at hk ha
   subst hk
   subst ha
   obtain⟨q1,q2⟩:=three_next (b:=true) 8 (.inr (.inr (.inr (.inr ⟨rfl,rfl⟩))))
   refine⟨(5,true),q1,q2, ?_⟩
   obtain⟨g,rfl,hgl,hbx⟩:=hg rfl
   obtain rfl:=e10 (by omega)
   refine wpOp_step (o:={ dst:=none,op:=Op.store T (Operand.tmp 3) (Operand.tmp 10),type:=0,pos:=pos,after:= #[{ on:=7,ground:=Ground.data },{ on:=6,ground:=Ground.data },{ on:=5,ground:=Ground.chain },{ on:=0,ground:=Ground.phase },{ on:=1,ground:=Ground.phase },{ on:=2,ground:=Ground.phase },{ on:=3,ground:=Ground.phase },{ on:=4,ground:=Ground.phase },{ on:=5,ground:=Ground.phase },{ on:=6,ground:=Ground.phase },{ on:=7,ground:=Ground.phase }],guard:=none }) rfl (fun K' hK=> ?_)
   refine if_pos_mp rfl ?_
   have hbx':wk.heap[g]?=some (.cells zs.toArray T (0,0)):=hbx
   refine wp_store_row T _ _ rfl g (mk x1 x2 x3).toArray rfl rfl T zs.toArray hbx' (by simpa [hmk] using hinf) (by simp [hmk]) (by simpa using (hmk x1 x2 x3).2) ?_
   exact hK _ _ ⟨(cell_setRow_other wk g _ ⟨b,0,none⟩ (by simp;omega)).trans hb0,by omega,by simp,_,v5,v7,v9,_,x1,x2,x3,s',rfl,hN.other _ (by omega) (by omega) (by omega) (by omega) (fun a e h0=>by have:=hAw a e h0;omega),hpo,by simpa using hz,hpp,fun _=> ⟨g,rfl,hgl,hbx.row _⟩,fun _=>e5 (by omega),fun _=>e7 (by omega),fun _=>e9 (by omega),fun _=>rfl⟩
  ·simp only at ha
   subst ha
   obtain⟨q1,q2⟩:=three_made (k:=k)
   refine⟨(k,true),q1,q2, ?_⟩
   refine wpOp_step (o:={ dst:=some 3,op:=Op.alloc T,type:=0,pos:=pos,after:= #[],guard:=none }) rfl (fun K' hK=> ?_)
   refine if_pos_mp rfl ?_
   unfold Oper.wp
   rw [hal,Oper.upon_value]
   have hN':=hN.below hrw ((Below.refl _ _).alloc (Nat.le_refl _) (.cells zs.toArray T))
   exact hK _ _ ⟨hN'.box.cell 0 rfl,h1,fun _=>rfl,_,v5,v7,v9,v10,x1,x2,x3,s',rfl,hN',hpo,by simp;omega,hpp,fun _=> ⟨_,rfl,hz,by rw [if_neg (fun h=>by cases h2 h)];exact bx_new _ _ _⟩,e5,e7,e9,e10⟩
 ·exact⟨by omega,by simp,undef,undef,undef,undef,undef,0,0,0,st,rfl,H0,rfl,Nat.le_refl _,hp,by simp,by simp,by simp,by simp,by simp⟩
def fieldAct (l:List UInt8) (f:FieldV) (a long:Nat) (s:Rs):Rx FieldV:=if long≠2 then .error (a,26) else Rx.bind (numP l 2 s) fun v s'=> .ok ({ f with value:=v },s')
structure FldT (b F r:Nat) (f:FieldV) (w:World):Prop where
 box:Bx w b [.pointer (some ⟨r,0,none⟩)] 242
 fld:Bx w F f.cells 168
theorem RdrAt.other {w:World} {r:Nat} {A:Option Addr} {cap:Nat} {l:List UInt8} {st:Rs} (h:RdrAt w r A cap l st) (p:Addr) (v:Value) (hr:p.block≠r) (ha: ∀a,A=some a→0<l.length→a.block≠p.block):RdrAt (w.setCell p v) r A cap l st where
 c0:=(World.cell?_setCell_other _ _ _ _ (by intro e;subst e;exact hr rfl)).trans h.c0
 c1:=(World.cell?_setCell_other _ _ _ _ (by intro e;subst e;exact hr rfl)).trans h.c1
 c2:=(World.cell?_setCell_other _ _ _ _ (by intro e;subst e;exact hr rfl)).trans h.c2
 c3:=(World.cell?_setCell_other _ _ _ _ (by intro e;subst e;exact hr rfl)).trans h.c3
 fz:=fun o=>by simp [go_sem,h.fz o]
 rd:=⟨h.rd.hlen,h.rd.hle,h.rd.hmax,fun h0=>by
  obtain⟨k,off,e,hlt,hc⟩:=h.rd.hat h0
  exact⟨k,off,e,by simpa using hlt,fun i hi=> (World.cell?_setCell_other _ _ _ _ (by intro e2;subst e2;exact ha ⟨k,off,none⟩ e h0 rfl)).trans (hc i hi)⟩⟩
 ne:=h.ne
 lt:=by simpa using h.lt
 len:=h.len
 pos:=h.pos
 pm:=h.pm
 most:=h.most
theorem field1_any (b F r:Nat) (A:Option Addr) (cap:Nat) (l:List UInt8) (hbF:b≠F) (hFr:F≠r) (hbr:b≠r) (hAF: ∀a,A=some a→0<l.length→a.block≠F) (f:FieldV) (a n:Nat) (st:Rs) (w:World) (h:RdrAt w r A cap l st) (ht:FldT b F r f w) (ha:a≤65536) (hn:n<4294967296):
  Calls Tryz.prog 134 #[.int .i64 a, .int .i64 n, .pointer (some ⟨b,0,none⟩), .pointer (some ⟨F,0,none⟩)] w (APost w r [F] A cap l (fieldAct l f a n st) (FldT b F r)):=by
 have hr:=h.lt
 have H0:=Lib.hid h
 have HT0:=Lib.hid ht
 have c_b:=ht.box.cell 0 rfl
 have hAF':=Lib.hid hAF
 have HA0:=Lib.hid (RS.refl r [F] w)
 clear h ht hAF
 by_cases h2:n=2
 ·subst h2
  have HE0:=Lib.hid (show fieldAct l f a 2 st=Rx.bind (numP l 2 st) _ from if_neg (by decide))
  go_enter Tryz.func134,Tryz.ntmps134
  go_wp2_with (go_at_call 119;refine(number_any r A cap 2 l st _ (H0.out.keepB H0.out (by repeat' (first|with_reducible exact Below.refl _ _|with_reducible refine below_drewN ?_ _|with_reducible refine Below.drew ?_|with_reducible refine Below.setCell ?_ ?_ _|with_reducible refine Below.alloc ?_ ?_ _|omega| (simp;done) | (simp;omega)))) (by omega)).mono ?_;refine stop_here ?_)
  refine go_on ?_
  intro e w1 hq
  rcases hq.cases with⟨a,er,hp,hb,rfl⟩ | ⟨x1,s1,v,hp,hb,rfl,⟨rfl,hn1⟩,hs⟩
  ·have HP:=Lib.hid (HE0.out.trans (bind_stop hp))
   clear hp
   have HA:=Lib.hid (HA0.out.step hr (by repeat' (first|with_reducible exact Below.refl _ _|with_reducible refine below_drewN ?_ _|with_reducible refine Below.drew ?_|with_reducible refine Below.setCell ?_ ?_ _|with_reducible refine Below.alloc ?_ ?_ _|omega| (simp;done) | (simp;omega))) hb)
   clear hb
   go_wp2_with fail
   exact(show _∧_ from⟨rfl,apost_error HP.out HA.out⟩)
  ·have HE1:=Lib.hid (HE0.out.trans (bind_step hp))
   clear hp
   have HA1:=Lib.hid (HA0.out.step hr (by repeat' (first|with_reducible exact Below.refl _ _|with_reducible refine below_drewN ?_ _|with_reducible refine Below.drew ?_|with_reducible refine Below.setCell ?_ ?_ _|with_reducible refine Below.alloc ?_ ?_ _|omega| (simp;done) | (simp;omega))) hb)
   have HS1:=Lib.hid hs
   have hz1:=hb.but.size
   try simp at hz1
   have hy1:=HA1.out.but.size
   clear hb hs
   have X_b:=Lib.hid (HT0.out.box.but hq.1.but (ne_one (by omega)))
   have X_F:=Lib.hid (HT0.out.fld.but hq.1.but (ne_one (by omega)))
   clear c_b
   have c_F:=X_F.out.cell 3 rfl
   have z_F:=X_F.out.frozen 3
   go_wp2_with fail
   go_end0
   exact apost_ok HE1.out ⟨HA1.out.but.set ⟨F,3,none⟩ (.inl (by simp)) _,(World.cell?_setCell_other _ _ _ _ (by intro e;injection e with e _;exact hFr e)).trans HA1.out.c4⟩ ⟨X_b.out.set_other _ _ (Ne.symm hbF),X_F.out.set 3 _⟩ (HS1.out.other _ _ hFr (fun a e h0=>hAF'.out a e h0))
 ·have HE0:=Lib.hid (show fieldAct l f a n st= .error (a,26) from if_pos h2)
  have hb2:((n:Int) !=2)=true:=by simp;omega
  clear h2
  go_enter Tryz.func134,Tryz.ntmps134
  go_wp2_with (go_at_call 120;refine(wrong_any _ _ _ _).mono ?_;rintro e w9 ⟨rfl,rfl⟩)
  exact(show _∧_ from⟨rfl,apost_error HE0.out HA0.out⟩)
theorem rb_rs {r g:Nat} {w wk w4:World} (h:RB r w wk) (k:RS r [g] wk w4) (hg:w.heap.size≤g):RB r w w4:=
 ⟨h.but.trans (k.but.mono h.but.size fun q hq hm=>by simp at hm;rcases hm with rfl|rfl<;>first| (simp;done) |omega),k.c4.trans h.c4⟩
theorem RB.set {r:Nat} {a w:World} (h:RB r a w) (p:Addr) (hp:a.heap.size≤p.block) (hr:p.block≠r) (v:Value):RB r a (w.setCell p v):=⟨h.but.set p (.inr hp) v,(World.cell?_setCell_other _ _ _ _ (by intro e;subst e;exact hr rfl)).trans h.c4⟩
theorem cv_list:(ByteArray.mk #[67,111,110,115,116,97,110,116,86,97,108,117,101]).toList=constantValueL:=by decide+kernel
theorem field_any:FieldC:=by
 intro r A cap l st w ok hok h hp
 have hr:=h.lt
 have hA:=fun(a:Addr) (e:A=some a) (h0:0<l.length)=> (show a.block<w.heap.size by
  obtain⟨b,off,e2,hlt,_⟩:=h.rd.hat h0
  rw [e] at e2
  injection e2 with e2
  subst e2
  exact hlt)
 have HA:=Lib.hid hA
 have H0:=Lib.hid h
 have HP0:=Lib.hid hp
 have HK:=Lib.hid hok
 clear h hp hok hA
 go_enter Tryz.func123,Tryz.ntmps123
 go_wp2_with fail
 have hb:=(((Below.refl w.heap.size w).alloc (Nat.le_refl _) (.cells #[Value.pointer (some ⟨r,0,none⟩)] 242)).alloc (by simp) (.cells #[Value.int .i64 0, .int .i64 0, .int .i64 0, .int .i64 0] 168))
 refine region_three (α:=FieldV) 168 _ [Value.int .i64 0, .int .i64 0, .int .i64 0, .int .i64 0] (fun x y z=> [.int .i64 x, .int .i64 y, .int .i64 z, .int .i64 0]) r w.heap.size (w.heap.size+1) A cap l st w _ (fieldP l st)
  (fun a n d s3=>attrsP l (some constantValueL) (fun f at' long s=>if long≠2 then .error (at',26) else Rx.bind (numP l 2 s) fun v s'=> .ok ({ f with value:=v },s')) ⟨a,n,d,0⟩ s3) (by omega) (by omega) (by omega) (by omega) hr HA.out ⟨?_, ?_, ?_, ?_⟩ rfl ?_ ?_ ?_ _ rfl rfl rfl _ ?_ ?_ ?_
 ·exact RB.of_below hr hb
 ·exact(bx_new w _ _).below ((Below.refl _ _).alloc (Nat.le_refl _) _) (by simp)
 ·exact bx_new_at _ _ _ _ (by simp)
 ·exact H0.out.keep hb
 ·intros;kernel_rfl
 ·intros;kernel_rfl
 ·intro x y z
  exact⟨rfl,by simp [Value.oneCell']⟩
 ·exact fun _ _ _ _ _ h=>h
 ·intro a pa er wk hd hp' hb'
  exact(show _∧_ from⟨hd,rpost_error hp' hb'⟩)
 ·intro x1 x2 x3 s3 g wk hs hpo hN hg hge
  simp only [World.size_alloc] at hge
  have HS:=Lib.hid hs
  have HN:=Lib.hid hN
  have HG:=Lib.hid hg
  have HPO:=Lib.hid hpo
  have c_b:=hN.box.cell 0 rfl
  have hbl:=hN.box.lt
  clear hs hN hg hpo hb
  go_wp2_with (go_at_call 125;refine stop_here ?_)
  refine go_on ?_
  refine(attrs_field _ _ _ (by rw [cv_list];decide+kernel) [g] (FldT w.heap.size g r) (fieldAct l) r A cap l s3 ⟨x1,x2,x3,0⟩ _ (fun q=>ok q∧q<w.heap.size) ?_ ?_ ?_ ?_ HN.out.rd ?_ ⟨HN.out.box,HG.out⟩).mono ?_
  ·intro q hq
   exact⟨HK.out q hq.1,by simp;omega⟩
  ·intro x W W' hT hB
   exact⟨hT.box.but hB (ne_one (by omega)),hT.fld.but hB (ne_one (by omega))⟩
  ·intro x a n s
   exact keeps_ite (keeps_error _ _) (keeps_bind (keeps_num _ _ _) fun _ _ h=>keeps_ok _ h)
  ·intro a n s W hR hP hT ha hn
   exact field1_any w.heap.size g r A cap l (by omega) (by omega) (by omega) (fun q e h0=>by have:=HA.out q e h0;omega) _ a n s W hR hT ha hn
  ·rw [HPO.out]
   obtain⟨pv,h1,h2⟩:=HP0.out
   exact⟨pv,HN.out.rb.c4.trans h1,(h2.mono fun q hq hk=> ⟨hk,hq⟩).keep (Kept.of_but HN.out.rb.but fun q hq=>ne_one (HK.out q hq.1))⟩
  ·intro e w4 hq
   rw [cv_list] at hq
   rcases hq.cases with⟨pa,er,hp',hb,rfl⟩ | ⟨x4,s4,hp',hb,rfl,ht,hs⟩
   ·exact(show _∧_ from⟨rfl,rpost_error (HS.out.trans hp') (rb_rs HN.out.rb hb (by omega))⟩)
   ·have HP4:=Lib.hid (HS.out.trans hp')
    have X_F:=Lib.hid ht.fld
    have X_n:=Lib.hid (HN.out.res.but hb.but (by simp;omega))
    have HB:=Lib.hid hb
    have HS4:=Lib.hid hs
    have c0:=ht.fld.cell 0 rfl
    have c1:=ht.fld.cell 1 rfl
    have c2:=ht.fld.cell 2 rfl
    have c3:=ht.fld.cell 3 rfl
    clear hp' hb ht hs hq c_b
    have n0:=X_n.out.cell 0 rfl
    have n1:=X_n.out.cell 1 rfl
    have n2:=X_n.out.cell 2 rfl
    have n3:=X_n.out.cell 3 rfl
    have z0:=X_n.out.frozen 0
    have z1:=X_n.out.frozen 1
    have z2:=X_n.out.frozen 2
    have z3:=X_n.out.frozen 3
    go_wp2_with fail
    have hA': ∀a,A=some a→0<l.length→a.block≠w.heap.size+1:=fun a e h0=>by have:=HA.out a e h0;omega
    refine bodyPost_ret (v:=fieldV x4) (results_row rfl rfl ((((X_n.out.set 0 _).set 1 _).set 2 _).set 3 _) rfl rfl (by kernel_rfl)) rfl ?_
    exact rpost_ok HP4.out (((((rb_rs HN.out.rb HB.out (by omega)).set _ (by simp) (by simp;omega) _).set _ (by simp) (by simp;omega) _).set _ (by simp) (by simp;omega) _).set _ (by simp) (by simp;omega) _) rfl
     ((((HS4.out.other _ _ (by simp;omega) hA').other _ _ (by simp;omega) hA').other _ _ (by simp;omega) hA').other _ _ (by simp;omega) hA')
structure CdW (w:World) (r M:Nat) (A:Option Addr) (cap:Nat) (l:List UInt8) (s:Rs) (cs:List Value) (wk:World):Prop where
 rs:RS r [M] w wk
 rd:RdrAt wk r A cap l s
 mb:Bx wk M cs 172
theorem CdW.step {w:World} {r M:Nat} {A:Option Addr} {cap:Nat} {l:List UInt8} {s s':Rs} {cs:List Value} {wk wq:World} (h:CdW w r M A cap l s cs wk) (hM:M≠r) (hq:RB r wk wq) (hs:RdrAt wq r A cap l s'):CdW w r M A cap l s' cs wq:=
 ⟨h.rs.trans (RS.of_rb hq),hs,h.mb.but hq.but (ne_one hM)⟩
theorem CdW.below {w:World} {r M:Nat} {A:Option Addr} {cap:Nat} {l:List UInt8} {s:Rs} {cs:List Value} {wk wq:World} (h:CdW w r M A cap l s cs wk) (hb:Below wk.heap.size wk wq):CdW w r M A cap l s cs wq:=
 ⟨h.rs.trans (RS.of_rb (RB.of_below h.rd.lt hb)),h.rd.keep hb,h.mb.below hb h.mb.lt⟩
theorem CdW.set {w:World} {r M:Nat} {A:Option Addr} {cap:Nat} {l:List UInt8} {s:Rs} {cs:List Value} {wk:World} (h:CdW w r M A cap l s cs wk) (hM:M≠r) (hA: ∀a,A=some a→0<l.length→a.block≠M) (j:Nat) (v:Value):CdW w r M A cap l s (cs.set j v) (wk.setCell ⟨M,j,none⟩ v):=
 ⟨⟨h.rs.but.set ⟨M,j,none⟩ (.inl (by simp)) v,(World.cell?_setCell_other _ _ _ _ (by intro e;injection e with e _;exact hM e)).trans h.rs.c4⟩,h.rd.other _ _ hM hA,h.mb.set j v⟩
theorem rdr_most {w:World} {r:Nat} {A:Option Addr} {cap:Nat} {l:List UInt8} {st:Rs} (h:RdrAt w r A cap l st) (m:Nat) (h1:st.pos≤m) (h2:m≤4611686018427387904):RdrAt (w.setCell ⟨r,2,none⟩ (.int .i64 m)) r A cap l { st with most:=m } where
 c0:=(World.cell?_setCell_other _ _ _ _ (by simp)).trans h.c0
 c1:=(World.cell?_setCell_other _ _ _ _ (by simp)).trans h.c1
 c2:=World.cell?_setCell_same _ _ _ h.c2
 c3:=(World.cell?_setCell_other _ _ _ _ (by simp)).trans h.c3
 fz:=fun o=>by simp [go_sem,h.fz o]
 rd:=h.rd.but ((But.refl w.heap.size [r] w).set ⟨r,2,none⟩ (.inl (by simp)) _) (fun a ha=>by simpa using h.ne a ha)
 ne:=h.ne
 lt:=by simpa using h.lt
 len:=h.len
 pos:=h.pos
 pm:=h1
 most:=h2
theorem rdr_named {w:World} {r:Nat} {A:Option Addr} {cap:Nat} {l:List UInt8} {st:Rs} (h:RdrAt w r A cap l st) (m:Nat):RdrAt (w.setCell ⟨r,3,none⟩ (.int .i64 m)) r A cap l { st with named:=m } where
 c0:=(World.cell?_setCell_other _ _ _ _ (by simp)).trans h.c0
 c1:=(World.cell?_setCell_other _ _ _ _ (by simp)).trans h.c1
 c2:=(World.cell?_setCell_other _ _ _ _ (by simp)).trans h.c2
 c3:=World.cell?_setCell_same _ _ _ h.c3
 fz:=fun o=>by simp [go_sem,h.fz o]
 rd:=h.rd.but ((But.refl w.heap.size [r] w).set ⟨r,3,none⟩ (.inl (by simp)) _) (fun a ha=>by simpa using h.ne a ha)
 ne:=h.ne
 lt:=by simpa using h.lt
 len:=h.len
 pos:=h.pos
 pm:=h.pm
 most:=h.most
theorem CdW.rset {w:World} {r M:Nat} {A:Option Addr} {cap:Nat} {l:List UInt8} {s s':Rs} {cs:List Value} {wk:World} (h:CdW w r M A cap l s cs wk) (hM:M≠r) (j:Nat) (hj:j≠4) (v:Value) (hs:RdrAt (wk.setCell ⟨r,j,none⟩ v) r A cap l s'):CdW w r M A cap l s' cs (wk.setCell ⟨r,j,none⟩ v):=
 ⟨⟨h.rs.but.set ⟨r,j,none⟩ (.inl (by simp)) v,(World.cell?_setCell_other _ _ _ _ (by intro e;injection e with _ e;exact hj e)).trans h.rs.c4⟩,hs,h.mb.set_other _ _ (Ne.symm hM)⟩
structure TrW (B:Nat) (cv:Value) (code:List UInt8) (pv:Value) (ts:List TrapV) (wk:World):Prop where
 hcode:SlAt wk (fun g=>B≤g∧pv.ownBlock≠some g) 1 code.length (code.map bV) cv
 row:wk.ownsRow B 213 4 pv ts.length (ts.flatMap TrapV.cells)
 lo:B≤wk.heap.size
theorem TrW.but {B:Nat} {cv:Value} {code:List UInt8} {pv:Value} {ts:List TrapV} {wk wq:World} {S:List Nat} (h:TrW B cv code pv ts wk) (hb:But wk.heap.size S wk wq) (hS: ∀k∈S,k<B):TrW B cv code pv ts wq:=
 ⟨h.hcode.keep (Kept.of_but hb fun g hg hm=>by have:=hS g hm;omega),own_heap h.row fun q hq=>hb.block q (h.row.lt q hq).2 (fun hm=>by have:=hS q hm;have:=(h.row.lt q hq).1;omega),Nat.le_trans h.lo hb.size⟩
theorem TrW.grown {B:Nat} {cv:Value} {code:List UInt8} {pv:Value} {ts:List TrapV} {wk W':World} {t:TrapV} {n c g:Nat} (h:TrW B cv code pv ts wk) (o:Obj)
  (hr:W'.ownsRow B 213 4 (.slice (some ⟨g,0,none⟩) n c) (ts++ [t]).length ((ts++ [t]).flatMap TrapV.cells)) (hg:(wk.alloc o).grownBy W' pv.ownBlock) (hgg:pv.ownBlock=some g∨g=(wk.alloc o).heap.size):
  TrW B cv code (.slice (some ⟨g,0,none⟩) n c) (ts++ [t]) W':=by
 have hz:=hg.size
 simp only [World.size_alloc] at hz hgg
 have hk:Kept (fun g=>B≤g∧pv.ownBlock≠some g) wk W':=⟨by omega,fun g hgl hok off=>by
  rw [World.cell?_of_block (w:=wk.alloc o) (hg.block g (by simp;omega) (fun e=>hok.2 e.symm)),World.cell?_alloc_lt _ _ _ hgl]⟩
 refine⟨?_,hr,by have:=h.lo;omega⟩
 have h2:=(h.hcode.mono (ok':=fun g=> (B≤g∧pv.ownBlock≠some g)∧g<wk.heap.size) fun g hgl hok=> ⟨hok,hgl⟩)
 refine((h2.keep (hk.mono fun g hg=>hg.1)).mono fun q _ hok=> ⟨hok.1.1,fun e=> ?_⟩)
 have e':g=q:=by simpa [Value.ownBlock] using e
 subst e'
 rcases hgg with hgg|hgg
 ·exact hok.1.2 hgg
 ·have:=hok.2
  omega
theorem info_trap:(Tryz.prog.info? 213).map (fun i=> (i.zero,i.size,i.bytes))=some (some (.agg #[.int .i64 0, .int .i64 0, .int .i64 0, .int .i64 0]),4,32):=by kernel_rfl
theorem rep_trap (l:List UInt8) (ts:List TrapV) (k:Nat) (s:Rs) {β:Type} (K:List TrapV→Rs→Rx β):Rx.bind (Rx.pre ts (repP (trapP l) (k+1) s)) K=
  Rx.bind (numP l 2 s) fun a s1=>Rx.bind (numP l 2 s1) fun b s2=>Rx.bind (numP l 2 s2) fun c s3=>Rx.bind (numP l 2 s3) fun d s4=>Rx.bind (Rx.pre (ts++ [⟨a,b,c,d⟩]) (repP (trapP l) k s4)) K:=by
 unfold Rx.pre
 rw [repP]
 unfold trapP
 simp only [Rx.bind_assoc,Rx.bind_ok,List.append_assoc,List.singleton_append]
 done
set_option maxHeartbeats 2000000
theorem CdW.low {w:World} {r M:Nat} {A:Option Addr} {cap:Nat} {l:List UInt8} {s0 s:Rs} {cs:List Value} {wk wq:World} (h0:RdrAt w r A cap l s0) (hM:M<w.heap.size) (h:CdW w r M A cap l s cs wk) (hb:Below w.heap.size wk wq):CdW w r M A cap l s cs wq:=
 ⟨h.rs.low h0.lt hb,h0.keepB h.rd hb,h.mb.below hb hM⟩
theorem bytes_length {l:List UInt8} {n:Nat} {st s:Rs} {x:List UInt8} (h:bytesP l n st= .ok (x,s)):x.length≤n:=by
 unfold bytesP at h
 split at h
 ·cases h
 ·split at h
  ·cases h
  ·injection h with h
   injection h with h _
   subst h
   simp
   omega
def codeT (l:List UInt8) (x:MethV) (a n:Nat) (st:Rs) (sk lo:Nat) (b:List UInt8) (ts:List TrapV) (s6:Rs):Rx MethV:=Rx.bind (skipP l s6) fun _ s7=>
 if s7.pos≠s7.most then .error (a,25) else .ok ({ x with has:=true,stack:=sk,locals:=lo,code:=b,traps:=ts },{ s7 with most:=4611686018427387904 })
theorem code_any (r M:Nat) (A:Option Addr) (cap:Nat) (l:List UInt8) (hM:M≠r) (hA: ∀a,A=some a→0<l.length→a.block≠M) (x:MethV) (cv0:Value) (a n:Nat) (st:Rs) (w:World) (ok:Nat→Prop) (hok: ∀g,ok g→g≠r∧g≠M)
  (h:RdrAt w r A cap l st) (hp:PlAt w r ok st.pool) (hm:Bx w M (x.cells cv0 (.slice none 0 0)) 172) (ha:a≤65536) (hn:n<4294967296):
  Calls Tryz.prog 136 #[.pointer (some ⟨r,0,none⟩), .pointer (some ⟨M,0,none⟩), .int .i64 a, .int .i64 n] w
   (APost w r [M] A cap l (codeP l x a n st) fun y W=> ∃cv tv,Bx W M (y.cells cv tv) 172∧MethAt W (fun g=>w.heap.size≤g) y cv tv):=by
 have hr:=h.lt
 have hml:=hm.lt
 have hle:=h.len
 have hpo:=h.pos
 have H0:=Lib.hid h
 have HP0:=Lib.hid hp
 have HK:=Lib.hid hok
 have HAM:=Lib.hid hA
 have c1:=h.c1
 have c2:=h.c2
 have c3:=h.c3
 have z2:=h.fz 2
 have z3:=h.fz 3
 have m3:=hm.cell 3 rfl
 have y3:=hm.frozen 3
 have HC1:=((((⟨RS.refl r [M] w,h,hm⟩:CdW w r M A cap l st _ w).rset hM 2 (by decide) _ (rdr_most h (st.pos+n) (by omega) (by omega)))).rset hM 3 (by decide) _ (rdr_named (rdr_most h (st.pos+n) (by omega) (by omega)) a)).set hM hA 3 (.bool true)
 rw [Int.natCast_add] at HC1
 have C1:=Lib.hid HC1
 have HE0:=Lib.hid (show codeP l x a n st=Rx.bind (numP l 2 { st with most:=st.pos+n,named:=a }) _ from rfl)
 have hrw: ¬M=r:=hM
 have hrw': ¬r=M:=Ne.symm hM
 clear h hp hok hA hm HC1
 go_enter Tryz.func136,Tryz.ntmps136
 go_wp2_with (go_at_call 119;refine(number_any r A cap 2 l _ _ C1.out.rd (by omega)).mono ?_;refine stop_here ?_)
 refine go_on ?_
 intro e w1 hq
 rcases hq.cases with⟨pa,er,hp,hb,rfl⟩ | ⟨x1,s1,v,hp,hb,rfl,⟨rfl,hn1⟩,hs⟩
 ·have HP:=Lib.hid (HE0.out.trans (bind_stop hp))
  have HA:=Lib.hid (C1.out.rs.trans (RS.of_rb hb))
  clear hp hb
  go_wp2_with fail
  exact(show _∧_ from⟨rfl,apost_error HP.out HA.out⟩)
 have HE1:=Lib.hid (HE0.out.trans (bind_step hp))
 have HPL1:=Lib.hid ((keeps_num _ _ _ _ _ hp).trans rfl)
 have D1:=Lib.hid (C1.out.step hM hb hs)
 have hz1:=(C1.out.rs.trans (RS.of_rb (S:= [M]) hb)).but.size
 clear hp hb hs hq c1 c2 c3 z2 z3 m3 y3
 go_wp2_with (go_at_call 119;refine(number_any r A cap 2 l _ _ D1.out.rd (by omega)).mono ?_;refine stop_here ?_)
 refine go_on ?_
 intro e w2 hq
 rcases hq.cases with⟨pa,er,hp,hb,rfl⟩ | ⟨x2,s2,v,hp,hb,rfl,⟨rfl,hn2⟩,hs⟩
 ·have HP:=Lib.hid (HE1.out.trans (bind_stop hp))
  have HA:=Lib.hid (D1.out.rs.trans (RS.of_rb hb))
  clear hp hb
  go_wp2_with fail
  exact(show _∧_ from⟨rfl,apost_error HP.out HA.out⟩)
 have HE2:=Lib.hid (HE1.out.trans (bind_step hp))
 have HPL2:=Lib.hid ((keeps_num _ _ _ _ _ hp).trans HPL1.out)
 have D2:=Lib.hid (D1.out.step hM hb hs)
 have hz2:=(D1.out.rs.trans (RS.of_rb (S:= [M]) hb)).but.size
 clear hp hb hs hq
 have m4:=D2.out.mb.cell 4 rfl
 have y4:=D2.out.mb.frozen 4
 have m5:=D2.out.mb.cell 5 rfl
 have y5:=D2.out.mb.frozen 5
 have c1:=D2.out.rd.c1
 have q2:=D2.out.rd.len
 have q3:=D2.out.rd.pos
 have C2:=Lib.hid ((D2.out.set hM HAM.out 4 (.int .i64 x1)).set hM HAM.out 5 (.int .i64 x2))
 go_wp2_with (go_at_call 119;refine(number_any r A cap 4 l _ _ C2.out.rd (by omega)).mono ?_;refine stop_here ?_)
 refine go_on ?_
 intro e w3 hq
 rcases hq.cases with⟨pa,er,hp,hb,rfl⟩ | ⟨x3,s3,v,hp,hb,rfl,⟨rfl,hn3⟩,hs⟩
 ·have HP:=Lib.hid (HE2.out.trans (bind_stop hp))
  have HA:=Lib.hid (C2.out.rs.trans (RS.of_rb hb))
  clear hp hb
  go_wp2_with fail
  exact(show _∧_ from⟨rfl,apost_error HP.out HA.out⟩)
 have HE3:=Lib.hid (HE2.out.trans (bind_step hp))
 have HPL3:=Lib.hid ((keeps_num _ _ _ _ _ hp).trans HPL2.out)
 have D3:=Lib.hid (C2.out.step hM hb hs)
 have hz3:=(C2.out.rs.trans (RS.of_rb (S:= [M]) hb)).but.size
 clear hp hb hs hq m4 y4 m5 y5 c1
 by_cases hbig:4096<x3
 ·have HP:=Lib.hid (HE3.out.trans (if_pos hbig))
  go_wp2_with (go_at_call 120;refine(wrong_any _ _ _ _).mono ?_;rintro e w9 ⟨rfl,rfl⟩)
  exact(show _∧_ from⟨rfl,apost_error HP.out D3.out.rs⟩)
 have HE3:=Lib.hid (HE3.out.trans (if_neg hbig))
 go_wp2_with (go_at_call 133;refine(bytes_any r A cap _ l _ _ D3.out.rd (by omega)).mono ?_;refine stop_here ?_)
 refine go_on ?_
 intro e w4 hq
 rcases hq.cases with⟨pa,er,hp,hb,rfl⟩ | ⟨x4,s4,v,hp,hb,rfl,⟨A',cap',rfl,hrd⟩,hs⟩
 ·have HP:=Lib.hid (HE3.out.trans (bind_stop hp))
  have HA:=Lib.hid (D3.out.rs.trans (RS.of_rb hb))
  clear hp hb
  go_wp2_with fail
  exact(show _∧_ from⟨rfl,apost_error HP.out HA.out⟩)
 have HE4:=Lib.hid (HE3.out.trans (bind_step hp))
 have HPL4:=Lib.hid ((keeps_bytes _ _ _ _ _ hp).trans HPL3.out)
 have D4:=Lib.hid (D3.out.step hM hb hs)
 have hz4:=(D3.out.rs.trans (RS.of_rb (S:= [M]) hb)).but.size
 have HRD:=Lib.hid hrd
 have hxl:x4.length≤4096:=by have:=bytes_length hp;omega
 clear hp hb hs hq hrd
 have m6:=D4.out.mb.cell 6 rfl
 have y6:=D4.out.mb.frozen 6
 go_wp2_with (at_builtin;refine wpl_own rfl _ _ 35 rfl Tryz.underlying35 info_u8 rfl (by omega) w4.heap.size rfl (World.ownsRow_nil _ _ _ _) rfl (by rw [List.length_map,Nat.mul_one]) HRD.out.src (bV_one x4) (by simp only [maxLen];omega) (by omega) (Nat.le_refl _) ?_;intro cv W5 ho hg hb;refine stop_here ?_)
 refine go_on ?_
 have HOC:=Lib.hid (own_eq ho (Nat.zero_add _) (List.nil_append _))
 have D5:=Lib.hid (D4.out.below hb)
 have C5:=Lib.hid ((D4.out.below hb).set hM HAM.out 6 cv)
 have hz5:=hb.size
 have m6':=D5.out.mb.cell 6 rfl
 have y6':=D5.out.mb.frozen 6
 obtain⟨A6,k6,hcv⟩:=own_slice HOC.out
 subst hcv
 clear ho hg hb m6 y6
 go_wp2_with (go_at_call 121;refine(count_any r A cap 64 l _ _ C5.out.rd (by omega)).mono ?_;refine stop_here ?_)
 refine go_on ?_
 intro e w6 hq
 rcases hq.cases with⟨pa,er,hp,hb,rfl⟩ | ⟨x6,s6,v,hp,hb,rfl,⟨rfl,hn6⟩,hs⟩
 ·have HP:=Lib.hid (HE4.out.trans (bind_stop hp))
  have HA:=Lib.hid (C5.out.rs.trans (RS.of_rb hb))
  clear hp hb
  go_wp2_with fail
  exact(show _∧_ from⟨rfl,apost_error HP.out HA.out⟩)
 have HE6:=Lib.hid (HE4.out.trans (bind_step hp))
 have HPL6:=Lib.hid ((keeps_count _ _ _ _ _ hp).trans HPL4.out)
 have D6:=Lib.hid (C5.out.step hM hb hs)
 have hz6:=(C5.out.rs.trans (RS.of_rb (S:= [M]) hb)).but.size
 have HTR:=Lib.hid (show TrW w.heap.size (.slice A6 x4.length k6) x4 (.slice none 0 0) [] w6 from(⟨(slAt_own HOC.out (fun g=>w.heap.size≤g∧(Value.slice none 0 0).ownBlock≠some g) (by omega) (by omega) (fun q hq=> ⟨by have:=(HOC.out.lt q hq).1;omega,by simp [Value.ownBlock]⟩)).keep (Kept.trans (Kept.of_but ((But.refl _ [M] W5).set ⟨M,6,none⟩ (.inl (by simp)) _) (fun g hg hm=>by simp at hm;omega)) (Kept.of_but hb.but (fun g hg hm=>by simp at hm;omega))),World.ownsRow_nil _ _ _ _,by omega⟩))
 clear hp hb hs hq m6' y6' HOC
 have HT0:=Lib.hid (show codeP l x a n st=Rx.bind (Rx.pre [] (repP (trapP l) (x6 - 0) s6)) (codeT l x a n st x1 x2 x4) by rw [Rx.pre_nil];exact HE6.out)
 have hB6:=D6.out.rs.but.size
 go_wp2_with fail
 go_loopw [58] (fun i wr=> ∃(k:Nat) (sr:Rs) (ts:List TrapV) (pv:Value),k≤x6∧i= .int .i64 k∧ts.length=k∧Hid (CdW w r M A cap l sr [.int .i64 x.acc, .int .i64 x.name, .int .i64 x.desc, .bool true, .int .i64 x1, .int .i64 x2, .slice A6 x4.length k6,pv] wr)∧Hid (TrW w.heap.size (.slice A6 x4.length k6) x4 pv ts wr)∧Hid (sr.pool=st.pool)∧Hid (codeP l x a n st=Rx.bind (Rx.pre ts (repP (trapP l) (x6 - k) sr)) (codeT l x a n st x1 x2 x4))) (fun i _=>x6 - (RowKit.intOf i).toNat)
 case atStart=>exact⟨0,s6, [], .slice none 0 0,by omega,rfl,rfl,D6,HTR,HPL6,HT0⟩
 case round=>
  obtain⟨wr1,hwr⟩: ∃W,W=wr:=⟨_,rfl⟩
  subst hwr
  obtain⟨k,sr,ts,pv,hk,rfl,hkl,HCr,HTr,HPr,HEr⟩:=hrel
  have HKL:=Lib.hid hkl
  clear hkl
  have hBr:=HCr.out.rs.but.size
  by_cases hlt:k<x6
  ·have HMK:=Lib.hid (show x6 - k=(x6 - (k+1))+1 by omega)
   have HEc:=Lib.hid (show codeP l x a n st=_ by rw [HEr.out,HMK.out,rep_trap])
   have HCc:=Lib.hid (HCr.out.below ((Below.refl _ _).drew))
   have HTc:=Lib.hid (HTr.out.but (But.of_below (S:= []) ((Below.refl _ _).drew)) (by simp))
   have HPc:=HPr
   have m7:=HCr.out.mb.cell 7 rfl
   have y7:=HCr.out.mb.frozen 7
   have hgc:w.heap.size≤wr1.heap.size:=hBr
   clear HEr
   go_wp2_with fail
   go_region_law (first
 | (go_simp;go_at_call 119;go_loud (
    refine(number_any r A cap 2 l _ _ HCc.out.rd (by omega)).mono ?_
    intro e wq hq
    rcases hq.cases with⟨pa,er,hp,hb5,rfl⟩ | ⟨xq,sq,v,hp,hb5,rfl,⟨rfl,hnq⟩,hs⟩
    (have HP:=Lib.hid (HEc.out.trans (bind_stop hp));have HA:=Lib.hid (HCc.out.rs.trans (RS.of_rb hb5));clear hp hb5;exact(show _∧_ from⟨rfl,apost_error HP.out HA.out⟩))
    have HE':=Lib.hid (HEc.out.trans (bind_step hp))
    have HP':=Lib.hid ((keeps_num _ _ _ _ _ hp).trans HPc.out)
    have HC':=Lib.hid (HCc.out.step hM hb5 hs)
    have HT':=Lib.hid (HTc.out.but hb5.but (by simp;omega))
    have hgd:=HC'.out.rs.but.size
    clear HEc HPc HCc HTc
    have HEc:=HE'
    have HPc:=HP'
    have HCc:=HC'
    have HTc:=HT'
    have m7:=HCc.out.mb.cell 7 rfl
    have nq:=HCc.out.mb.lt
    clear HE' HP' HC' HT' hp hb5 hs hq))
 | (
    refine step_lies rfl (.tmp 64) (.tmp 74) 170 rfl Tryz.underlying170 info_trap rfl (by omega) w.heap.size rfl (HTc.out.row.alloc _) rfl rfl (cells_new _ _ _) (by simp [Value.oneCell']) (by omega) (by have:=HKL.out;simp only [maxLen];omega) (by have:=HKL.out;omega) (by simp;omega) ?_
    intro g6 cap6 W' ho hg hb hgg
    have HC6:=Lib.hid (CdW.low H0.out hml HCc.out (((Below.refl w.heap.size _).alloc (by omega) _).trans hb))
    have HT6:=Lib.hid (HTc.out.grown (t:=⟨_,_,_,_⟩) _ (own_eq ho (by simp) (by simp [TrapV.cells];exact⟨rfl,rfl,rfl,rfl⟩)) hg hgg)
    have m7:=HC6.out.mb.cell 7 rfl
    have y7:=HC6.out.mb.frozen 7
    have hz6:=hb.size
    clear ho hg hb hgg))
   all_goals go_wp2_with fail
   all_goals
    go_roundw
    case rel=>exact⟨k+1,_,_,_,by omega,by go_num,by simp [HKL.out],Lib.hid (HC6.out.set hM HAM.out 7 _),Lib.hid (HT6.out.but ((But.refl _ [M] _).set ⟨M,7,none⟩ (.inl (by simp)) _) (by simp;omega)),HPc,HEc⟩
    case measure=>simp [RowKit.intOf];omega
  ·obtain rfl:k=x6:=by omega
   have HEx:=Lib.hid ((HEr.out.trans (congrArg (fun z=>Rx.bind z (codeT l x a n st x1 x2 x4)) (show _=Except.ok (ts,sr) by rw [Nat.sub_self];exact repP_end))).trans (Rx.bind_ok _ _ _))
   have HPP:=Lib.hid (show PlAt wr1 r ok sr.pool by rw [HPr.out];exact HP0.out.rs HCr.out.rs (fun g hg=> ⟨(HK.out g hg).1,by simpa using (HK.out g hg).2⟩))
   clear hlt HEr
   go_wp2_with (go_at_call 125;refine(skip_any r A cap l _ _ ok (fun g hg=> (HK.out g hg).1) HCr.out.rd HPP.out).mono ?_;refine stop_here ?_)
   refine go_on ?_
   intro e w7 hq
   rcases hq.cases with⟨pa,er,hp,hb,rfl⟩ | ⟨x7,s7,v,hp,hb,rfl,rfl,hs⟩
   ·have HP:=Lib.hid (HEx.out.trans (bind_stop hp))
    have HA:=Lib.hid (HCr.out.rs.trans (RS.of_rb hb))
    clear hp hb
    go_wp2_with fail
    exact(show _∧_ from⟨rfl,apost_error HP.out HA.out⟩)
   have HE7:=Lib.hid (HEx.out.trans (bind_step hp))
   have D7:=Lib.hid (HCr.out.step hM hb hs)
   have T7:=Lib.hid (HTr.out.but hb.but (by simp;omega))
   clear hp hb hs hq
   have c1:=D7.out.rd.c1
   have c2:=D7.out.rd.c2
   have z2:=D7.out.rd.fz 2
   have q7:=D7.out.rd.pos
   by_cases hend:s7.pos=s7.most
   ·have HP:=Lib.hid (HE7.out.trans (if_neg (fun h=>h hend)))
    have hb7:((s7.pos:Int) !=s7.most)=false:=by simp [hend]
    have W7:=Lib.hid (fun k=> (D7.out.below (below_drewN (Below.refl _ _) k)).rset hM 2 (by decide) _ (rdr_most (D7.out.rd.keep (below_drewN (Below.refl _ _) k)) 4611686018427387904 (by omega) (Nat.le_refl _)))
    have V7:=Lib.hid (fun k=> (T7.out.but (But.of_below (S:= []) (below_drewN (Below.refl _ _) k)) (by simp)).but ((But.refl _ [r] _).set ⟨r,2,none⟩ (.inl (by simp)) (.int .i64 4611686018427387904)) (by simp;omega))
    clear hend
    go_wp2_with fail
    go_quiet (fail)
    go_wp2_with fail
    go_end0
    refine apost_ok HP.out (W7.out _).rs ⟨_,_,(W7.out _).mb,(V7.out _).hcode.mono fun g _ hg=>hg.1,slAt_own (V7.out _).row _ (by omega) (show ts.length≤1048576 by have:=HKL.out;omega) ?_⟩ (W7.out _).rd
    intro q hq
    exact((V7.out 0).row.lt q hq).1
   ·have HP:=Lib.hid (HE7.out.trans (if_pos hend))
    have hb7:((s7.pos:Int) !=s7.most)=true:=by simp;omega
    clear hend
    go_wp2_with fail
    go_quiet (fail)
    go_wp2_with (go_at_call 120;refine(wrong_any _ _ _ _).mono ?_;rintro e w9 ⟨rfl,rfl⟩)
    exact(show _∧_ from⟨rfl,apost_error HP.out (D7.out.below (below_drewN (Below.refl _ _) _)).rs⟩)
end Go.Proofs.YtpbnjakeielipaaGreatDoor
