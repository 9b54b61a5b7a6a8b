/- Part 5 of what the laws rest on: walks. Conditions: those that each theorem names. -/
import Derived.Test.YtdbniocnjhfhdaaGreatDoorB04
set_option linter.unusedSimpArgs false
set_option linter.unusedVariables false
set_option maxRecDepth 100000
set_option maxHeartbeats 1000000
namespace Go.Proofs.YtdbniocnjhfhdaaGreatDoor
open Go Go.RowKit Lib
def nqQ {α:Type} (l:List UInt8) (K:Nat→Nat→Nat→Rs→Rx α) (x1 x2 x3:Nat) (st:Rs):Nat→Rx α
 |0=>Rx.bind (aqS l 2 st) fun a s1=>Rx.bind (aqS l 2 s1) fun n s2=>Rx.bind (aqS l 2 s2) fun d s3=>K a n d s3
 |1=>Rx.bind (aqS l 2 st) fun n s2=>Rx.bind (aqS l 2 s2) fun d s3=>K x1 n d s3
 |2=>Rx.bind (aqS l 2 st) fun d s3=>K x1 x2 d s3
 |_=>K x1 x2 x3 st
structure jq3 (T:TypeId) (zs:List Value) (w:World) (r b nr:Nat) (A:Option Addr) (cap:Nat) (l:List UInt8) (s:Rs) (wk:World):Prop where
 rb:RB r w wk
 box:Bx wk b [.pointer (some ⟨r,0,none⟩)] 173
 res:Bx wk nr zs T
 rd:aq2 wk r A cap l s
theorem jq3.step {T:TypeId} {zs:List Value} {w:World} {r b nr:Nat} {A:Option Addr} {cap:Nat} {l:List UInt8} {s s':Rs} {wk wq:World} (h:jq3 T zs w r b nr A cap l s wk) (hb:b≠r) (hn:nr≠r) (hq:RB r wk wq) (hs:aq2 wq r A cap l s'):jq3 T zs w r b nr A cap l s' wq:=
 ⟨⟨h.rb.but.trans (hq.but.mono h.rb.but.size fun _ _ h=>h),hq.c4.trans h.rb.c4⟩,h.box.but hq.but (aqk hb),h.res.but hq.but (aqk hn),hs⟩
theorem jq3.below {T:TypeId} {zs:List Value} {w:World} {r b nr:Nat} {A:Option Addr} {cap:Nat} {l:List UInt8} {s:Rs} {wk wq:World} (h:jq3 T zs w r b nr A cap l s wk) (hr:r<w.heap.size) (hb:Below wk.heap.size wk wq):jq3 T zs w r b nr A cap l s wq:=
 ⟨dqd h.rb hr (hb.mono h.rb.but.size),h.box.below hb h.box.lt,h.res.below hb h.res.lt,h.rd.keep hb⟩
theorem jq3.other {T:TypeId} {zs:List Value} {w:World} {r b nr g:Nat} {A:Option Addr} {cap:Nat} {l:List UInt8} {s:Rs} {wk:World} (h:jq3 T zs w r b nr A cap l s wk) (cs:Array Value) (hr:g≠r) (hb:g≠b) (hn:g≠nr) (hg:w.heap.size≤g) (hA: ∀a,A=some a→0<l.length→a.block≠g):jq3 T zs w r b nr A cap l s (wk.setRow g cs):=by
 have hbt:But wk.heap.size [g] wk (wk.setRow g cs):=⟨rfl,rfl,rfl,by simp,fun k _ hs=>setRow_other wk g k cs (by simpa using hs)⟩
 have hc: ∀o,(wk.setRow g cs).cell? ⟨r,o,none⟩=wk.cell? ⟨r,o,none⟩:=fun o=>cell_setRow_other wk g cs _ (Ne.symm hr)
 refine⟨⟨⟨h.rb.but.os,h.rb.but.tape,h.rb.but.output,by simpa using h.rb.but.size,fun k hk hs=> (setRow_other wk g k cs Om).trans (h.rb.but.block k hk hs)⟩,(hc 4).trans h.rb.c4⟩,
  h.box.but hbt (aqk (Ne.symm hb)),h.res.but hbt (aqk (Ne.symm hn)), ?_⟩
 exact⟨(hc 0).trans h.rd.c0,(hc 1).trans h.rd.c1,(hc 2).trans h.rd.c2,(hc 3).trans h.rd.c3,
  fun o=> (World.frozen?_of_block (w:=wk) (setRow_other wk g r cs (Ne.symm hr))).trans (h.rd.fz o),
  ⟨h.rd.rd.hlen,h.rd.rd.hle,h.rd.rd.hmax,fun h0=>by
   obtain⟨k,off,e,hlt,hc⟩:=h.rd.rd.hat h0
   exact⟨k,off,e,by simpa using hlt,fun i hi=> (cell_setRow_other wk g cs ⟨k,off+i,none⟩ (hA ⟨k,off,none⟩ e h0)).trans (hc i hi)⟩⟩,
  h.rd.ne,by simpa using h.rd.lt,h.rd.len,h.rd.pos,h.rd.pm,h.rd.most⟩
theorem bqt {c:Bool} {p q:Prop} (h:c=true) (hp:p):if c=true then p else q:=by rw [if_pos h];exact hp
theorem RB.trans {r:Nat} {a b c:World} (h:RB r a b) (k:RB r b c):RB r a c:=⟨h.but.trans (k.but.mono h.but.size fun _ _ h=>h),k.c4.trans h.c4⟩
theorem fqb {α:Type} (T:TypeId) (pos:String) (zs:List Value) (mk:Nat→Nat→Nat→List Value) (r b nr:Nat) (A:Option Addr) (cap:Nat) (l:List UInt8) (st:Rs) (w W0:World) (p:Rx α) (K:Nat→Nat→Nat→Rs→Rx α)
  (hbr:b≠r) (hnr:nr≠r) (hbw:w.heap.size≤b) (hnw:w.heap.size≤nr) (hrw:r<w.heap.size) (hAw: ∀a,A=some a→0<l.length→a.block<w.heap.size) (h0:jq3 T zs w r b nr A cap l st W0) (hp:p=nqQ l K 0 0 0 st 0)
  (hal: ∀(a:Act) (wk:World),(execOp a.eval { dst:=some 3,op:=Op.alloc T,type:=0,pos:=pos,after:= #[],guard:=none }).run Tryz.prog wk= .ok (.value (.pointer (some ⟨wk.heap.size,0,none⟩))) (wk.alloc (.cells zs.toArray T)))
  (hbu: ∀(v3 v10:Value) (wk:World) (x y z:Nat),(execOp (Act.eval { tmps:= #[.pointer (some ⟨r,0,none⟩), .pointer (some ⟨b,0,none⟩), .pointer (some ⟨nr,0,none⟩),v3, .pointer (some ⟨r,0,none⟩), .int .i64 x, .pointer (some ⟨r,0,none⟩), .int .i64 y, .pointer (some ⟨r,0,none⟩), .int .i64 z,v10,undef,undef,undef,undef],defers:= [] }) { dst:=some 10,op:=Op.build T #[(0,Operand.tmp 5),(1,Operand.tmp 7),(2,Operand.tmp 9)],type:=T,pos:=pos,after:= #[{ on:=1,ground:=Ground.data },{ on:=3,ground:=Ground.data },{ on:=5,ground:=Ground.data }],guard:=none }).run Tryz.prog wk= .ok (.value (.agg (mk x y z).toArray)) wk)
  (hmk: ∀x y z,(mk x y z).length=zs.length∧ ∀v∈(mk x y z),v.oneCell'=true) (d:TypeDesc) (hu:Tryz.prog.underlying T=some d) (hd:(match d with| .struct _| .array _ _=>true|_=>false)=true) (hinf:(Tryz.prog.info? T).map (·.size)=some zs.length)
  (Q:Exit→Act→World→Prop) (hQ: ∀c a (k:Nat) v w,Q (.panic c) (a.put (some k) v) w→Q (.panic c) a w)
  (hpan: ∀(a:Act) pa er wk,a.defers= []→p= .error (pa,er)→RB r w wk→Q (.panic [{ v:=dqb pa er,recovered:=false }]) a wk)
  (hfin: ∀(x1 x2 x3:Nat) (s3:Rs) (g:Nat) (wk:World),p=K x1 x2 x3 s3→s3.pool=st.pool→jq3 T zs w r b nr A cap l s3 wk→Bx wk g (mk x1 x2 x3) T→W0.heap.size≤g→
   Q .normal { tmps:= #[.pointer (some ⟨r,0,none⟩), .pointer (some ⟨b,0,none⟩), .pointer (some ⟨nr,0,none⟩), .pointer (some ⟨g,0,none⟩), .pointer (some ⟨r,0,none⟩), .int .i64 x1, .pointer (some ⟨r,0,none⟩), .int .i64 x2, .pointer (some ⟨r,0,none⟩), .int .i64 x3, .agg (mk x1 x2 x3).toArray,undef,undef,undef,undef],defers:= [] } wk):
  Code.wp Tryz.prog (Code.region 1 #[
   { dst:=some 4,op:=Op.load 173 (Operand.tmp 1),type:=173,pos:=pos,after:= #[],guard:=none },
   { dst:=some 5,op:=Op.call { callee:=Callee.value (Operand.func 117),args:= #[Operand.tmp 4,Operand.const (Value.int IntKind.i64 2)],argTypes:= #[173,3] },type:=3,pos:=pos,after:= #[{ on:=0,ground:=Ground.data }],guard:=none },
   { dst:=some 6,op:=Op.load 173 (Operand.tmp 1),type:=173,pos:=pos,after:= #[],guard:=none },
   { dst:=some 7,op:=Op.call { callee:=Callee.value (Operand.func 117),args:= #[Operand.tmp 6,Operand.const (Value.int IntKind.i64 2)],argTypes:= #[173,3] },type:=3,pos:=pos,after:= #[{ on:=2,ground:=Ground.data },{ on:=1,ground:=Ground.chain }],guard:=none },
   { dst:=some 8,op:=Op.load 173 (Operand.tmp 1),type:=173,pos:=pos,after:= #[],guard:=none },
   { dst:=some 9,op:=Op.call { callee:=Callee.value (Operand.func 117),args:= #[Operand.tmp 8,Operand.const (Value.int IntKind.i64 2)],argTypes:= #[173,3] },type:=3,pos:=pos,after:= #[{ on:=4,ground:=Ground.data },{ on:=3,ground:=Ground.chain }],guard:=none },
   { dst:=some 10,op:=Op.build T #[(0,Operand.tmp 5),(1,Operand.tmp 7),(2,Operand.tmp 9)],type:=T,pos:=pos,after:= #[{ on:=1,ground:=Ground.data },{ on:=3,ground:=Ground.data },{ on:=5,ground:=Ground.data }],guard:=none },
   { dst:=some 3,op:=Op.alloc T,type:=0,pos:=pos,after:= #[],guard:=none },
   { dst:=none,op:=Op.store T (Operand.tmp 3) (Operand.tmp 10),type:=0,pos:=pos,after:= #[{ on:=7,ground:=Ground.data },{ on:=6,ground:=Ground.data },{ on:=5,ground:=Ground.chain },{ on:=0,ground:=Ground.phase },{ on:=1,ground:=Ground.phase },{ on:=2,ground:=Ground.phase },{ on:=3,ground:=Ground.phase },{ on:=4,ground:=Ground.phase },{ on:=5,ground:=Ground.phase },{ on:=6,ground:=Ground.phase },{ on:=7,ground:=Ground.phase }],guard:=none }] true)
   Q { tmps:= #[.pointer (some ⟨r,0,none⟩), .pointer (some ⟨b,0,none⟩), .pointer (some ⟨nr,0,none⟩),undef,undef,undef,undef,undef,undef,undef,undef,undef,undef,undef,undef],defers:= [] } W0:=by
 have hS0:W0.drew.cell? ⟨b,0,none⟩=some (.pointer (some ⟨r,0,none⟩)):=h0.box.cell 0 rfl
 have hz0:W0.drew.heap.size=W0.heap.size:=rfl
 have H0:jq3 T zs w r b nr A cap l st W0.drew:=h0.below hrw ⟨rfl,rfl,rfl,Nat.le_refl _,fun _ _=>rfl⟩
 refine wp_region_held_drew (S:=fun w'=>w'.cell? ⟨b,0,none⟩=some (.pointer (some ⟨r,0,none⟩))) rfl hS0 (fun _=> ?_)
 generalize W0.drew=W1 at*
 refine wpAnyH_take (i:=0) (oi:={ dst:=some 4,op:=Op.load 173 (Operand.tmp 1),type:=173,pos:=pos,after:= #[],guard:=none }) (v:= .pointer (some ⟨r,0,none⟩)) rfl Kq9 Kq9 Kq9 (fun _ _ _ h=>hQ _ _ _ _ _ h) (Or.inl ⟨by rfl, ?_⟩) hS0 ?_
 ·intro w' hw'
  go_simp
 refine wpAnyH_take (i:=2) (oi:={ dst:=some 6,op:=Op.load 173 (Operand.tmp 1),type:=173,pos:=pos,after:= #[],guard:=none }) (v:= .pointer (some ⟨r,0,none⟩)) rfl Kq9 Kq9 Kq9 (fun _ _ _ h=>hQ _ _ _ _ _ h) (Or.inl ⟨by rfl, ?_⟩) hS0 ?_
 ·intro w' hw'
  go_simp
 refine wpAnyH_take (i:=4) (oi:={ dst:=some 8,op:=Op.load 173 (Operand.tmp 1),type:=173,pos:=pos,after:= #[],guard:=none }) (v:= .pointer (some ⟨r,0,none⟩)) rfl Kq9 Kq9 Kq9 (fun _ _ _ h=>hQ _ _ _ _ _ h) (Or.inl ⟨by rfl, ?_⟩) hS0 ?_
 ·intro w' hw'
  go_simp
 simp only [Act.put,List.setIfInBounds_toArray,List.set_cons_zero,List.set_cons_succ]
 have hbl:=H0.box.lt
 have hnl:=H0.res.lt
 have hw1:w.heap.size≤W1.heap.size:=by omega
 refine kqZ (L':=fqz (0,false)) Kq9 ?_
 refine eqC fqz (fun s a wk=>s.1≤5∧(s.1=5→s.2=true)∧ ∃(v3 v5 v7 v9 v10:Value) (x1 x2 x3:Nat) (s':Rs),a={ tmps:= #[.pointer (some ⟨r,0,none⟩), .pointer (some ⟨b,0,none⟩), .pointer (some ⟨nr,0,none⟩),v3, .pointer (some ⟨r,0,none⟩),v5, .pointer (some ⟨r,0,none⟩),v7, .pointer (some ⟨r,0,none⟩),v9,v10,undef,undef,undef,undef],defers:= [] }∧
   jq3 T zs w r b nr A cap l s' wk∧s'.pool=st.pool∧W1.heap.size≤wk.heap.size∧p=nqQ l K x1 x2 x3 s' s.1∧(s.2=true→ ∃g,v3= .pointer (some ⟨g,0,none⟩)∧W1.heap.size≤g∧Bx wk g (if s.1=5 then mk x1 x2 x3 else zs) T)∧
   (1≤s.1→v5= .int .i64 x1)∧(2≤s.1→v7= .int .i64 x2)∧(3≤s.1→v9= .int .i64 x3)∧(4≤s.1→v10= .agg (mk x1 x2 x3).toArray)) hqj kqX ?_ ?_ ?_ 6 (0,false) _ _ rfl ?_
 ·rintro⟨k,al⟩ a wk ⟨h1,h2,_⟩
  rcases fqA h1 h2 with h|h|h|h|h|h|h|h|h|h|h<;>rw [h] <;>kernel_rfl
 ·rintro⟨k,al⟩ a wk ⟨h1,h2,v3,v5,v7,v9,v10,x1,x2,x3,s',rfl,hN,hpo,hz,hpp,hg,e5,e7,e9,e10⟩ h0
  obtain⟨rfl,rfl⟩:k=5∧al=true:=by
   rcases fqA h1 h2 with h|h|h|h|h|h|h|h|h|h|h<;>injection h with h3 h4<;>subst h3<;>subst h4<;>first|exact⟨rfl,rfl⟩ | (exfalso;revert h0;decide)
  obtain⟨g,rfl,hgl,hbx⟩:=hg rfl
  obtain rfl:=e5 Om
  obtain rfl:=e7 Om
  obtain rfl:=e9 Om
  obtain rfl:=e10 Om
  exact hfin x1 x2 x3 s' g wk hpp hpo hN hbx Om
 ·rintro⟨k,al⟩ a wk ⟨h1,h2,v3,v5,v7,v9,v10,x1,x2,x3,s',rfl,hN,hpo,hz,hpp,hg,e5,e7,e9,e10⟩ i hi
  have hb0:=hN.box.cell 0 rfl
  have hlt:=hN.box.lt
  have hrd:=hN.rd
  rcases kqY hi with⟨rfl,hk⟩ | ⟨rfl,hk⟩ | ⟨rfl,hk⟩ | ⟨rfl,hk⟩ | ⟨rfl,hk,ha⟩ | ⟨rfl,ha⟩
  ·simp only at hk
   subst hk
   obtain⟨q1,q2⟩:=dqe (b:=al) 1 (.inl ⟨rfl,rfl⟩)
   refine⟨(1,al),q1,q2, ?_⟩
   have HN:=Hq hN
   have HPP:=Hq hpp
   have HG:=Hq hg
   have E0:=Hq e5
   have E1:=Hq e7
   have E2:=Hq e9
   clear hN hpp hg e5 e7 e9 e10 q1 q2 hrd hi h1 h2
   refine wpOp_step rfl (fun K' hK=> ?_)
   go_wp2_with (go_at_call 117;refine aqa ?_)
   refine aqb ?_
   refine(dq8 r A cap 2 l s' _ HN.out.rd Om).mono ?_
   intro e wq hq
   rcases hq.cases with⟨pa,er,hp',hb,rfl⟩ | ⟨xq,sq,v,hp',hb,rfl,⟨⟨rfl,hnq⟩,hsz⟩,hs⟩
   ·exact hpan _ _ _ _ rfl (HPP.out.trans (aqg hp')) (HN.out.rb.trans hb)
   have hN':=HN.out.step hbr hnr hb hs
   exact hK _ _ ⟨hN'.box.cell 0 rfl,by omega,by simp,v3,(.int .i64 xq),v7,v9,v10,xq,x2,x3,sq,rfl,hN',(aqv _ _ _ _ _ hp').trans hpo,by omega,HPP.out.trans (aqi hp'),fun h=> (by obtain⟨g,h1,h2,h3⟩:=HG.out h;exact⟨g,h1,h2,h3.but hb.but (aqk Om)⟩),fun _=>rfl,fun h=>absurd h Sp,fun h=>absurd h Sp,fun h=>absurd h Sp⟩
  ·simp only at hk
   subst hk
   obtain⟨q1,q2⟩:=dqe (b:=al) 3 (.inr (.inl ⟨rfl,rfl⟩))
   refine⟨(2,al),q1,q2, ?_⟩
   have HN:=Hq hN
   have HPP:=Hq hpp
   have HG:=Hq hg
   have E0:=Hq e5
   have E1:=Hq e7
   have E2:=Hq e9
   clear hN hpp hg e5 e7 e9 e10 q1 q2 hrd hi h1 h2
   refine wpOp_step rfl (fun K' hK=> ?_)
   go_wp2_with (go_at_call 117;refine aqa ?_)
   refine aqb ?_
   refine(dq8 r A cap 2 l s' _ HN.out.rd Om).mono ?_
   intro e wq hq
   rcases hq.cases with⟨pa,er,hp',hb,rfl⟩ | ⟨xq,sq,v,hp',hb,rfl,⟨⟨rfl,hnq⟩,hsz⟩,hs⟩
   ·exact hpan _ _ _ _ rfl (HPP.out.trans (aqg hp')) (HN.out.rb.trans hb)
   have hN':=HN.out.step hbr hnr hb hs
   exact hK _ _ ⟨hN'.box.cell 0 rfl,by omega,by simp,v3,v5,(.int .i64 xq),v9,v10,x1,xq,x3,sq,rfl,hN',(aqv _ _ _ _ _ hp').trans hpo,by omega,HPP.out.trans (aqi hp'),fun h=> (by obtain⟨g,h1,h2,h3⟩:=HG.out h;exact⟨g,h1,h2,h3.but hb.but (aqk Om)⟩),fun _=>E0.out Om,fun _=>rfl,fun h=>absurd h Sp,fun h=>absurd h Sp⟩
  ·simp only at hk
   subst hk
   obtain⟨q1,q2⟩:=dqe (b:=al) 5 (.inr (.inr (.inl ⟨rfl,rfl⟩)))
   refine⟨(3,al),q1,q2, ?_⟩
   have HN:=Hq hN
   have HPP:=Hq hpp
   have HG:=Hq hg
   have E0:=Hq e5
   have E1:=Hq e7
   have E2:=Hq e9
   clear hN hpp hg e5 e7 e9 e10 q1 q2 hrd hi h1 h2
   refine wpOp_step rfl (fun K' hK=> ?_)
   go_wp2_with (go_at_call 117;refine aqa ?_)
   refine aqb ?_
   refine(dq8 r A cap 2 l s' _ HN.out.rd Om).mono ?_
   intro e wq hq
   rcases hq.cases with⟨pa,er,hp',hb,rfl⟩ | ⟨xq,sq,v,hp',hb,rfl,⟨⟨rfl,hnq⟩,hsz⟩,hs⟩
   ·exact hpan _ _ _ _ rfl (HPP.out.trans (aqg hp')) (HN.out.rb.trans hb)
   have hN':=HN.out.step hbr hnr hb hs
   exact hK _ _ ⟨hN'.box.cell 0 rfl,by omega,by simp,v3,v5,v7,(.int .i64 xq),v10,x1,x2,xq,sq,rfl,hN',(aqv _ _ _ _ _ hp').trans hpo,by omega,HPP.out.trans (aqi hp'),fun h=> (by obtain⟨g,h1,h2,h3⟩:=HG.out h;exact⟨g,h1,h2,h3.but hb.but (aqk Om)⟩),fun _=>E0.out Om,fun _=>E1.out Om,fun _=>rfl,fun h=>absurd h Sp⟩
  ·simp only at hk
   subst hk
   obtain⟨q1,q2⟩:=dqe (b:=al) 6 (.inr (.inr (.inr (.inl ⟨rfl,rfl⟩))))
   refine⟨(4,al),q1,q2, ?_⟩
   obtain rfl:=e5 Om
   obtain rfl:=e7 Om
   obtain rfl:=e9 Om
   refine wpOp_step (o:={ dst:=some 10,op:=Op.build T #[(0,Operand.tmp 5),(1,Operand.tmp 7),(2,Operand.tmp 9)],type:=T,pos:=pos,after:= #[{ on:=1,ground:=Ground.data },{ on:=3,ground:=Ground.data },{ on:=5,ground:=Ground.data }],guard:=none }) rfl (fun K' hK=> ?_)
   refine bqt rfl ?_
   unfold Oper.wp
   rw [hbu v3 v10 wk x1 x2 x3,Oper.upon_value]
   exact hK _ _ ⟨hb0,by omega,by simp,v3,_,_,_,_,x1,x2,x3,s',rfl,hN,hpo,hz,hpp,fun h=>by obtain⟨g,h1,h2,h3⟩:=hg h;exact⟨g,h1,h2,h3⟩,fun _=>rfl,fun _=>rfl,fun _=>rfl,fun _=>rfl⟩
  ·simp only at hk ha
   subst hk
   subst ha
   obtain⟨q1,q2⟩:=dqe (b:=true) 8 (.inr (.inr (.inr (.inr ⟨rfl,rfl⟩))))
   refine⟨(5,true),q1,q2, ?_⟩
   obtain⟨g,rfl,hgl,hbx⟩:=hg rfl
   obtain rfl:=e10 Om
   refine wpOp_step (o:={ dst:=none,op:=Op.store T (Operand.tmp 3) (Operand.tmp 10),type:=0,pos:=pos,after:= #[{ on:=7,ground:=Ground.data },{ on:=6,ground:=Ground.data },{ on:=5,ground:=Ground.chain },{ on:=0,ground:=Ground.phase },{ on:=1,ground:=Ground.phase },{ on:=2,ground:=Ground.phase },{ on:=3,ground:=Ground.phase },{ on:=4,ground:=Ground.phase },{ on:=5,ground:=Ground.phase },{ on:=6,ground:=Ground.phase },{ on:=7,ground:=Ground.phase }],guard:=none }) rfl (fun K' hK=> ?_)
   refine bqt rfl ?_
   have hbx':wk.heap[g]?=some (.cells zs.toArray T (0,0)):=hbx
   refine wp_store_row T _ _ rfl g (mk x1 x2 x3).toArray rfl rfl T zs.toArray hbx' (by simpa [hmk] using hinf) (by simp [hmk]) (by simpa using (hmk x1 x2 x3).2) ?_
   exact hK _ _ ⟨(cell_setRow_other wk g _ ⟨b,0,none⟩ Sd).trans hb0,by omega,by simp,_,v5,v7,v9,_,x1,x2,x3,s',rfl,hN.other _ Om Om Om Om (fun a e h0=>by have:=hAw a e h0;omega),hpo,by simpa using hz,hpp,fun _=> ⟨g,rfl,hgl,hbx.row _⟩,fun _=>e5 Om,fun _=>e7 Om,fun _=>e9 Om,fun _=>rfl⟩
  simp only at ha
  subst ha
  obtain⟨q1,q2⟩:=jq2 (k:=k)
  refine⟨(k,true),q1,q2, ?_⟩
  refine wpOp_step (o:={ dst:=some 3,op:=Op.alloc T,type:=0,pos:=pos,after:= #[],guard:=none }) rfl (fun K' hK=> ?_)
  refine bqt rfl ?_
  unfold Oper.wp
  rw [hal,Oper.upon_value]
  have hN':=hN.below hrw (Rf9.alloc Nr (.cells zs.toArray T))
  exact hK _ _ ⟨hN'.box.cell 0 rfl,h1,fun _=>rfl,_,v5,v7,v9,v10,x1,x2,x3,s',rfl,hN',hpo,by simp;omega,hpp,fun _=> ⟨_,rfl,hz,by rw [if_neg (fun h=>by cases h2 h)];exact aql _ _ _⟩,e5,e7,e9,e10⟩
 exact⟨by omega,by simp,undef,undef,undef,undef,undef,0,0,0,st,rfl,H0,rfl,Nat.le_refl _,hp,by simp,by simp,by simp,by simp,by simp⟩
def fql (l:List UInt8) (f:aqq) (a long:Nat) (s:Rs):Rx aqq:=if long≠2 then .error (a,26) else Rx.bind (aqS l 2 s) fun v s'=> .ok ({ f with value:=v },s')
structure FldT (b F r:Nat) (f:aqq) (w:World):Prop where
 box:Bx w b [.pointer (some ⟨r,0,none⟩)] 173
 fld:Bx w F f.cells 119
theorem aq2.other {w:World} {r:Nat} {A:Option Addr} {cap:Nat} {l:List UInt8} {st:Rs} (h:aq2 w r A cap l st) (p:Addr) (v:Value) (hr:p.block≠r) (ha: ∀a,A=some a→0<l.length→a.block≠p.block):aq2 (w.setCell p v) r A cap l st where
 c0:=(World.cell?_setCell_other _ _ _ _ (by intro e;subst e;exact hr rfl)).trans h.c0
 c1:=(World.cell?_setCell_other _ _ _ _ (by intro e;subst e;exact hr rfl)).trans h.c1
 c2:=(World.cell?_setCell_other _ _ _ _ (by intro e;subst e;exact hr rfl)).trans h.c2
 c3:=(World.cell?_setCell_other _ _ _ _ (by intro e;subst e;exact hr rfl)).trans h.c3
 fz:=fun o=>by simp [go_sem,h.fz o]
 rd:=⟨h.rd.hlen,h.rd.hle,h.rd.hmax,fun h0=>by
  obtain⟨k,off,e,hlt,hc⟩:=h.rd.hat h0
  exact⟨k,off,e,by simpa using hlt,fun i hi=> (World.cell?_setCell_other _ _ _ _ (by intro e2;subst e2;exact ha ⟨k,off,none⟩ e h0 rfl)).trans (hc i hi)⟩⟩
 ne:=h.ne
 lt:=by simpa using h.lt
 len:=h.len
 pos:=h.pos
 pm:=h.pm
 most:=h.most
theorem jq4 (b F r:Nat) (A:Option Addr) (cap:Nat) (l:List UInt8) (hbF:b≠F) (hFr:F≠r) (hbr:b≠r) (hAF: ∀a,A=some a→0<l.length→a.block≠F) (f:aqq) (a n:Nat) (st:Rs) (w:World) (h:aq2 w r A cap l st) (ht:FldT b F r f w) (ha:a≤65536) (hn:n<4294967296):
  Calls Tryz.prog 137 #[.int .i64 a, .int .i64 n, .pointer (some ⟨b,0,none⟩), .pointer (some ⟨F,0,none⟩)] w (fqy w r [F] A cap l (fql l f a n st) (FldT b F r)):=by
 have hr:=h.lt
 have H0:=Hq h
 have HT0:=Hq ht
 have c_b:=ht.box.cell 0 rfl
 have hAF':=Hq hAF
 have HA0:=Hq (RS.refl r [F] w)
 clear h ht hAF
 by_cases h2:n=2
 ·subst h2
  have HE0:=Hq (show fql l f a 2 st=Rx.bind (aqS l 2 st) _ from if_neg Dd9)
  go_enter Tryz.func137,Tryz.ntmps137
  go_wp2_with (go_at_call 117;refine(aqn r A cap 2 l st _ (H0.out.keepB H0.out Bq9) Om).mono ?_;refine aqa ?_)
  refine aqb ?_
  intro e w1 hq
  rcases hq.cases with⟨a,er,hp,hb,rfl⟩ | ⟨x1,s1,v,hp,hb,rfl,⟨rfl,hn1⟩,hs⟩
  ·have HP:=Hq (HE0.out.trans (aqg hp))
   clear hp
   have HA:=Hq (HA0.out.step hr Bq9 hb)
   clear hb
   go_wp2_with fail
   exact(show _∧_ from⟨rfl,aqw HP.out HA.out⟩)
  have HE1:=Hq (HE0.out.trans (aqi hp))
  clear hp
  have HA1:=Hq (HA0.out.step hr Bq9 hb)
  have HS1:=Hq hs
  have hz1:=hb.but.size
  try simp at hz1
  have hy1:=HA1.out.but.size
  clear hb hs
  have X_b:=Hq (HT0.out.box.but hq.1.but (aqk Om))
  have X_F:=Hq (HT0.out.fld.but hq.1.but (aqk Om))
  clear c_b
  have c_F:=X_F.out.cell 3 rfl
  have z_F:=X_F.out.frozen 3
  go_wp2_with fail
  go_end0
  exact eqB HE1.out ⟨HA1.out.but.set ⟨F,3,none⟩ (.inl Sp) _,(World.cell?_setCell_other _ _ _ _ (by intro e;injection e with e _;exact hFr e)).trans HA1.out.c4⟩ ⟨X_b.out.set_other _ _ (Ne.symm hbF),X_F.out.set 3 _⟩ (HS1.out.other _ _ hFr (fun a e h0=>hAF'.out a e h0))
 have HE0:=Hq (show fql l f a n st= .error (a,26) from if_pos h2)
 have hb2:((n:Int) !=2)=true:=by simp;omega
 clear h2
 go_enter Tryz.func137,Tryz.ntmps137
 go_wp2_with (go_at_call 118;refine(bqe _ _ _ _).mono ?_;rintro e w9 ⟨rfl,rfl⟩)
 exact(show _∧_ from⟨rfl,aqw HE0.out HA0.out⟩)
theorem mqG {r g:Nat} {w wk w4:World} (h:RB r w wk) (k:RS r [g] wk w4) (hg:w.heap.size≤g):RB r w w4:=
 ⟨h.but.trans (k.but.mono h.but.size fun q hq hm=>by simp at hm;rcases hm with rfl|rfl<;>first| (simp;done) |omega),k.c4.trans h.c4⟩
theorem RB.set {r:Nat} {a w:World} (h:RB r a w) (p:Addr) (hp:a.heap.size≤p.block) (hr:p.block≠r) (v:Value):RB r a (w.setCell p v):=⟨h.but.set p (.inr hp) v,(World.cell?_setCell_other _ _ _ _ (by intro e;subst e;exact hr rfl)).trans h.c4⟩
theorem kq0:(ByteArray.mk #[67,111,110,115,116,97,110,116,86,97,108,117,101]).toList=aqL:=by decide+kernel
theorem kq1:kqW:=by
 intro r A cap l st w ok hok h hp
 have hr:=h.lt
 have hA:=fun(a:Addr) (e:A=some a) (h0:0<l.length)=> (show a.block<w.heap.size by
  obtain⟨b,off,e2,hlt,_⟩:=h.rd.hat h0
  rw [e] at e2
  injection e2 with e2
  subst e2
  exact hlt)
 have HA:=Hq hA
 have H0:=Hq h
 have HP0:=Hq hp
 have HK:=Hq hok
 clear h hp hok hA
 go_enter Tryz.func121,Tryz.ntmps121
 go_wp2_with fail
 have hb:=(((Below.refl w.heap.size w).alloc Nr (.cells #[Value.pointer (some ⟨r,0,none⟩)] 173)).alloc Sp (.cells #[Value.int .i64 0, .int .i64 0, .int .i64 0, .int .i64 0] 119))
 refine fqb (α:=aqq) 119 _ [Value.int .i64 0, .int .i64 0, .int .i64 0, .int .i64 0] (fun x y z=> [.int .i64 x, .int .i64 y, .int .i64 z, .int .i64 0]) r w.heap.size (w.heap.size+1) A cap l st w _ (bqY l st)
  (fun a n d s3=>cqg l (some aqL) (fun f at' long s=>if long≠2 then .error (at',26) else Rx.bind (aqS l 2 s) fun v s'=> .ok ({ f with value:=v },s')) ⟨a,n,d,0⟩ s3) Om Om Om Om hr HA.out ⟨?_, ?_, ?_, ?_⟩ rfl ?_ ?_ ?_ _ rfl rfl rfl _ ?_ ?_ ?_
 ·exact RB.of_below hr hb
 ·exact(aql w _ _).below (Rf9.alloc Nr _) Sp
 ·exact aqh _ _ _ _ Sp
 ·exact H0.out.keep hb
 ·intros;kernel_rfl
 ·intros;kernel_rfl
 ·intro x y z
  exact⟨rfl,by simp [Value.oneCell']⟩
 ·exact fun _ _ _ _ _ h=>h
 ·intro a pa er wk hd hp' hb'
  exact(show _∧_ from⟨hd,aqo hp' hb'⟩)
 intro x1 x2 x3 s3 g wk hs hpo hN hg hge
 simp only [World.size_alloc] at hge
 have HS:=Hq hs
 have HN:=Hq hN
 have HG:=Hq hg
 have HPO:=Hq hpo
 have c_b:=hN.box.cell 0 rfl
 have hbl:=hN.box.lt
 clear hs hN hg hpo hb
 go_wp2_with (go_at_call 123;refine aqa ?_)
 refine aqb ?_
 refine(iqq _ _ _ (by rw [kq0];decide+kernel) [g] (FldT w.heap.size g r) (fql l) r A cap l s3 ⟨x1,x2,x3,0⟩ _ (fun q=>ok q∧q<w.heap.size) ?_ ?_ ?_ ?_ HN.out.rd ?_ ⟨HN.out.box,HG.out⟩).mono ?_
 ·intro q hq
  exact⟨HK.out q hq.1,by simp;omega⟩
 ·intro x W W' hT hB
  exact⟨hT.box.but hB (aqk Om),hT.fld.but hB (aqk Om)⟩
 ·intro x a n s
  exact bqZ (bqf _ _) (aqx (aqv _ _ _) fun _ _ h=>bq2 _ h)
 ·intro a n s W hR hP hT ha hn
  exact jq4 w.heap.size g r A cap l Om Om Om (fun q e h0=>by have:=HA.out q e h0;omega) _ a n s W hR hT ha hn
 ·rw [HPO.out]
  obtain⟨pv,h1,h2⟩:=HP0.out
  exact⟨pv,HN.out.rb.c4.trans h1,(h2.mono fun q hq hk=> ⟨hk,hq⟩).keep (aqC.of_but HN.out.rb.but fun q hq=>aqk (HK.out q hq.1))⟩
 intro e w4 hq
 rw [kq0] at hq
 rcases hq.cases with⟨pa,er,hp',hb,rfl⟩ | ⟨x4,s4,hp',hb,rfl,ht,hs⟩
 ·exact(show _∧_ from⟨rfl,aqo (HS.out.trans hp') (mqG HN.out.rb hb Om)⟩)
 have HP4:=Hq (HS.out.trans hp')
 have X_F:=Hq ht.fld
 have X_n:=Hq (HN.out.res.but hb.but Sd)
 have HB:=Hq hb
 have HS4:=Hq hs
 have c0:=ht.fld.cell 0 rfl
 have c1:=ht.fld.cell 1 rfl
 have c2:=ht.fld.cell 2 rfl
 have c3:=ht.fld.cell 3 rfl
 clear hp' hb ht hs hq c_b
 have n0:=X_n.out.cell 0 rfl
 have n1:=X_n.out.cell 1 rfl
 have n2:=X_n.out.cell 2 rfl
 have n3:=X_n.out.cell 3 rfl
 have z0:=X_n.out.frozen 0
 have z1:=X_n.out.frozen 1
 have z2:=X_n.out.frozen 2
 have z3:=X_n.out.frozen 3
 go_wp2_with fail
 have hA': ∀a,A=some a→0<l.length→a.block≠w.heap.size+1:=fun a e h0=>by have:=HA.out a e h0;omega
 refine bodyPost_ret (v:=bq0 x4) (eqs rfl rfl ((((X_n.out.set 0 _).set 1 _).set 2 _).set 3 _) rfl rfl Kq9) rfl ?_
 exact bqw HP4.out (((((mqG HN.out.rb HB.out Om).set _ Sp Sd _).set _ Sp Sd _).set _ Sp Sd _).set _ Sp Sd _) rfl
  ((((HS4.out.other _ _ Sd hA').other _ _ Sd hA').other _ _ Sd hA').other _ _ Sd hA')
structure CdW (w:World) (r M:Nat) (A:Option Addr) (cap:Nat) (l:List UInt8) (s:Rs) (cs:List Value) (wk:World):Prop where
 rs:RS r [M] w wk
 rd:aq2 wk r A cap l s
 mb:Bx wk M cs 91
theorem CdW.step {w:World} {r M:Nat} {A:Option Addr} {cap:Nat} {l:List UInt8} {s s':Rs} {cs:List Value} {wk wq:World} (h:CdW w r M A cap l s cs wk) (hM:M≠r) (hq:RB r wk wq) (hs:aq2 wq r A cap l s'):CdW w r M A cap l s' cs wq:=
 ⟨h.rs.trans (RS.of_rb hq),hs,h.mb.but hq.but (aqk hM)⟩
theorem CdW.below {w:World} {r M:Nat} {A:Option Addr} {cap:Nat} {l:List UInt8} {s:Rs} {cs:List Value} {wk wq:World} (h:CdW w r M A cap l s cs wk) (hb:Below wk.heap.size wk wq):CdW w r M A cap l s cs wq:=
 ⟨h.rs.trans (RS.of_rb (RB.of_below h.rd.lt hb)),h.rd.keep hb,h.mb.below hb h.mb.lt⟩
theorem CdW.set {w:World} {r M:Nat} {A:Option Addr} {cap:Nat} {l:List UInt8} {s:Rs} {cs:List Value} {wk:World} (h:CdW w r M A cap l s cs wk) (hM:M≠r) (hA: ∀a,A=some a→0<l.length→a.block≠M) (j:Nat) (v:Value):CdW w r M A cap l s (cs.set j v) (wk.setCell ⟨M,j,none⟩ v):=
 ⟨⟨h.rs.but.set ⟨M,j,none⟩ (.inl Sp) v,(World.cell?_setCell_other _ _ _ _ (by intro e;injection e with e _;exact hM e)).trans h.rs.c4⟩,h.rd.other _ _ hM hA,h.mb.set j v⟩
theorem gqO {w:World} {r:Nat} {A:Option Addr} {cap:Nat} {l:List UInt8} {st:Rs} (h:aq2 w r A cap l st) (m:Nat) (h1:st.pos≤m) (h2:m≤4611686018427387904):aq2 (w.setCell ⟨r,2,none⟩ (.int .i64 m)) r A cap l { st with most:=m } where
 c0:=(World.cell?_setCell_other _ _ _ _ Sp).trans h.c0
 c1:=(World.cell?_setCell_other _ _ _ _ Sp).trans h.c1
 c2:=World.cell?_setCell_same _ _ _ h.c2
 c3:=(World.cell?_setCell_other _ _ _ _ Sp).trans h.c3
 fz:=fun o=>by simp [go_sem,h.fz o]
 rd:=h.rd.but ((But.refl w.heap.size [r] w).set ⟨r,2,none⟩ (.inl Sp) _) (fun a ha=>by simpa using h.ne a ha)
 ne:=h.ne
 lt:=by simpa using h.lt
 len:=h.len
 pos:=h.pos
 pm:=h1
 most:=h2
theorem kq2 {w:World} {r:Nat} {A:Option Addr} {cap:Nat} {l:List UInt8} {st:Rs} (h:aq2 w r A cap l st) (m:Nat):aq2 (w.setCell ⟨r,3,none⟩ (.int .i64 m)) r A cap l { st with named:=m } where
 c0:=(World.cell?_setCell_other _ _ _ _ Sp).trans h.c0
 c1:=(World.cell?_setCell_other _ _ _ _ Sp).trans h.c1
 c2:=(World.cell?_setCell_other _ _ _ _ Sp).trans h.c2
 c3:=World.cell?_setCell_same _ _ _ h.c3
 fz:=fun o=>by simp [go_sem,h.fz o]
 rd:=h.rd.but ((But.refl w.heap.size [r] w).set ⟨r,3,none⟩ (.inl Sp) _) (fun a ha=>by simpa using h.ne a ha)
 ne:=h.ne
 lt:=by simpa using h.lt
 len:=h.len
 pos:=h.pos
 pm:=h.pm
 most:=h.most
theorem CdW.rset {w:World} {r M:Nat} {A:Option Addr} {cap:Nat} {l:List UInt8} {s s':Rs} {cs:List Value} {wk:World} (h:CdW w r M A cap l s cs wk) (hM:M≠r) (j:Nat) (hj:j≠4) (v:Value) (hs:aq2 (wk.setCell ⟨r,j,none⟩ v) r A cap l s'):CdW w r M A cap l s' cs (wk.setCell ⟨r,j,none⟩ v):=
 ⟨⟨h.rs.but.set ⟨r,j,none⟩ (.inl Sp) v,(World.cell?_setCell_other _ _ _ _ (by intro e;injection e with _ e;exact hj e)).trans h.rs.c4⟩,hs,h.mb.set_other _ _ (Ne.symm hM)⟩
structure TrW (B:Nat) (cv:Value) (code:List UInt8) (pv:Value) (ts:List bqK) (wk:World):Prop where
 hcode:bqm wk (fun g=>B≤g∧pv.ownBlock≠some g) 1 code.length (code.map bV) cv
 row:wk.ownsRow B 157 4 pv ts.length (ts.flatMap bqK.cells)
 lo:B≤wk.heap.size
theorem TrW.but {B:Nat} {cv:Value} {code:List UInt8} {pv:Value} {ts:List bqK} {wk wq:World} {S:List Nat} (h:TrW B cv code pv ts wk) (hb:But wk.heap.size S wk wq) (hS: ∀k∈S,k<B):TrW B cv code pv ts wq:=
 ⟨h.hcode.keep (aqC.of_but hb fun g hg hm=>by have:=hS g hm;omega),aqj h.row fun q hq=>hb.block q (h.row.lt q hq).2 (fun hm=>by have:=hS q hm;have:=(h.row.lt q hq).1;omega),Nat.le_trans h.lo hb.size⟩
theorem TrW.grown {B:Nat} {cv:Value} {code:List UInt8} {pv:Value} {ts:List bqK} {wk W':World} {t:bqK} {n c g:Nat} (h:TrW B cv code pv ts wk) (o:Obj)
  (hr:W'.ownsRow B 157 4 (.slice (some ⟨g,0,none⟩) n c) (ts++ [t]).length ((ts++ [t]).flatMap bqK.cells)) (hg:(wk.alloc o).grownBy W' pv.ownBlock) (hgg:pv.ownBlock=some g∨g=(wk.alloc o).heap.size):
  TrW B cv code (.slice (some ⟨g,0,none⟩) n c) (ts++ [t]) W':=by
 have hz:=hg.size
 simp only [World.size_alloc] at hz hgg
 have hk:aqC (fun g=>B≤g∧pv.ownBlock≠some g) wk W':=⟨by omega,fun g hgl hok off=>by
  rw [World.cell?_of_block (w:=wk.alloc o) (hg.block g Sd (fun e=>hok.2 e.symm)),World.cell?_alloc_lt _ _ _ hgl]⟩
 refine⟨?_,hr,by have:=h.lo;omega⟩
 have h2:=(h.hcode.mono (ok':=fun g=> (B≤g∧pv.ownBlock≠some g)∧g<wk.heap.size) fun g hgl hok=> ⟨hok,hgl⟩)
 refine((h2.keep (hk.mono fun g hg=>hg.1)).mono fun q _ hok=> ⟨hok.1.1,fun e=> ?_⟩)
 have e':g=q:=by simpa [Value.ownBlock] using e
 subst e'
 rcases hgg with hgg|hgg
 ·exact hok.1.2 hgg
 have:=hok.2
 omega
theorem hqk:(Tryz.prog.info? 157).map (fun i=> (i.zero,i.size,i.bytes))=some (some (.agg #[.int .i64 0, .int .i64 0, .int .i64 0, .int .i64 0]),4,32):=by kernel_rfl
theorem mqH (l:List UInt8) (ts:List bqK) (k:Nat) (s:Rs) {β:Type} (K:List bqK→Rs→Rx β):Rx.bind (Rx.pre ts (bqO (dqa l) (k+1) s)) K=
  Rx.bind (aqS l 2 s) fun a s1=>Rx.bind (aqS l 2 s1) fun b s2=>Rx.bind (aqS l 2 s2) fun c s3=>Rx.bind (aqS l 2 s3) fun d s4=>Rx.bind (Rx.pre (ts++ [⟨a,b,c,d⟩]) (bqO (dqa l) k s4)) K:=by
 unfold Rx.pre
 rw [bqO]
 unfold dqa
 simp only [Rx.bind_assoc,Rx.bind_ok,List.append_assoc,List.singleton_append]
 done
set_option maxHeartbeats 2000000
theorem CdW.low {w:World} {r M:Nat} {A:Option Addr} {cap:Nat} {l:List UInt8} {s0 s:Rs} {cs:List Value} {wk wq:World} (h0:aq2 w r A cap l s0) (hM:M<w.heap.size) (h:CdW w r M A cap l s cs wk) (hb:Below w.heap.size wk wq):CdW w r M A cap l s cs wq:=
 ⟨h.rs.low h0.lt hb,h0.keepB h.rd hb,h.mb.below hb hM⟩
theorem hqm {l:List UInt8} {n:Nat} {st s:Rs} {x:List UInt8} (h:aqP l n st= .ok (x,s)):x.length≤n:=by
 unfold aqP at h
 split at h
 ·cases h
 split at h
 ·cases h
 injection h with h
 injection h with h _
 subst h
 simp
 omega
def nq6 (l:List UInt8) (x:aqr) (a n:Nat) (st:Rs) (sk lo:Nat) (b:List UInt8) (ts:List bqK) (s6:Rs):Rx aqr:=Rx.bind (eqj l s6) fun _ s7=>
 if s7.pos≠s7.most then .error (a,25) else .ok ({ x with has:=true,stack:=sk,locals:=lo,code:=b,traps:=ts },{ s7 with most:=4611686018427387904 })
theorem mqI (r M:Nat) (A:Option Addr) (cap:Nat) (l:List UInt8) (hM:M≠r) (hA: ∀a,A=some a→0<l.length→a.block≠M) (x:aqr) (cv0:Value) (a n:Nat) (st:Rs) (w:World) (ok:Nat→Prop) (hok: ∀g,ok g→g≠r∧g≠M)
  (h:aq2 w r A cap l st) (hp:eqA w r ok st.pool) (hm:Bx w M (x.cells cv0 (.slice none 0 0)) 91) (ha:a≤65536) (hn:n<4294967296):
  Calls Tryz.prog 139 #[.pointer (some ⟨r,0,none⟩), .pointer (some ⟨M,0,none⟩), .int .i64 a, .int .i64 n] w
   (fqy w r [M] A cap l (dqp l x a n st) fun y W=> ∃cv tv,Bx W M (y.cells cv tv) 91∧aqO W (fun g=>w.heap.size≤g) y cv tv):=by
 have hr:=h.lt
 have hml:=hm.lt
 have hle:=h.len
 have hpo:=h.pos
 have H0:=Hq h
 have HP0:=Hq hp
 have HK:=Hq hok
 have HAM:=Hq hA
 have c1:=h.c1
 have c2:=h.c2
 have c3:=h.c3
 have z2:=h.fz 2
 have z3:=h.fz 3
 have m3:=hm.cell 3 rfl
 have y3:=hm.frozen 3
 have HC1:=((((⟨RS.refl r [M] w,h,hm⟩:CdW w r M A cap l st _ w).rset hM 2 Dd9 _ (gqO h (st.pos+n) Om Om))).rset hM 3 Dd9 _ (kq2 (gqO h (st.pos+n) Om Om) a)).set hM hA 3 (.bool true)
 rw [Int.natCast_add] at HC1
 have C1:=Hq HC1
 have HE0:=Hq (show dqp l x a n st=Rx.bind (aqS l 2 { st with most:=st.pos+n,named:=a }) _ from rfl)
 have hrw: ¬M=r:=hM
 have hrw': ¬r=M:=Ne.symm hM
 clear h hp hok hA hm HC1
 go_enter Tryz.func139,Tryz.ntmps139
 go_wp2_with (go_at_call 117;refine(aqn r A cap 2 l _ _ C1.out.rd Om).mono ?_;refine aqa ?_)
 refine aqb ?_
 intro e w1 hq
 rcases hq.cases with⟨pa,er,hp,hb,rfl⟩ | ⟨x1,s1,v,hp,hb,rfl,⟨rfl,hn1⟩,hs⟩
 ·have HP:=Hq (HE0.out.trans (aqg hp))
  have HA:=Hq (C1.out.rs.trans (RS.of_rb hb))
  clear hp hb
  go_wp2_with fail
  exact(show _∧_ from⟨rfl,aqw HP.out HA.out⟩)
 have HE1:=Hq (HE0.out.trans (aqi hp))
 have HPL1:=Hq ((aqv _ _ _ _ _ hp).trans rfl)
 have D1:=Hq (C1.out.step hM hb hs)
 have hz1:=(C1.out.rs.trans (RS.of_rb (S:= [M]) hb)).but.size
 clear hp hb hs hq c1 c2 c3 z2 z3 m3 y3
 go_wp2_with (go_at_call 117;refine(aqn r A cap 2 l _ _ D1.out.rd Om).mono ?_;refine aqa ?_)
 refine aqb ?_
 intro e w2 hq
 rcases hq.cases with⟨pa,er,hp,hb,rfl⟩ | ⟨x2,s2,v,hp,hb,rfl,⟨rfl,hn2⟩,hs⟩
 ·have HP:=Hq (HE1.out.trans (aqg hp))
  have HA:=Hq (D1.out.rs.trans (RS.of_rb hb))
  clear hp hb
  go_wp2_with fail
  exact(show _∧_ from⟨rfl,aqw HP.out HA.out⟩)
 have HE2:=Hq (HE1.out.trans (aqi hp))
 have HPL2:=Hq ((aqv _ _ _ _ _ hp).trans HPL1.out)
 have D2:=Hq (D1.out.step hM hb hs)
 have hz2:=(D1.out.rs.trans (RS.of_rb (S:= [M]) hb)).but.size
 clear hp hb hs hq
 have m4:=D2.out.mb.cell 4 rfl
 have y4:=D2.out.mb.frozen 4
 have m5:=D2.out.mb.cell 5 rfl
 have y5:=D2.out.mb.frozen 5
 have c1:=D2.out.rd.c1
 have q2:=D2.out.rd.len
 have q3:=D2.out.rd.pos
 have C2:=Hq ((D2.out.set hM HAM.out 4 (.int .i64 x1)).set hM HAM.out 5 (.int .i64 x2))
 go_wp2_with (go_at_call 117;refine(aqn r A cap 4 l _ _ C2.out.rd Om).mono ?_;refine aqa ?_)
 refine aqb ?_
 intro e w3 hq
 rcases hq.cases with⟨pa,er,hp,hb,rfl⟩ | ⟨x3,s3,v,hp,hb,rfl,⟨rfl,hn3⟩,hs⟩
 ·have HP:=Hq (HE2.out.trans (aqg hp))
  have HA:=Hq (C2.out.rs.trans (RS.of_rb hb))
  clear hp hb
  go_wp2_with fail
  exact(show _∧_ from⟨rfl,aqw HP.out HA.out⟩)
 have HE3:=Hq (HE2.out.trans (aqi hp))
 have HPL3:=Hq ((aqv _ _ _ _ _ hp).trans HPL2.out)
 have D3:=Hq (C2.out.step hM hb hs)
 have hz3:=(C2.out.rs.trans (RS.of_rb (S:= [M]) hb)).but.size
 clear hp hb hs hq m4 y4 m5 y5 c1
 by_cases hbig:4096<x3
 ·have HP:=Hq (HE3.out.trans (if_pos hbig))
  go_wp2_with (go_at_call 118;refine(bqe _ _ _ _).mono ?_;rintro e w9 ⟨rfl,rfl⟩)
  exact(show _∧_ from⟨rfl,aqw HP.out D3.out.rs⟩)
 have HE3:=Hq (HE3.out.trans (if_neg hbig))
 go_wp2_with (go_at_call 136;refine(dqc r A cap _ l _ _ D3.out.rd Om).mono ?_;refine aqa ?_)
 refine aqb ?_
 intro e w4 hq
 rcases hq.cases with⟨pa,er,hp,hb,rfl⟩ | ⟨x4,s4,v,hp,hb,rfl,⟨A',cap',rfl,hrd⟩,hs⟩
 ·have HP:=Hq (HE3.out.trans (aqg hp))
  have HA:=Hq (D3.out.rs.trans (RS.of_rb hb))
  clear hp hb
  go_wp2_with fail
  exact(show _∧_ from⟨rfl,aqw HP.out HA.out⟩)
 have HE4:=Hq (HE3.out.trans (aqi hp))
 have HPL4:=Hq ((cqj _ _ _ _ _ hp).trans HPL3.out)
 have D4:=Hq (D3.out.step hM hb hs)
 have hz4:=(D3.out.rs.trans (RS.of_rb (S:= [M]) hb)).but.size
 have HRD:=Hq hrd
 have hxl:x4.length≤4096:=by have:=hqm hp;omega
 clear hp hb hs hq hrd
 have m6:=D4.out.mb.cell 6 rfl
 have y6:=D4.out.mb.frozen 6
 go_wp2_with (at_builtin;refine cq4 rfl _ _ 27 rfl Tryz.underlying27 bq5 rfl Om w4.heap.size rfl (World.ownsRow_nil _ _ _ _) rfl (by rw [List.length_map,Nat.mul_one]) HRD.out.src (nqO x4) Mz Om Nr ?_;intro cv W5 ho hg hb;refine aqa ?_)
 refine aqb ?_
 have HOC:=Hq (aqF ho (Nat.zero_add _) (List.nil_append _))
 have D5:=Hq (D4.out.below hb)
 have C5:=Hq ((D4.out.below hb).set hM HAM.out 6 cv)
 have hz5:=hb.size
 have m6':=D5.out.mb.cell 6 rfl
 have y6':=D5.out.mb.frozen 6
 obtain⟨A6,k6,hcv⟩:=aq7 HOC.out
 subst hcv
 clear ho hg hb m6 y6
 go_wp2_with (go_at_call 119;refine(dqT r A cap 64 l _ _ C5.out.rd Om).mono ?_;refine aqa ?_)
 refine aqb ?_
 intro e w6 hq
 rcases hq.cases with⟨pa,er,hp,hb,rfl⟩ | ⟨x6,s6,v,hp,hb,rfl,⟨rfl,hn6⟩,hs⟩
 ·have HP:=Hq (HE4.out.trans (aqg hp))
  have HA:=Hq (C5.out.rs.trans (RS.of_rb hb))
  clear hp hb
  go_wp2_with fail
  exact(show _∧_ from⟨rfl,aqw HP.out HA.out⟩)
 have HE6:=Hq (HE4.out.trans (aqi hp))
 have HPL6:=Hq ((cqM _ _ _ _ _ hp).trans HPL4.out)
 have D6:=Hq (C5.out.step hM hb hs)
 have hz6:=(C5.out.rs.trans (RS.of_rb (S:= [M]) hb)).but.size
 have HTR:=Hq (show TrW w.heap.size (.slice A6 x4.length k6) x4 (.slice none 0 0) [] w6 from(⟨(aqs HOC.out (fun g=>w.heap.size≤g∧(Value.slice none 0 0).ownBlock≠some g) Om Om (fun q hq=> ⟨by have:=(HOC.out.lt q hq).1;omega,by simp [Value.ownBlock]⟩)).keep (aqC.trans (aqC.of_but ((But.refl _ [M] W5).set ⟨M,6,none⟩ (.inl Sp) _) (fun g hg hm=>by simp at hm;omega)) (aqC.of_but hb.but (fun g hg hm=>by simp at hm;omega))),World.ownsRow_nil _ _ _ _,by omega⟩))
 clear hp hb hs hq m6' y6' HOC
 have HT0:=Hq (show dqp l x a n st=Rx.bind (Rx.pre [] (bqO (dqa l) (x6 - 0) s6)) (nq6 l x a n st x1 x2 x4) by rw [Rx.pre_nil];exact HE6.out)
 have hB6:=D6.out.rs.but.size
 go_wp2_with fail
 go_loopw [58] (fun i wr=> ∃(k:Nat) (sr:Rs) (ts:List bqK) (pv:Value),k≤x6∧i= .int .i64 k∧ts.length=k∧Hid (CdW w r M A cap l sr [.int .i64 x.acc, .int .i64 x.name, .int .i64 x.desc, .bool true, .int .i64 x1, .int .i64 x2, .slice A6 x4.length k6,pv] wr)∧Hid (TrW w.heap.size (.slice A6 x4.length k6) x4 pv ts wr)∧Hid (sr.pool=st.pool)∧Hid (dqp l x a n st=Rx.bind (Rx.pre ts (bqO (dqa l) (x6 - k) sr)) (nq6 l x a n st x1 x2 x4))) (fun i _=>x6 - (RowKit.intOf i).toNat)
 case atStart=>exact⟨0,s6, [], .slice none 0 0,by omega,rfl,rfl,D6,HTR,HPL6,HT0⟩
 case round=>
  obtain⟨wr1,hwr⟩: ∃W,W=wr:=⟨_,rfl⟩
  subst hwr
  obtain⟨k,sr,ts,pv,hk,rfl,hkl,HCr,HTr,HPr,HEr⟩:=hrel
  have HKL:=Hq hkl
  clear hkl
  have hBr:=HCr.out.rs.but.size
  by_cases hlt:k<x6
  ·have HMK:=Hq (show x6 - k=(x6 - (k+1))+1 by omega)
   have HEc:=Hq (show dqp l x a n st=_ by rw [HEr.out,HMK.out,mqH])
   have HCc:=Hq (HCr.out.below (Rf9.drew))
   have HTc:=Hq (HTr.out.but (But.of_below (S:= []) (Rf9.drew)) Sp)
   have HPc:=HPr
   have m7:=HCr.out.mb.cell 7 rfl
   have y7:=HCr.out.mb.frozen 7
   have hgc:w.heap.size≤wr1.heap.size:=hBr
   clear HEr
   go_wp2_with fail
   go_region_law (first
 | (go_simp;go_at_call 117;go_loud (
    refine(aqn r A cap 2 l _ _ HCc.out.rd Om).mono ?_
    intro e wq hq
    rcases hq.cases with⟨pa,er,hp,hb5,rfl⟩ | ⟨xq,sq,v,hp,hb5,rfl,⟨rfl,hnq⟩,hs⟩
    (have HP:=Hq (HEc.out.trans (aqg hp));have HA:=Hq (HCc.out.rs.trans (RS.of_rb hb5));clear hp hb5;exact(show _∧_ from⟨rfl,aqw HP.out HA.out⟩))
    have HE':=Hq (HEc.out.trans (aqi hp))
    have HP':=Hq ((aqv _ _ _ _ _ hp).trans HPc.out)
    have HC':=Hq (HCc.out.step hM hb5 hs)
    have HT':=Hq (HTc.out.but hb5.but Sd)
    have hgd:=HC'.out.rs.but.size
    clear HEc HPc HCc HTc
    have HEc:=HE'
    have HPc:=HP'
    have HCc:=HC'
    have HTc:=HT'
    have m7:=HCc.out.mb.cell 7 rfl
    have nq:=HCc.out.mb.lt
    clear HE' HP' HC' HT' hp hb5 hs hq))
 | (
    refine aq6 rfl (.tmp 64) (.tmp 74) 89 rfl Tryz.underlying89 hqk rfl Om w.heap.size rfl (HTc.out.row.alloc _) rfl rfl (aq3 _ _ _) Oc Om (by have:=HKL.out;simp only [maxLen];omega) (by have:=HKL.out;omega) Sd ?_
    intro g6 cap6 W' ho hg hb hgg
    have HC6:=Hq (CdW.low H0.out hml HCc.out (((Below.refl w.heap.size _).alloc Om _).trans hb))
    have HT6:=Hq (HTc.out.grown (t:=⟨_,_,_,_⟩) _ (aqF ho Sp (by simp [bqK.cells];exact⟨rfl,rfl,rfl,rfl⟩)) hg hgg)
    have m7:=HC6.out.mb.cell 7 rfl
    have y7:=HC6.out.mb.frozen 7
    have hz6:=hb.size
    clear ho hg hb hgg))
   all_goals go_wp2_with fail
   all_goals
    go_roundw
    case rel=>exact⟨k+1,_,_,_,by omega,by go_num,by simp [HKL.out],Hq (HC6.out.set hM HAM.out 7 _),Hq (HT6.out.but ((But.refl _ [M] _).set ⟨M,7,none⟩ (.inl Sp) _) Sd),HPc,HEc⟩
    case measure=>simp [RowKit.intOf];omega
  ·obtain rfl:k=x6:=by omega
   have HEx:=Hq ((HEr.out.trans (congrArg (fun z=>Rx.bind z (nq6 l x a n st x1 x2 x4)) (show _=Except.ok (ts,sr) by rw [Nat.sub_self];exact dq7))).trans (Rx.bind_ok _ _ _))
   have HPP:=Hq (show eqA wr1 r ok sr.pool by rw [HPr.out];exact HP0.out.rs HCr.out.rs (fun g hg=> ⟨(HK.out g hg).1,by simpa using (HK.out g hg).2⟩))
   clear hlt HEr
   go_wp2_with (go_at_call 123;refine(jqs r A cap l _ _ ok (fun g hg=> (HK.out g hg).1) HCr.out.rd HPP.out).mono ?_;refine aqa ?_)
   refine aqb ?_
   intro e w7 hq
   rcases hq.cases with⟨pa,er,hp,hb,rfl⟩ | ⟨x7,s7,v,hp,hb,rfl,rfl,hs⟩
   ·have HP:=Hq (HEx.out.trans (aqg hp))
    have HA:=Hq (HCr.out.rs.trans (RS.of_rb hb))
    clear hp hb
    go_wp2_with fail
    exact(show _∧_ from⟨rfl,aqw HP.out HA.out⟩)
   have HE7:=Hq (HEx.out.trans (aqi hp))
   have D7:=Hq (HCr.out.step hM hb hs)
   have T7:=Hq (HTr.out.but hb.but Sd)
   clear hp hb hs hq
   have c1:=D7.out.rd.c1
   have c2:=D7.out.rd.c2
   have z2:=D7.out.rd.fz 2
   have q7:=D7.out.rd.pos
   by_cases hend:s7.pos=s7.most
   ·have HP:=Hq (HE7.out.trans (if_neg (fun h=>h hend)))
    have hb7:((s7.pos:Int) !=s7.most)=false:=by simp [hend]
    have W7:=Hq (fun k=> (D7.out.below (below_drewN Rf9 k)).rset hM 2 Dd9 _ (gqO (D7.out.rd.keep (below_drewN Rf9 k)) 4611686018427387904 Om Nr))
    have V7:=Hq (fun k=> (T7.out.but (But.of_below (S:= []) (below_drewN Rf9 k)) Sp).but ((But.refl _ [r] _).set ⟨r,2,none⟩ (.inl Sp) (.int .i64 4611686018427387904)) Sd)
    clear hend
    go_wp2_with fail
    go_quiet (fail)
    go_wp2_with fail
    go_end0
    refine eqB HP.out (W7.out _).rs ⟨_,_,(W7.out _).mb,(V7.out _).hcode.mono fun g _ hg=>hg.1,aqs (V7.out _).row _ Om (show ts.length≤1048576 by have:=HKL.out;omega) ?_⟩ (W7.out _).rd
    intro q hq
    exact((V7.out 0).row.lt q hq).1
   have HP:=Hq (HE7.out.trans (if_pos hend))
   have hb7:((s7.pos:Int) !=s7.most)=true:=by simp;omega
   clear hend
   go_wp2_with fail
   go_quiet (fail)
   go_wp2_with (go_at_call 118;refine(bqe _ _ _ _).mono ?_;rintro e w9 ⟨rfl,rfl⟩)
   exact(show _∧_ from⟨rfl,aqw HP.out (D7.out.below (below_drewN Rf9 _)).rs⟩)
end Go.Proofs.YtdbniocnjhfhdaaGreatDoor
