/- Part 23 of what the laws rest on: walks. Conditions: those that each theorem names. -/
import Derived.Test.YtdbniocnjhfhdaaGreatDoorB22
import Derived.Deep.Cut
set_option linter.unusedSimpArgs false
set_option linter.unusedVariables false
set_option maxRecDepth 100000
set_option maxHeartbeats 1000000
namespace Go.Proofs.YtdbniocnjhfhdaaGreatDoor
open Go Go.RowKit Lib Go.Maps
theorem eq4 {W:World} {ok:Nat→Prop} {g lb size m:Nat} {x:Value} {xs:List Nat} {cs:List Value} (hs:0<size) (hm:cs.length=m*size) (h1:RdC W g size x cs) (h2:RdC W lb size x cs) (h3: ∀q∈xs,RdC W q size x cs) (hok: ∀b,b<W.heap.size→b≠g→b≠lb→b∉xs→(∃o u,W.cell? ⟨b,o,none⟩=some u)→ok b):bqm W ok size m cs x:=by
 obtain⟨A,n,cap,rfl,a1,a2,al,a3⟩:=h1
 obtain⟨A',n',cap',e,b1,b2,bl,b3⟩:=h2
 injection e with e1 e2 e3
 subst e1 e2 e3
 obtain rfl:m=n:=Nat.eq_of_mul_eq_mul_right hs (hm.symm.trans al)
 refine⟨A,cap,rfl,a1,by omega,al,fun h0=> ?_⟩
 obtain⟨b,off,e,hlt,hne,hc⟩:=a3 h0
 obtain⟨b',off',e',hlt',hne',_⟩:=b3 h0
 rw [e] at e'
 have e2:b=b':=by
  injection e' with e'
  injection e'
 subst e2
 refine⟨b,off,e,hlt,hok b hlt hne hne' (fun hb=> ?_) ?_,hc⟩
 ·obtain⟨A',n',cap',e',b1,b2,bl,b3⟩:=h3 b hb
  injection e' with e1 e2 e3
  subst e1 e2 e3
  obtain⟨b',off',e',hlt',hne',_⟩:=b3 h0
  rw [e] at e'
  injection e' with e'
  injection e' with e'
  exact hne' e'.symm
 have hp:0<cs.length:=by rw [hm];exact Nat.mul_pos h0 hs
 exact⟨off+0,cs[0],hc 0 _ (List.getElem?_eq_getElem hp)⟩
theorem hqS (w:World) (xs:List Nat) (hxs: ∀x∈xs,x<w.heap.size):Calls Tryz.prog 12 #[] w fun e w'=> ∃L v ts,e= .returned (.pointer (some ⟨L.lb,0,none⟩))∧ts.map TyV.key=bqj∧L.ex=xs∧w.heap.size≤L.bd∧
  LdG w.heap.size L 0 (fun _=>none) (fun _=>none) (ts.map TyV.name) [] ts v w'∧Below w.heap.size w w':=by
 refine(oqb w).mono ?_
 rintro e w' ⟨lb,bd,bf,bk,bg,nk,sk,v,ts,rfl,hk,h,hnk,hb⟩
 have hlen:ts.length=26:=by
  have:=congrArg List.length hk
  simpa [bqj] using this
 have ho:=h.ord
 have hlt:=h.lt
 obtain⟨g,hg⟩: ∃g,v.ownBlock=some g:=by
  rcases h.ty.own.2 with⟨_,h0⟩ | ⟨g,c,cur,rfl,_⟩
  ·omega
  exact⟨g,rfl⟩
 have hN:=h.new g hg
 have hgw:=h.ty.own.lt g hg
 have hmap: ∀b,(∃o u,w'.cell? ⟨b,o,none⟩=some u)→b≠bd∧b≠bf∧b≠bk∧b≠bg:=by
  rintro b ⟨o,u,hu⟩
  refine⟨fun e=> ?_,fun e=> ?_,fun e=> ?_,fun e=> ?_⟩
  ·subst e;rw [h.hd.no_cell] at hu;cases hu
  ·subst e;rw [h.hf.no_cell] at hu;cases hu
  ·subst e;rw [h.hk.no_cell] at hu;cases hu
  subst e;rw [h.hg.no_cell] at hu;cases hu
 refine⟨⟨lb,bd,bf,bk,bg,xs⟩,v,ts,rfl,hk,rfl,ho.1, ?_,hb⟩
 have hsk:=h.hk.size_le
 have hsd:=h.hd.size_le
 refine⟨h.c0,h.c1,h.c2,h.c3,h.c4,h.fz,⟨_,h.hd,fun s=>rfl⟩,⟨_,0,Nat.zero_le _,h.hf,fun s=>rfl⟩,⟨sk, ?_,h.hk.tight⟩,⟨0,Nat.zero_le _, ?_⟩,h.ty.own,fun t ht=> ?_,ho,fun q hq=> ?_,hlt,fun x hx=>Nat.lt_of_lt_of_le (hxs x hx) hb.size,fun q hq hx=> ?_,fun x hx=> ?_⟩
 ·rw [List.length_map];omega
 ·have e0:bqg []=fun _=>none:=by funext s;simp [bqg]
  rw [e0]
  exact h.hg
 ·have hok: ∀b,b<w'.heap.size→b≠g→b≠lb→b∉xs→(∃o u,w'.cell? ⟨b,o,none⟩=some u)→bqp.ro ⟨lb,bd,bf,bk,bg,xs⟩ v b:=fun b _ h1 h2 hx h3=>by
   obtain⟨m1,m2,m3,m4⟩:=hmap b h3
   exact⟨h2,m1,m2,m3,m4,fun e=>by rw [hg] at e;injection e with e;exact h1 e.symm,hx⟩
  have r1:=h.ty.reads g (.inl hg) t ht
  have r3:=fun q (hq:q∈xs)=>h.ty.reads q (.inr (hxs q hq)) t ht
  have r2:=h.rlb t ht
  exact⟨eq4 Om (by simp [TyV.ifCells]) r1.1 r2.1 (fun q hq=> (r3 q hq).1) hok,eq4 Om (gqS _) r1.2.1 r2.2.1 (fun q hq=> (r3 q hq).2.1) hok,eq4 Om (gqS _) r1.2.2 r2.2.2 (fun q hq=> (r3 q hq).2.2) hok⟩
 ·have:=h.new q hq
  exact⟨this.2,by show q≠bd;omega,by show q≠bf;omega,by show q≠bk;omega,by show q≠bg;omega⟩
 ·have h1:=hxs q hx
  have h2:=(h.ty.own.lt q hq).1
  omega
 have h1:=hxs x hx
 have h2:=ho
 refine⟨?_, ?_, ?_, ?_, ?_⟩
 ·show x≠lb;omega
 ·show x≠bd;omega
 ·show x≠bf;omega
 ·show x≠bk;omega
 show x≠bg;omega
theorem oqh (w:World):Calls Tryz.prog 12 #[] w fun e w'=> ∃L v ts,e= .returned (.pointer (some ⟨L.lb,0,none⟩))∧ts.map TyV.key=bqj∧
  LdG w.heap.size L 0 (fun _=>none) (fun _=>none) (ts.map TyV.name) [] ts v w'∧Below w.heap.size w w':=by
 refine(hqS w [] Sp).mono ?_
 rintro e w' ⟨L,v,ts,he,hk,_,_,h,hb⟩
 exact⟨L,v,ts,he,hk,h,hb⟩
end Go.Proofs.YtdbniocnjhfhdaaGreatDoor
namespace Go.Proofs.YtdbniocnjhfhdaaGreatDoor
open Go Go.RowKit Lib
theorem gqB:(Tryz.prog.info? 58).map (fun i=> (i.zero,i.size,i.bytes))=some (some (.agg #[.int .i64 0, .int .i64 0, .slice none 0 0, .int .i64 0, .int .i64 0, .int .i64 0, .slice none 0 0, .slice none 0 0, .slice none 0 0]),9,136):=by kernel_rfl
def noQ:ClQ:=(noC, .slice none 0 0, .slice none 0 0, .slice none 0 0, .slice none 0 0)
theorem nqS (W:World) (ok:Nat→Prop):aqy W ok noC (.slice none 0 0) (.slice none 0 0) (.slice none 0 0) (.slice none 0 0):=⟨cqY _ _ _,cqY _ _ _,cqY _ _ _, [],rfl,cqY _ _ _,by simp⟩
def tri (a b c:Value):Nat→Value
 |0=>a
 |1=>b
 |_=>c
theorem nqh (w:World) (xs:List Nat) (hxs: ∀x∈xs,x<w.heap.size):Calls Tryz.prog 20 #[] w fun e w'=> ∃r v ts,e= .returned (.pointer (some ⟨r,0,none⟩))∧ts.map TyV.key=bqj∧
  RfG w.heap.size ⟨r,xs⟩ [] ts (List.replicate 26 noC) v w'∧Below w.heap.size w w':=by
 obtain⟨ui,hui,huz,hus,hub⟩:=info_parts gqB
 have HMK:=Hq (fun(W:World) (B:Nat) (hB:B≤W.heap.size)=>run_make_full (P:=Tryz.prog) (w:=W) B 80 58 ui (.agg #[.int .i64 0, .int .i64 0, .slice none 0 0, .int .i64 0, .int .i64 0, .int .i64 0, .slice none 0 0, .slice none 0 0, .slice none 0 0]) 9 Tryz.underlying80 hui huz hus .i64 .i64 26 (by rw [hub];omega) Mz hB)
 clear hui huz hus hub
 go_enter Tryz.func20,Tryz.ntmps20
 go_wp2_with (go_at_call 32;refine(kqq _).mono ?_;rintro e w1 ⟨g,cap,ts,rfl,hk,ht⟩;refine aqa ?_)
 have HT:=Hq ht
 have HK:=Hq hk
 have hg:=ht.own.lt g rfl
 have hz:=ht.below.size
 have hlen:ts.length=26:=by
  have:=congrArg List.length hk
  simpa [bqj] using this
 have X1:=Hq (aql w1 [.slice none 0 0, .slice (some ⟨g,0,none⟩) 26 cap, .slice none 0 0] 82)
 obtain⟨w2,hmk,ho2,hg2⟩:=HMK.out (w1.alloc (.cells #[.slice none 0 0, .slice (some ⟨g,0,none⟩) 26 cap, .slice none 0 0] 82)) (w1.heap.size+1) Sp
 have HO2:=Hq ho2
 have HG2:=Hq hg2
 have X2:=Hq (show Bx w2 w1.heap.size [.slice none 0 0, .slice (some ⟨g,0,none⟩) 26 cap, .slice none 0 0] 82 from(hg2.block _ Sp Sp).trans X1.out)
 have c2:=X2.out.cell 2 rfl
 have f2:=X2.out.frozen 2
 replace hmk:(Instr.makeSlice 80 (.int .i64 26) (.int .i64 26)).run Tryz.prog (w1.alloc (.cells #[.slice none 0 0, .slice (some ⟨g,0,none⟩) 26 cap, .slice none 0 0] 82))= .ok (.slice (some ⟨w1.heap.size+1,0,none⟩) 26 26) w2:=by
  have h:=hmk
  rw [World.size_alloc] at h
  exact h
 clear ht hk ho2 hg2 HMK hz
 refine aqb ?_
 go_wp2_with fail
 go_ret
 have hsz:=HG2.out.size
 simp only [World.size_alloc] at hsz
 have hB2:Below w1.heap.size w1 (w2.setCell ⟨w1.heap.size,2,none⟩ (.slice (some ⟨w1.heap.size+1,0,none⟩) 26 26)):=((Rf9.alloc Nr _).grown HG2.out Sp (fun k hk=>by cases hk)).setCell Nr _
 have hB:=HT.out.below.trans (hB2.mono HT.out.below.size)
 refine⟨w1.heap.size,tri (.slice none 0 0) (.slice (some ⟨g,0,none⟩) 26 cap) (.slice (some ⟨w1.heap.size+1,0,none⟩) 26 26),ts,rfl,HK.out, ?_,hB⟩
 have hco:(w2.setCell ⟨w1.heap.size,2,none⟩ (.slice (some ⟨w1.heap.size+1,0,none⟩) 26 26)).ownsRow w.heap.size 58 9 (.slice (some ⟨w1.heap.size+1,0,none⟩) 26 26) 26 ((List.replicate 26 noQ).flatMap ClQ.cells):=by
  have hx:w2.ownsRow (w1.heap.size+1) 58 9 (.slice (some ⟨w1.heap.size+1,0,none⟩) 26 26) 26 ((List.replicate 26 noQ).flatMap ClQ.cells):=by
   have h:=HO2.out
   rw [World.size_alloc] at h
   exact aqF h rfl Kq9
  exact dqw (bqQ hx Sp _) (by have:=HT.out.below.size;omega)
 have hro: ∀b,b<w1.heap.size→b≠g→b∉xs→eqk.ro ⟨w1.heap.size,xs⟩ (tri (.slice none 0 0) (.slice (some ⟨g,0,none⟩) 26 cap) (.slice (some ⟨w1.heap.size+1,0,none⟩) 26 26)) b:=fun b h1 h2 h3=> ⟨⟨by show b≠w1.heap.size;omega,fun j hj e=>by
  have hc:j=0∨j=1∨j=2:=by omega
  rcases hc with rfl|rfl|rfl
  ·cases e
  ·have e':g=b:=by simpa [tri,Value.ownBlock] using e
   exact h2 e'.symm
  have e':w1.heap.size+1=b:=by simpa [tri,Value.ownBlock] using e
  omega⟩,h3⟩
 refine⟨X2.out.set 2 _,⟨[],rfl,World.ownsRow_nil _ _ _ _,by simp⟩,⟨aqj (HT.out.own_at hlen|>.2|>fun h=> ⟨HT.out.own.1,by rw [hlen] at*;exact h⟩) fun q hq=>hB2.block q ?_,fun t ht=> ?_⟩,⟨List.replicate 26 noQ,by simp [noQ],(by rw [List.length_replicate];exact hco),fun q hq=> ?_⟩,HT.out.below.size,fun x hx=> ?_,fun x hx=> ?_⟩
 ·have e':g=q:=by simpa [tri,Value.ownBlock] using hq
  omega
 ·have r1:=HT.out.reads g (.inl rfl) t ht
  have r3:=fun q (hq:q∈xs)=>HT.out.reads q (.inr (hxs q hq)) t ht
  have hk: ∀ok,aqC ok w1 (w2.setCell ⟨w1.heap.size,2,none⟩ (.slice (some ⟨w1.heap.size+1,0,none⟩) 26 26)):=fun ok=>aqC.of_below hB2
  exact⟨(eq4 Om (by simp [TyV.ifCells]) r1.1 r1.1 (fun q hq=> (r3 q hq).1) (fun b h1 h2 _ h4 _=>hro b h1 h2 h4)).keep (hk _),(eq4 Om (gqS _) r1.2.1 r1.2.1 (fun q hq=> (r3 q hq).2.1) (fun b h1 h2 _ h4 _=>hro b h1 h2 h4)).keep (hk _),(eq4 Om (gqS _) r1.2.2 r1.2.2 (fun q hq=> (r3 q hq).2.2) (fun b h1 h2 _ h4 _=>hro b h1 h2 h4)).keep (hk _)⟩
 ·obtain⟨_,rfl⟩:=List.mem_replicate.1 hq
  exact nqS _ _
 ·exact Nat.lt_of_lt_of_le (hxs x hx) hB.size
 have h1:=hxs x hx
 have h2:=HT.out.below.size
 refine⟨by show x≠w1.heap.size;omega,fun j hj e=> ?_⟩
 have hc:j=0∨j=1∨j=2:=by omega
 rcases hc with rfl|rfl|rfl
 ·cases e
 ·have e':g=x:=by simpa [tri,Value.ownBlock] using e
  omega
 have e':w1.heap.size+1=x:=by simpa [tri,Value.ownBlock] using e
 omega
abbrev Rz:=Option Rs
abbrev Ro (α:Type):=Option (α×Rs)
def Ro.go {α β:Type} (x:Ro α) (k:α→Rs→Ro β):Ro β:=
 match x with
 |none=>none
 |some (a,s)=>k a s
def Rz.go {β:Type} (x:Rz) (k:Rs→Ro β):Ro β:=
 match x with
 |none=>none
 |some s=>k s
def Rx.o {α:Type} (x:Rx α):Ro α:=
 match x with
 | .error _=>none
 | .ok q=>some q
theorem cqx {α β:Type} (x:Rx α) (f:α→Rs→Rx β):(Rx.bind x f).o=x.o.go fun a s=> (f a s).o:=by rcases x with e| ⟨a,s⟩ <;>rfl
theorem iq5 {α:Type} (c:Prop) [Decidable c] (x y:Rx α):(if c then x else y:Rx α).o=if c then x.o else y.o:=by split<;>rfl
theorem gq1 {α:Type} (x:Rz):(x.go fun _=> (none:Ro α))=none:=by cases x<;>rfl
def Is3 {α:Type} (F:Rs→Rx α) (x:Rz) (a:α) (x':Rz):Prop:=(x.go fun s=> (F s).o)=x'.go fun s=>some (a,s)
theorem Is3.step {α β:Type} {F:Rs→Rx α} {x x':Rz} {a:α} (h:Is3 F x a x') (k:α→Rs→Ro β):(x.go fun s=> (F s).o.go k)=x'.go (k a):=by
 have e:(x.go fun s=> (F s).o.go k)=(x.go fun s=> (F s).o).go k:=by cases x<;>rfl
 rw [e,show(x.go fun s=> (F s).o)=_ from h]
 cases x'<;>rfl
theorem jqL {α:Type} (F:Rs→Rx α) (a:α):Is3 F none a none:=rfl
theorem fqY {α:Type} {F:Rs→Rx α} {s:Rs} {q:Nat×Nat} (a:α) (h:F s= .error q):Is3 F (some s) a none:=by
 show(F s).o=none
 rw [h]
 rfl
theorem jqM {α:Type} {F:Rs→Rx α} {s s':Rs} {a:α} (h:F s= .ok (a,s')):Is3 F (some s) a (some s'):=by
 show(F s).o=some (a,s')
 rw [h]
 rfl
theorem Is3.dead {α:Type} {F:Rs→Rx α} {x':Rz} {a:α} (h:Is3 F none a x'):x'=none:=by
 cases x' with
 |none=>rfl
 |some s=>cases (show none=some (a,s) from h)
theorem Is3.live {α:Type} {F:Rs→Rx α} {x:Rz} {s':Rs} {a:α} (h:Is3 F x a (some s')): ∃s,x=some s∧F s= .ok (a,s'):=by
 cases x with
 |none=>cases (show none=some (a,s') from h)
 |some s=>
  refine⟨s,rfl, ?_⟩
  have h:(F s).o=some (a,s'):=h
  cases hf:F s with
  |error e=>rw [hf] at h;cases h
  |ok q=>rw [hf] at h;injection h with h;rw [h]
theorem gq2 (l:List UInt8) (m:Nat) (st:Rs):(bqo l m st).o=(aqS l 2 st).o.go fun n s=>if m<n then none else some (n,s):=by
 unfold bqo
 rw [cqx]
 congr 1
 funext n s
 rw [iq5]
 rfl
theorem koP_o (l:List UInt8) (st:Rs):(koP l st).o=(aqS l 1 st).o.go fun t s1=>
  if t=1 then(aqS l 2 s1).o.go fun n s2=> (aqP l n s2).o.go fun b s3=>some (⟨1,⟨b.toArray⟩,0,0,0⟩,s3)
  else if t=3 then(aqS l 4 s1).o.go fun n s2=>some (⟨3,⟨#[]⟩,dqG n,0,0⟩,s2)
  else if t=7 then(aqS l 2 s1).o.go fun n s2=>some (⟨7,⟨#[]⟩,0,n,0⟩,s2)
  else if t=9∨t=10∨t=11∨t=12 then(aqS l 2 s1).o.go fun n s2=> (aqS l 2 s2).o.go fun m s3=>some (⟨t,⟨#[]⟩,0,n,m⟩,s3)
  else none:=by
 unfold koP
 rw [cqx]
 congr 1
 funext t s1
 simp only [iq5,cqx]
 rfl
theorem dq4 {α:Type} (F:Rs→Rx α) (n:Nat) (x:Rz):(x.go fun s=> (bqO F n s).o)=x.go fun s=> (Rx.pre [] (bqO F n s)).o:=by simp only [Rx.pre_nil]
theorem dq5 {α:Type} {F:Rs→Rx α} {x x':Rz} {a:α} (h:Is3 F x a x') (k:Nat) (cs:List α):(x.go fun s=> (Rx.pre cs (bqO F (k+1) s)).o)=x'.go fun s=> (Rx.pre (cs++ [a]) (bqO F k s)).o:=by
 have e:(fun s=> (Rx.pre cs (bqO F (k+1) s)).o)=fun s=> (F s).o.go fun a s=> (Rx.pre (cs++ [a]) (bqO F k s)).o:=by
  funext s
  cases hf:F s with
  |error q=>rw [dqR hf];rfl
  |ok q=>rw [dqQ (show F s= .ok (q.1,q.2) from hf)];rfl
 rw [e,h.step]
theorem fqZ {α:Type} (F:Rs→Rx α) (x:Rz) (cs:List α) (k:Nat) (h:k=0∨x=none):(x.go fun s=> (Rx.pre cs (bqO F k s)).o)=x.go fun s=>some (cs,s):=by
 rcases h with rfl|rfl
 ·congr 1
  funext s
  rw [dq7]
  rfl
 rfl
theorem lqT (A:Option Addr) (cap:Nat) (l:List UInt8) (p n:Nat) (w:World) (hrd:RdB w A l.length cap l) (hn:n=1∨n=2∨n=4) (hp:p≤l.length) (hl:l.length≤65536):
  Calls Tryz.prog 103 #[.slice A l.length cap, .int .i64 p, .int .i64 n] w fun e w'=>w'=w∧e= .returned (if p+n≤l.length then .tuple #[.int .i64 (beN ((l.drop p).take n)), .bool true] else .tuple #[.int .i64 0, .bool false]):=by
 have HRD:=Hq hrd
 clear hrd
 have h0: ¬((p:Int) <0):=by omega
 by_cases hb:p+n≤l.length
 ·rw [if_pos hb]
  have hb2: ¬((l.length:Int) - n<p):=by omega
  obtain⟨b,off,rfl,hlt,hc⟩:=HRD.out.hat Om
  have HC:=Hq hc
  have HX:=Hq (show((l.drop p).take n).length=n by simp;omega)
  obtain⟨x,hx⟩: ∃x,(l.drop p).take n=x:=⟨_,rfl⟩
  have HY:=Hq hx
  rw [hx] at HX⊢
  clear hc hx
  rcases hn with rfl|rfl|rfl
  all_goals
   go_enter Tryz.func103,Tryz.ntmps103
   go_wp2_with fail
   go_loop [8,9] (fun v i=> ∃k:Nat,k≤x.length∧i= .int .i64 k∧v= .int .i64 (beN (x.take k))) (fun _ i=>x.length - (RowKit.intOf i).toNat)
   case atStart=>exact⟨0,by omega,rfl,rfl⟩
   case round=>
    obtain⟨k,hk,rfl,rfl⟩:=hrel
    have hxl:=HX.out
    by_cases hlt:k<x.length
    ·have ck:=HC.out (p+k) Om
     have hb:=kqP x k
     have h4:=kqT x k hk Om
     have HN:=Hq (gqM x k hlt)
     have HE:=Hq (show byt l (p+k)=byt x k by rw [←HY.out];unfold byt;rw [List.getD_eq_getElem?_getD,List.getD_eq_getElem?_getD,List.getElem?_take_of_lt Om,List.getElem?_drop])
     rw [HE.out] at ck
     generalize beN (x.take k)=V at*
     generalize byt x k=X at*
     go_wp2_with fail
     go_round
     case rel=>exact⟨k+1,by omega,by go_num,by rw [HN.out];go_num⟩
     case measure=>simp [RowKit.intOf];omega
    have hkk:k=x.length:=by omega
    have ht:x.take k=x:=List.take_of_length_le Om
    rw [ht]
    clear ht
    go_wp2_with fail
    go_ret2
    exact⟨rfl,rfl⟩
 rw [if_neg hb]
 have hb2:(l.length:Int) - n<p:=by omega
 rcases hn with rfl|rfl|rfl
 all_goals
  go_enter Tryz.func103,Tryz.ntmps103
  go_wp2_with fail
  go_ret2
  exact⟨rfl,rfl⟩
def Rel3 (x:Rz) (p most nm e:Nat):Prop:=
 match x with
 |some s=>s.pos=p∧s.most=most∧s.named=nm∧e=0
 |none=>e≠0∧e≠12
structure St3 (W:World) (R:Nat) (A:Option Addr) (cap:Nat) (l:List UInt8) (p most nm e bad:Nat):Prop where
 c0:W.cell? ⟨R,0,none⟩=some (.slice A l.length cap)
 c1:W.cell? ⟨R,1,none⟩=some (.int .i64 p)
 c2:W.cell? ⟨R,2,none⟩=some (.int .i64 e)
 c3:W.cell? ⟨R,3,none⟩=some (.int .i64 bad)
 c4:W.cell? ⟨R,4,none⟩=some (.int .i64 most)
 c5:W.cell? ⟨R,5,none⟩=some (.int .i64 nm)
 fz: ∀o,W.frozen? ⟨R,o,none⟩=false
 rd:RdB W A l.length cap l
 ne: ∀a,A=some a→a.block<R
 lt:R<W.heap.size
 len:l.length≤65536
 pos:p≤l.length
 pm:p≤most
 most:most≤9000000000000000000
def At3 (W:World) (R:Nat) (A:Option Addr) (cap:Nat) (l:List UInt8) (pool:List Ko) (x:Rz):Prop:= ∃p most nm e bad,Rel3 x p most nm e∧(∀s,x=some s→s.pool=pool)∧St3 W R A cap l p most nm e bad
def Mv (R:Nat) (W W':World):Prop:=But W.heap.size [R] W W'∧ ∀j,6≤j→W'.cell? ⟨R,j,none⟩=W.cell? ⟨R,j,none⟩
theorem Mv.refl (R:Nat) (W:World):Mv R W W:=⟨But.refl _ _ _,fun _ _=>rfl⟩
theorem Mv.trans {R:Nat} {a b c:World} (h:Mv R a b) (k:Mv R b c):Mv R a c:=⟨h.1.trans (k.1.mono h.1.size fun _ _ h=>h),fun j hj=> (k.2 j hj).trans (h.2 j hj)⟩
theorem Mv.set {R:Nat} {a w:World} (h:Mv R a w) (o:Nat) (ho:o<6) (v:Value):Mv R a (w.setCell ⟨R,o,none⟩ v):=
 ⟨h.1.set ⟨R,o,none⟩ (.inl Sp) v,fun j hj=> (World.cell?_setCell_other _ _ _ _ (by intro e;injection e;omega)).trans (h.2 j hj)⟩
section
variable {W W':World} {R:Nat} {A:Option Addr} {cap:Nat} {l:List UInt8} {p most nm e bad:Nat} {pool:List Ko} {x:Rz}
theorem oqi {q:Addr} (h:RdB W A l.length cap l) (hn: ∀a,A=some a→a.block≠q.block) (v:Value):RdB (W.setCell q v) A l.length cap l:=
 ⟨h.hlen,h.hle,h.hmax,fun h0=>by
  obtain⟨b,off,rfl,hlt,hc⟩:=h.hat h0
  have hb:b≠q.block:=hn _ rfl
  exact⟨b,off,rfl,by simpa using hlt,fun i hi=> (World.cell?_setCell_other _ _ _ _ (by rintro rfl;exact hb rfl)).trans (hc i hi)⟩⟩
theorem St3.put (h:St3 W R A cap l p most nm e bad) (q:Addr) (v:Value) (hq:R≤q.block) (p' most' nm' e' bad':Nat)
  (hc: ∀o u,o<6→([.slice A l.length cap, .int .i64 p', .int .i64 e', .int .i64 bad', .int .i64 most', .int .i64 nm']:List Value)[o]?=some u→⟨R,o,none⟩=q∧u=v∨⟨R,o,none⟩≠q∧([.slice A l.length cap, .int .i64 p, .int .i64 e, .int .i64 bad, .int .i64 most, .int .i64 nm]:List Value)[o]?=some u)
  (h1:p'≤l.length) (h2:p'≤most') (h3:most'≤9000000000000000000):St3 (W.setCell q v) R A cap l p' most' nm' e' bad':=by
 have key: ∀o u,o<6→([.slice A l.length cap, .int .i64 p', .int .i64 e', .int .i64 bad', .int .i64 most', .int .i64 nm']:List Value)[o]?=some u→(W.setCell q v).cell? ⟨R,o,none⟩=some u:=by
  intro o u ho hu
  rcases hc o u ho hu with⟨rfl,rfl⟩ | ⟨hne,hu2⟩
  ·have: ∃z,W.cell? ⟨R,o,none⟩=some z:=by
    obtain _|_|_|_|_|_|o:=o
    ·exact⟨_,h.c0⟩
    ·exact⟨_,h.c1⟩
    ·exact⟨_,h.c2⟩
    ·exact⟨_,h.c3⟩
    ·exact⟨_,h.c4⟩
    ·exact⟨_,h.c5⟩
    omega
   obtain⟨z,hz⟩:=this
   exact World.cell?_setCell_same _ _ _ hz
  refine(World.cell?_setCell_other _ _ _ _ (fun e=>hne e.symm)).trans ?_
  obtain _|_|_|_|_|_|o:=o
  ·exact h.c0.trans hu2
  ·exact h.c1.trans hu2
  ·exact h.c2.trans hu2
  ·exact h.c3.trans hu2
  ·exact h.c4.trans hu2
  ·exact h.c5.trans hu2
  omega
 exact⟨key 0 _ Om rfl,key 1 _ Om rfl,key 2 _ Om rfl,key 3 _ Om rfl,key 4 _ Om rfl,key 5 _ Om rfl,fun o=>by simpa [go_sem] using h.fz o,
  oqi h.rd (fun a ha=>by have:=h.ne a ha;omega) v,h.ne,by simpa using h.lt,h.len,h1,h2,h3⟩
theorem St3.s2 (h:St3 W R A cap l p most nm e bad) (n:Nat):St3 (W.setCell ⟨R,2,none⟩ (.int .i64 n)) R A cap l p most nm n bad:=
 h.put ⟨R,2,none⟩ _ Nr _ _ _ _ _ (by rintro(_|_|_|_|_|_|o) u ho hu<;>first|omega| (refine .inr ⟨by simp,hu⟩;done) | (refine .inl ⟨rfl, ?_⟩;simpa using hu.symm)) h.pos h.pm h.most
theorem St3.s3 (h:St3 W R A cap l p most nm e bad) (n:Nat):St3 (W.setCell ⟨R,3,none⟩ (.int .i64 n)) R A cap l p most nm e n:=
 h.put ⟨R,3,none⟩ _ Nr _ _ _ _ _ (by rintro(_|_|_|_|_|_|o) u ho hu<;>first|omega| (refine .inr ⟨by simp,hu⟩;done) | (refine .inl ⟨rfl, ?_⟩;simpa using hu.symm)) h.pos h.pm h.most
theorem St3.s1 (h:St3 W R A cap l p most nm e bad) (n:Nat) (h1:n≤l.length) (h2:n≤most):St3 (W.setCell ⟨R,1,none⟩ (.int .i64 n)) R A cap l n most nm e bad:=
 h.put ⟨R,1,none⟩ _ Nr _ _ _ _ _ (by rintro(_|_|_|_|_|_|o) u ho hu<;>first|omega| (refine .inr ⟨by simp,hu⟩;done) | (refine .inl ⟨rfl, ?_⟩;simpa using hu.symm)) h1 h2 h.most
theorem St3.s4 (h:St3 W R A cap l p most nm e bad) (n:Nat) (h1:p≤n) (h2:n≤9000000000000000000):St3 (W.setCell ⟨R,4,none⟩ (.int .i64 n)) R A cap l p n nm e bad:=
 h.put ⟨R,4,none⟩ _ Nr _ _ _ _ _ (by rintro(_|_|_|_|_|_|o) u ho hu<;>first|omega| (refine .inr ⟨by simp,hu⟩;done) | (refine .inl ⟨rfl, ?_⟩;simpa using hu.symm)) h.pos h1 h2
theorem St3.s5 (h:St3 W R A cap l p most nm e bad) (n:Nat):St3 (W.setCell ⟨R,5,none⟩ (.int .i64 n)) R A cap l p most n e bad:=
 h.put ⟨R,5,none⟩ _ Nr _ _ _ _ _ (by rintro(_|_|_|_|_|_|o) u ho hu<;>first|omega| (refine .inr ⟨by simp,hu⟩;done) | (refine .inl ⟨rfl, ?_⟩;simpa using hu.symm)) h.pos h.pm h.most
theorem St3.far (h:St3 W R A cap l p most nm e bad) (q:Addr) (v:Value) (hq:R<q.block∨R=q.block∧6≤q.off):St3 (W.setCell q v) R A cap l p most nm e bad:=
 h.put q v Om _ _ _ _ _ (fun o u ho hu=> .inr ⟨by rintro rfl;simp at hq;omega,hu⟩) h.pos h.pm h.most
theorem St3.low (h:St3 W R A cap l p most nm e bad) {B:Nat} (hb:Below B W W') (hB:R<B):St3 W' R A cap l p most nm e bad where
 c0:=(hb.cell (p:=⟨R,0,none⟩) hB).trans h.c0
 c1:=(hb.cell (p:=⟨R,1,none⟩) hB).trans h.c1
 c2:=(hb.cell (p:=⟨R,2,none⟩) hB).trans h.c2
 c3:=(hb.cell (p:=⟨R,3,none⟩) hB).trans h.c3
 c4:=(hb.cell (p:=⟨R,4,none⟩) hB).trans h.c4
 c5:=(hb.cell (p:=⟨R,5,none⟩) hB).trans h.c5
 fz:=fun o=> (hb.frozen (p:=⟨R,o,none⟩) hB).trans (h.fz o)
 rd:=h.rd.low hb fun a ha _=>Nat.lt_trans (h.ne a ha) hB
 ne:=h.ne
 lt:=Nat.lt_of_lt_of_le h.lt hb.size
 len:=h.len
 pos:=h.pos
 pm:=h.pm
 most:=h.most
theorem St3.keep (h:St3 W R A cap l p most nm e bad) (hb:Below W.heap.size W W'):St3 W' R A cap l p most nm e bad:=h.low hb h.lt
theorem At3.low (h:At3 W R A cap l pool x) {B:Nat} (hb:Below B W W') (hB:R<B):At3 W' R A cap l pool x:=by
 obtain⟨p,m,n,e,b,h1,h2,h3⟩:=h
 exact⟨p,m,n,e,b,h1,h2,h3.low hb hB⟩
theorem At3.keep (h:At3 W R A cap l pool x) (hb:Below W.heap.size W W'):At3 W' R A cap l pool x:=by
 obtain⟨p,m,n,e,b,h1,h2,h3⟩:=h
 exact⟨p,m,n,e,b,h1,h2,h3.keep hb⟩
theorem At3.far (h:At3 W R A cap l pool x) (q:Addr) (v:Value) (hq:R<q.block∨R=q.block∧6≤q.off):At3 (W.setCell q v) R A cap l pool x:=by
 obtain⟨p,m,n,e,b,h1,h2,h3⟩:=h
 exact⟨p,m,n,e,b,h1,h2,h3.far q v hq⟩
theorem At3.drew (h:At3 W R A cap l pool x):At3 W.drew R A cap l pool x:=h.keep Rf9.drew
theorem At3.alloc (h:At3 W R A cap l pool x) (o:Obj):At3 (W.alloc o) R A cap l pool x:=h.keep (Rf9.alloc Nr o)
theorem At3.lt (h:At3 W R A cap l pool x):R<W.heap.size:=by
 obtain⟨p,m,n,e,b,h1,h2,h3⟩:=h
 exact h3.lt
theorem Mv.of_below (hR:R<W.heap.size) (hb:Below W.heap.size W W'):Mv R W W':=⟨But.of_below hb,fun j _=>hb.cell (p:=⟨R,j,none⟩) hR⟩
theorem Mv.bx {g:Nat} {vs:List Value} {t:TypeId} (h:Mv R W W') (hx:Bx W g vs t) (hg:g≠R):Bx W' g vs t:=hx.but h.1 (by simpa using hg)
end
def P3 {α:Type} (w:World) (R:Nat) (A:Option Addr) (cap:Nat) (l:List UInt8) (pool:List Ko) (F:Rs→Rx α) (x:Rz) (rep:α→Value→World→Prop) (e:Ending) (w':World):Prop:=
 ∃a x' v,e= .returned v∧rep a v w'∧Is3 F x a x'∧Mv R w w'∧At3 w' R A cap l pool x'
theorem aq4 (R:Nat) (A:Option Addr) (cap a er:Nat) (l:List UInt8) (pool:List Ko) (x:Rz) (w:World) (h:At3 w R A cap l pool x) (her:er≠0∧er≠12):
  Calls Tryz.prog 78 #[.pointer (some ⟨R,0,none⟩), .int .i64 a, .int .i64 er] w fun e w'=>e= .returned (.tuple #[])∧Mv R w w'∧At3 w' R A cap l pool none:=by
 obtain⟨p,most,nm,e,bad,hr,_,hs⟩:=h
 have HS:=Hq hs
 have c2:=hs.c2
 have c3:=hs.c3
 have fz:=hs.fz
 clear hs
 rcases x with _|s
 ·have he1:((e:Int)==0)=false:=by simpa using hr.1
  go_enter Tryz.func78,Tryz.ntmps78
  go_wp2_with fail
  refine⟨rfl, .tuple #[],by simp [results,Tryz.results78], ?_⟩
  exact⟨rfl,Mv.refl _ _,p,most,nm,e,bad,hr,nofun,HS.out⟩
 obtain⟨h1,h2,h3,rfl⟩:=hr
 go_enter Tryz.func78,Tryz.ntmps78
 go_wp2_with fail
 refine⟨rfl, .tuple #[],by simp [results,Tryz.results78], ?_⟩
 exact⟨rfl,((Mv.refl R w).set 2 Om _).set 3 Om _,p,most,nm,er,a,her,nofun,(HS.out.s2 er).s3 a⟩
theorem aqu (R:Nat) (A:Option Addr) (cap n:Nat) (l:List UInt8) (pool:List Ko) (x:Rz) (w:World) (h:At3 w R A cap l pool x) (hn:n=1∨n=2∨n=4):
  Calls Tryz.prog 77 #[.pointer (some ⟨R,0,none⟩), .int .i64 n] w (P3 w R A cap l pool (aqS l n) x fun a v _=>v= .int .i64 a∧a<4294967296):=by
 obtain⟨p,most,nm,e,bad,hr,hpo,hs⟩:=h
 have HS:=Hq hs
 have HPO:=Hq hpo
 have c0:=hs.c0
 have c1:=hs.c1
 have c2:=hs.c2
 have c4:=hs.c4
 have c5:=hs.c5
 have fz:=hs.fz
 have hpl:=hs.pos
 have hln:=hs.len
 have hpm:=hs.pm
 have hmo:=hs.most
 clear hs hpo
 rcases x with _|s
 ·have he1:((e:Int)==0)=false:=by simpa using hr.1
  go_enter Tryz.func77,Tryz.ntmps77
  go_wp2_with fail
  go_ret
  exact⟨0,none,_,rfl,⟨rfl,by omega⟩,jqL _ _,Mv.refl _ _,p,most,nm,e,bad,hr,nofun,HS.out⟩
 obtain⟨h1,h2,h3,rfl⟩:=hr
 subst h1 h2 h3
 have HG:=Hq (fun W (hW:Below w.heap.size w W)=>lqT A cap l s.pos n W (HS.out.rd.below hW) hn hpl hln)
 have hn4:n≤4∧1≤n:=by omega
 have HN:=Hq (show∀q:List UInt8,q.length=n→beN q<4294967296 from fun q hq=>by
  have:=kqS q q.length Nr
  rw [List.take_length,hq] at this
  rcases hn with rfl|rfl|rfl<;>omega)
 clear hn
 by_cases hb:s.pos+n≤l.length
 ·rw [if_pos hb] at HG
  have HN:=Hq (HN.out ((l.drop s.pos).take n) Sd)
  obtain⟨v,hv⟩: ∃v,beN ((l.drop s.pos).take n)=v:=⟨_,rfl⟩
  rw [hv] at HG HN
  by_cases hm:s.pos+n≤s.most
  ·have HP:=Hq (show aqS l n s= .ok (v,{ s with pos:=s.pos+n }) by unfold aqS aqP;rw [if_neg Om,if_neg Om];show Except.ok _=_;rw [hv])
   have hm2: ¬(s.most:Int) - s.pos<n:=by omega
   clear hv
   go_enter Tryz.func77,Tryz.ntmps77
   go_upto_region 3 with fail
   go_region_law (go_simp;go_at_call 103;refine(HG.out _ Rf9.drew).mono ?_;rintro e2 w2 ⟨rfl,rfl⟩;dsimp only)
   all_goals
    go_upto_region 7 with fail
    go_quiet (fail)
    go_wp2_with fail
    go_ret
    have T:=(HS.out.keep (below_drewN (Below.refl w.heap.size w) (1+nq))).s1 (s.pos+n) hb hm
    rw [Int.natCast_add] at T
    exact⟨v,_,_,rfl,⟨rfl,HN.out⟩,jqM HP.out,(Mv.of_below HS.out.lt (below_drewN Rf9 _)).set 1 Om _,_,_,_,_,_,⟨rfl,rfl,rfl,rfl⟩,fun s' e'=>by injection e' with e';subst e';exact(HPO.out s rfl),T⟩
  have HP:=Hq (show aqS l n s= .error (s.named,25) by unfold aqS aqP;rw [if_neg Om,if_pos Om];rfl)
  have hm2:(s.most:Int) - s.pos<n:=by omega
  clear hv
  go_enter Tryz.func77,Tryz.ntmps77
  go_upto_region 3 with fail
  go_region_law (go_simp;go_at_call 103;refine(HG.out _ Rf9.drew).mono ?_;rintro e2 w2 ⟨rfl,rfl⟩;dsimp only)
  all_goals
   go_upto_region 7 with fail
   go_quiet (fail)
   go_wp2_with (go_at_call 78;refine(aq4 R A cap s.named 25 l pool (some s) _ ⟨_,_,_,_,_,⟨rfl,rfl,rfl,rfl⟩,HPO.out,HS.out.keep (below_drewN Rf9 _)⟩ Om).mono ?_;rintro e3 w3 ⟨rfl,hmv,hat⟩;have HM:=Hq hmv;have HA:=Hq hat;clear hmv hat)
   go_ret
   exact⟨0,none,_,rfl,⟨rfl,by omega⟩,fqY _ HP.out,(Mv.of_below HS.out.lt (below_drewN Rf9 _)).trans HM.out,HA.out⟩
 rw [if_neg hb] at HG
 have HP:=Hq (show aqS l n s= .error (s.pos,10) by unfold aqS aqP;rw [if_pos Om];rfl)
 go_enter Tryz.func77,Tryz.ntmps77
 go_upto_region 3 with fail
 go_region_law (go_simp;go_at_call 103;refine(HG.out _ Rf9.drew).mono ?_;rintro e2 w2 ⟨rfl,rfl⟩;dsimp only)
 all_goals
  go_wp2_with (go_at_call 78;refine(aq4 R A cap s.pos 10 l pool (some s) _ ⟨_,_,_,_,_,⟨rfl,rfl,rfl,rfl⟩,HPO.out,HS.out.keep Rf9.drew⟩ Om).mono ?_;rintro e3 w3 ⟨rfl,hmv,hat⟩;have HM:=Hq hmv;have HA:=Hq hat;clear hmv hat)
  go_ret
  exact⟨0,none,_,rfl,⟨rfl,by omega⟩,fqY _ HP.out,(Mv.of_below HS.out.lt Rf9.drew).trans HM.out,HA.out⟩
theorem gqC:(Tryz.prog.info? 5).map (fun i=> (i.zero,i.size,i.bytes))=some (some (.int .u8 0),1,1):=by kernel_rfl
theorem cqq (R:Nat) (A:Option Addr) (cap n:Nat) (l:List UInt8) (pool:List Ko) (x:Rz) (w:World) (h:At3 w R A cap l pool x) (hn:n≤4294967296):
  Calls Tryz.prog 104 #[.pointer (some ⟨R,0,none⟩), .int .i64 n] w (P3 w R A cap l pool (aqP l n) x fun a v w'=>w'.ownsRow w.heap.size 5 1 v a.length (a.map bV)∧a.length≤65536):=by
 obtain⟨p,most,nm,e,bad,hr,hpo,hs⟩:=h
 have HS:=Hq hs
 have HPO:=Hq hpo
 have c0:=hs.c0
 have c1:=hs.c1
 have c2:=hs.c2
 have c4:=hs.c4
 have c5:=hs.c5
 have fz:=hs.fz
 have hpl:=hs.pos
 have hln:=hs.len
 have hpm:=hs.pm
 have hmo:=hs.most
 clear hs hpo
 rcases x with _|s
 ·have he1:((e:Int)==0)=false:=by simpa using hr.1
  go_enter Tryz.func104,Tryz.ntmps104
  go_wp2_with fail
  go_ret
  exact⟨[],none,_,rfl,⟨World.ownsRow_nil _ _ _ _,by simp⟩,jqL _ _,Mv.refl _ _,p,most,nm,e,bad,hr,nofun,HS.out⟩
 obtain⟨h1,h2,h3,rfl⟩:=hr
 subst h1 h2 h3
 have hle:=HS.out.rd.hle
 by_cases hb:s.pos+n≤l.length
 ·have hb2: ¬(l.length:Int) - s.pos<n:=by omega
  by_cases hm:s.pos+n≤s.most
  ·have HP:=Hq (show aqP l n s= .ok ((l.drop s.pos).take n,{ s with pos:=s.pos+n }) by unfold aqP;rw [if_neg Om,if_neg Om])
   have hm2: ¬(s.most:Int) - s.pos<n:=by omega
   have HL2:=Hq (show((l.drop s.pos).take n).length=n by simp;omega)
   have HT:=Hq (fun(W:World) (hW:Below w.heap.size w W) (W':World) (h1:Below w.heap.size W W')=> (⟨(Mv.of_below HS.out.lt (hW.trans h1)).set 1 Om _,s.pos+n,s.most,s.named,0,bad,⟨rfl,rfl,rfl,rfl⟩,fun s' e'=>by injection e' with e';subst e';exact HPO.out s rfl,by have T:=(HS.out.keep (hW.trans h1)).s1 (s.pos+n) hb hm;rw [Int.natCast_add] at T;exact T⟩:Mv R w (W'.setCell ⟨R,1,none⟩ (.int .i64 ((s.pos:Int)+n)))∧At3 (W'.setCell ⟨R,1,none⟩ (.int .i64 ((s.pos:Int)+n))) R A cap l pool (some { s with pos:=s.pos+n })))
   have hw1:IntKind.i64.wrap ((s.pos:Int)+n)=(s.pos:Int)+n:=by
    have h1: -9223372036854775808≤(s.pos:Int)+n∧(s.pos:Int)+n≤9223372036854775807:=by omega
    exact IntWalk.i64_in _ h1
   have hw3:0≤(s.pos:Int)+n:=by omega
   have hw4:(s.pos:Int)+n≤(cap:Int):=by omega
   have hw5:s.pos≤s.pos+n:=by omega
   have hw6:((s.pos:Int)+n).toNat=s.pos+n:=by omega
   have hw7:s.pos+n - s.pos=n:=by omega
   rcases A with _|ad
   ·have hl0:l.length=0:=by
     rcases Nat.eq_zero_or_pos l.length with h0|h0
     ·exact h0
     obtain⟨b,off,e,_⟩:=HS.out.rd.hat h0
     cases e
    have HN0:=Hq (show n=0 by omega)
    clear hl0
    go_enter Tryz.func104,Tryz.ntmps104
    go_wp2_with fail
    go_quiet (fail)
    go_wp2_with fail
    go_quiet (fail)
    go_wp2_with fail
    go_region_law (first
     | (refine fqk rfl (.const (.slice none 0 0)) (.tmp 60) 27 rfl Tryz.underlying27 gqC rfl Om w.heap.size rfl (World.ownsRow_nil _ _ _ _) (m:=n) rfl (news:= []) (by rw [HN0.out];simp) (fun h=>by have:=HN0.out;omega) Sp Mz Om Sp ?_
        intro v6 W' ho hg hb
        have d1:W'.cell? ⟨R,1,none⟩=some (.int .i64 s.pos):=(hb.cell (p:=⟨R,1,none⟩) HS.out.lt).trans c1
        have f1:W'.frozen? ⟨R,1,none⟩=false:=(hb.frozen (p:=⟨R,1,none⟩) HS.out.lt).trans (fz 1)
        have HO6:=Hq ho
        have HB6:=Hq hb
        clear ho hg hb))
    all_goals
     go_wp2_with fail
     go_ret
     have hk:=HT.out _ (below_drewN (Below.refl w.heap.size w) _) _ HB6.out
     refine⟨_,_,_,rfl,⟨aqj (aqF HO6.out (by rw [HL2.out];omega) (by rw [HN0.out];simp)) (fun g hg=>Below.heap_setCell _ _ _ _ (fun e=> ?_)),by rw [HL2.out];omega⟩,jqM HP.out,hk.1,hk.2⟩
     have h1:=(HO6.out.lt g hg).1
     have h2:=HS.out.lt
     simp at e
     omega
   have HR:=Hq (show∀(W:World) (A':Option Addr),Below w.heap.size w W→(0<n→A'=some (ad.add s.pos))→0<n→ ∃a2:Addr,A'=some a2∧ ∀j u,(((l.drop s.pos).take n).map bV)[j]?=some u→W.cell? (a2.add j)=some u from by
    intro W A' hW hA' h0
    obtain⟨b,off,e,hlt,hc⟩:=HS.out.rd.hat Om
    have hrd:=HS.out.rd
    rw [e] at hrd
    injection e with e
    subst e
    rw [bqB] at hA'
    obtain rfl:=hA' h0
    exact((hrd.part s.pos n Om h0).below hW).src h0)
   have HZ:=Hq (show s.pos+n≤cap by omega)
   have HL3:=Hq (show(((l.drop s.pos).take n).map bV).length=n*1 by rw [List.length_map,HL2.out];omega)
   have hcs:cap=s.pos∨ ¬cap=s.pos:=Decidable.em _
   rcases hcs with rfl|hcs
   all_goals
    go_enter Tryz.func104,Tryz.ntmps104
    go_wp2_with fail
    go_quiet (fail)
    go_wp2_with fail
    go_quiet (fail)
    go_wp2_with fail
    go_region_law (first
     | (refine fqk rfl (.const (.slice none 0 0)) (.tmp 60) 27 rfl Tryz.underlying27 gqC rfl Om w.heap.size rfl (World.ownsRow_nil _ _ _ _) (m:=n) rfl (news:=((l.drop s.pos).take n).map bV) HL3.out (HR.out _ _ (by repeat' (first|with_reducible exact Below.refl _ _|with_reducible refine below_drewN ?_ _|with_reducible refine Below.drew ?_)) (by intro h;have hz:=HZ.out;first|rfl|omega)) (by intro u hu;obtain⟨z,_,rfl⟩:=List.mem_map.1 hu;rfl) Mz Om Sp ?_
        intro v6 W' ho hg hb
        have d1:W'.cell? ⟨R,1,none⟩=some (.int .i64 s.pos):=(hb.cell (p:=⟨R,1,none⟩) HS.out.lt).trans c1
        have f1:W'.frozen? ⟨R,1,none⟩=false:=(hb.frozen (p:=⟨R,1,none⟩) HS.out.lt).trans (fz 1)
        have HO6:=Hq ho
        have HB6:=Hq hb
        clear ho hg hb))
    all_goals
     go_wp2_with fail
     go_ret
     have hk:=HT.out _ (below_drewN (Below.refl w.heap.size w) _) _ HB6.out
     refine⟨_,_,_,rfl,⟨aqj (aqF HO6.out (by rw [HL2.out];omega) (List.nil_append _)) (fun g hg=>Below.heap_setCell _ _ _ _ (fun e=> ?_)),by rw [HL2.out];omega⟩,jqM HP.out,hk.1,hk.2⟩
     have h1:=(HO6.out.lt g hg).1
     have h2:=HS.out.lt
     simp at e
     omega
  have HP:=Hq (show aqP l n s= .error (s.named,25) by unfold aqP;rw [if_neg Om,if_pos Om])
  have hm2:(s.most:Int) - s.pos<n:=by omega
  go_enter Tryz.func104,Tryz.ntmps104
  go_wp2_with fail
  go_quiet (fail)
  go_wp2_with fail
  go_quiet (fail)
  go_wp2_with (go_at_call 78;refine(aq4 R A cap s.named 25 l pool (some s) _ ⟨_,_,_,_,_,⟨rfl,rfl,rfl,rfl⟩,HPO.out,HS.out.keep (below_drewN Rf9 _)⟩ Om).mono ?_;rintro e3 w3 ⟨rfl,hmv,hat⟩;have HM:=Hq hmv;have HA:=Hq hat;clear hmv hat)
  go_ret
  exact⟨[],none,_,rfl,⟨World.ownsRow_nil _ _ _ _,by simp⟩,fqY _ HP.out,(Mv.of_below HS.out.lt (below_drewN Rf9 _)).trans HM.out,HA.out⟩
 have hb2:(l.length:Int) - s.pos<n:=by omega
 have HP:=Hq (show aqP l n s= .error (s.pos,10) by unfold aqP;rw [if_pos Om])
 go_enter Tryz.func104,Tryz.ntmps104
 go_wp2_with fail
 go_quiet (fail)
 go_wp2_with (go_at_call 78;refine(aq4 R A cap s.pos 10 l pool (some s) _ ⟨_,_,_,_,_,⟨rfl,rfl,rfl,rfl⟩,HPO.out,HS.out.keep (below_drewN Rf9 _)⟩ Om).mono ?_;rintro e3 w3 ⟨rfl,hmv,hat⟩;have HM:=Hq hmv;have HA:=Hq hat;clear hmv hat)
 go_ret
 exact⟨[],none,_,rfl,⟨World.ownsRow_nil _ _ _ _,by simp⟩,fqY _ HP.out,(Mv.of_below HS.out.lt (below_drewN Rf9 _)).trans HM.out,HA.out⟩
theorem eqg (R:Nat) (A:Option Addr) (cap m:Nat) (l:List UInt8) (pool:List Ko) (x:Rz) (w:World) (h:At3 w R A cap l pool x) (hm:m≤65536):
  Calls Tryz.prog 80 #[.pointer (some ⟨R,0,none⟩), .int .i64 m] w (P3 w R A cap l pool (bqo l m) x fun a v _=>v= .int .i64 a∧a≤m):=by
 obtain⟨p,most,nm,e,bad,hr,hpo,hs⟩:=id h
 have H:=Hq h
 have c1:=hs.c1
 have fz:=hs.fz
 have hpl:=hs.pos
 have hln:=hs.len
 clear hs hpo hr h
 go_enter Tryz.func80,Tryz.ntmps80
 go_wp2_with (go_at_call 77;refine(aqu R A cap 2 l pool x _ H.out Om).mono ?_;rintro e1 w1 ⟨a1,x1,v1,rfl,⟨rfl,ha1⟩,hi1,hm1,hs1⟩;have HI1:=Hq hi1;have HM1:=Hq hm1;have HS1:=Hq hs1;clear hi1 hm1 hs1;refine aqa ?_)
 refine aqb ?_
 by_cases hlt:m<a1
 ·have ht:decide ((m:Int) < (a1:Int))=true:=by simp;omega
  go_wp2_with (go_at_call 78;refine(aq4 R A cap p 2 l pool x1 _ HS1.out Om).mono ?_;rintro e3 w3 ⟨rfl,hmv,hat⟩;have HM:=Hq hmv;have HA:=Hq hat;clear hmv hat)
  go_ret
  refine⟨0,none,_,rfl,⟨rfl,by omega⟩, ?_,HM1.out.trans HM.out,HA.out⟩
  show(x.go fun s=> (bqo l m s).o)=none
  simp only [gq2]
  rw [HI1.out.step]
  simp only [if_pos hlt]
  exact gq1 x1
 have ht:decide ((m:Int) < (a1:Int))=false:=by simp;omega
 go_wp2_with fail
 go_ret
 refine⟨a1,x1,_,rfl,⟨rfl,by omega⟩, ?_,HM1.out,HS1.out⟩
 show(x.go fun s=> (bqo l m s).o)=_
 simp only [gq2]
 rw [HI1.out.step]
 congr 1
 funext s
 rw [if_neg hlt]
end Go.Proofs.YtdbniocnjhfhdaaGreatDoor
