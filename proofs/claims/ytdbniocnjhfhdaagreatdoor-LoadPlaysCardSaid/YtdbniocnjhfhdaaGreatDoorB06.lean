/- Part 6 of what the laws rest on: walks. Conditions: those that each theorem names. -/
import Derived.Test.YtdbniocnjhfhdaaGreatDoorB05
import Derived.Laws.EntriesVeiled
set_option linter.unusedSimpArgs false
set_option linter.unusedVariables false
set_option maxRecDepth 100000
set_option maxHeartbeats 1000000
namespace Go.Proofs.YtdbniocnjhfhdaaGreatDoor
open Go Go.RowKit Lib
def nq7 (lo b M r:Nat) (x:aqr) (w:World):Prop:=
 Bx w b [.pointer (some ⟨r,0,none⟩)] 173∧ ∃cv tv,Bx w M (x.cells cv tv) 91∧aqO w (fun g=>lo≤g∧g≠M) x cv tv∧(x.has=false→tv= .slice none 0 0)
theorem nq7.but {lo b M r:Nat} {x:aqr} {W W':World} (h:nq7 lo b M r x W) (hb:But W.heap.size [r] W W') (h1:b≠r) (h2:M≠r) (h3:r<lo):nq7 lo b M r x W':=by
 obtain⟨c1,cv,tv,c2,c3,c4⟩:=h
 have hk:aqC (fun g=>lo≤g∧g≠M) W W':=aqC.of_but hb fun g hg hm=>by simp at hm;omega
 exact⟨c1.but hb (aqk h1),cv,tv,c2.but hb (aqk h2),⟨c3.hcode.keep hk,c3.htraps.keep hk⟩,c4⟩
theorem dqq {α β:Type} {p:Rx α} {f:α→Rs→Rx β} {r:β×Rs} (h:Rx.bind p f= .ok r): ∃x s,p= .ok (x,s)∧f x s= .ok r:=by
 rcases p with e| ⟨x,s⟩
 ·cases h
 exact⟨x,s,rfl,h⟩
theorem kq4 {l:List UInt8} {x y:aqr} {a n:Nat} {st s:Rs} (h:dqp l x a n st= .ok (y,s)):y.has=true:=by
 unfold dqp at h
 obtain⟨_,s1,_,h⟩:=dqq h
 obtain⟨_,s2,_,h⟩:=dqq h
 obtain⟨_,s3,_,h⟩:=dqq h
 split at h
 ·cases h
 obtain⟨_,s4,_,h⟩:=dqq h
 obtain⟨_,s5,_,h⟩:=dqq h
 obtain⟨_,s6,_,h⟩:=dqq h
 obtain⟨_,s7,_,h⟩:=dqq h
 split at h
 ·cases h
 injection h with h
 injection h with h _
 subst h
 rfl
theorem hqo:(ByteArray.mk #[67,111,100,101]).toList=fqu:=by decide+kernel
theorem iqr (lo b M r:Nat) (A:Option Addr) (cap:Nat) (l:List UInt8) (hbM:b≠M) (hMr:M≠r) (hbr:b≠r) (hlb:r<lo) (hA: ∀a,A=some a→0<l.length→a.block≠M) (x:aqr) (hx:x.has=false) (hxt:x.traps= []) (a n:Nat) (st:Rs) (w:World) (ok:Nat→Prop) (hok: ∀g,ok g→g≠r∧g≠M)
  (hlo:lo≤w.heap.size) (h:aq2 w r A cap l st) (hp:eqA w r ok st.pool) (ht:nq7 lo b M r x w) (ha:a≤65536) (hn:n<4294967296):
  Calls Tryz.prog 138 #[.int .i64 a, .int .i64 n, .pointer (some ⟨b,0,none⟩), .pointer (some ⟨M,0,none⟩)] w (fqy w r [M] A cap l (dqp l x a n st) (nq7 lo b M r)):=by
 obtain⟨hb,cv,tv,hm,hc,htv⟩:=ht
 obtain rfl:=htv hx
 have c_b:=hb.cell 0 rfl
 have HM:=Hq hm
 have HB:=Hq hb
 have H0:=Hq h
 have HP0:=Hq hp
 have HK:=Hq hok
 have HAM:=Hq hA
 have hml:=hm.lt
 clear h hp hok hA hm hc htv hx hxt hb
 go_enter Tryz.func138,Tryz.ntmps138
 go_wp2_with (go_at_call 139;refine(mqI r M A cap l hMr HAM.out x cv a n st _ ok HK.out H0.out HP0.out HM.out ha hn).mono ?_;refine aqa ?_)
 refine aqb ?_
 intro e w1 hq
 rcases hq.cases with⟨pa,er,hp,hb,rfl⟩ | ⟨y,s1,hp,hb,rfl,⟨cv1,tv1,h1,h2⟩,hs⟩
 ·have HP:=Hq hp
  have HA1:=Hq hb
  clear hp hb
  go_wp2_with fail
  exact(show _∧_ from⟨rfl,aqw HP.out HA1.out⟩)
 have HP:=Hq hp
 have HA1:=Hq hb
 have HT:=Hq (show nq7 lo b M r y w1 from⟨HB.out.but hb.but Sd,cv1,tv1,h1,⟨h2.hcode.mono fun g _ hg=>by omega,h2.htraps.mono fun g _ hg=>by omega⟩,fun hf=>by
  have:=kq4 hp
  rw [hf] at this
  cases this⟩)
 have HS:=Hq hs
 clear hp hb h1 h2 hs hq
 go_wp2_with fail
 go_end0
 exact eqB HP.out HA1.out HT.out HS.out
theorem jq5:iqp:=by
 intro r A cap l st w ok hok h hp
 have hr:=h.lt
 have hA:=fun(a:Addr) (e:A=some a) (h0:0<l.length)=> (show a.block<w.heap.size by
  obtain⟨b,off,e2,hlt,_⟩:=h.rd.hat h0
  rw [e] at e2
  injection e2 with e2
  subst e2
  exact hlt)
 have HA:=Hq hA
 have H0:=Hq h
 have HP0:=Hq hp
 have HK:=Hq hok
 clear h hp hok hA
 go_enter Tryz.func122,Tryz.ntmps122
 go_wp2_with fail
 have hb:=(((Below.refl w.heap.size w).alloc Nr (.cells #[Value.pointer (some ⟨r,0,none⟩)] 173)).alloc Sp (.cells #[Value.int .i64 0, .int .i64 0, .int .i64 0, .bool false, .int .i64 0, .int .i64 0, .slice none 0 0, .slice none 0 0] 91))
 refine fqb (α:=aqr) 91 _ [Value.int .i64 0, .int .i64 0, .int .i64 0, .bool false, .int .i64 0, .int .i64 0, .slice none 0 0, .slice none 0 0] (fun x y z=> [.int .i64 x, .int .i64 y, .int .i64 z, .bool false, .int .i64 0, .int .i64 0, .slice none 0 0, .slice none 0 0]) r w.heap.size (w.heap.size+1) A cap l st w _ (cq5 l st)
  (fun a n d s3=>cqg l (some fqu) (fun m at' long s=>dqp l m at' long s) ⟨a,n,d,false,0,0, [], []⟩ s3) Om Om Om Om hr HA.out ⟨?_, ?_, ?_, ?_⟩ rfl ?_ ?_ ?_ _ rfl rfl rfl _ ?_ ?_ ?_
 ·exact RB.of_below hr hb
 ·exact(aql w _ _).below (Rf9.alloc Nr _) Sp
 ·exact aqh _ _ _ _ Sp
 ·exact H0.out.keep hb
 ·intros;kernel_rfl
 ·intros;kernel_rfl
 ·intro x y z
  exact⟨rfl,by simp [Value.oneCell']⟩
 ·exact fun _ _ _ _ _ h=>h
 ·intro a pa er wk hd hp' hb'
  exact(show _∧_ from⟨hd,aqo hp' hb'⟩)
 intro x1 x2 x3 s3 g wk hs hpo hN hg hge
 simp only [World.size_alloc] at hge
 have HS:=Hq hs
 have HN:=Hq hN
 have HG:=Hq hg
 have HPO:=Hq hpo
 have c_b:=hN.box.cell 0 rfl
 have hbl:=hN.box.lt
 clear hs hN hg hpo hb
 go_wp2_with (go_at_call 123;refine aqa ?_)
 refine aqb ?_
 refine(hqi _ _ _ (by rw [hqo];decide+kernel) [g] (nq7 (w.heap.size+2) w.heap.size g r) (dqp l) r A cap l s3 ⟨x1,x2,x3,false,0,0, [], []⟩ _ (fun q=>ok q∧q<w.heap.size) ?_ ?_ ?_ ?_ HN.out.rd ?_ ⟨HN.out.box,_,_,HG.out,⟨cqY _ _ _,cqY _ _ _⟩,fun _=>rfl⟩).mono ?_
 ·intro q hq
  exact⟨HK.out q hq.1,by simp;omega⟩
 ·intro x W W' hT hB
  exact hT.but hB Om Om Om
 ·intro x a n s
  exact gql l x a n s
 ·intro a n s W hR hP hT ha hn
  exact iqr (w.heap.size+2) w.heap.size g r A cap l Om Om Om Om (fun q e h0=>by have:=HA.out q e h0;omega) _ rfl rfl a n s W (fun q=>ok q∧q<w.heap.size) (fun q hq=> ⟨HK.out q hq.1,by omega⟩) (by obtain⟨_,_,_,h3,_⟩:=hT;have:=h3.lt;omega) hR hP hT ha hn
 ·rw [HPO.out]
  obtain⟨pv,h1,h2⟩:=HP0.out
  exact⟨pv,HN.out.rb.c4.trans h1,(h2.mono fun q hq hk=> ⟨hk,hq⟩).keep (aqC.of_but HN.out.rb.but fun q hq=>aqk (HK.out q hq.1))⟩
 intro e w4 hq
 rw [hqo] at hq
 rcases hq.cases with⟨pa,er,hp',hb,rfl⟩ | ⟨x4,s4,hp',hb,rfl,ht,hs⟩
 ·exact(show _∧_ from⟨rfl,aqo (HS.out.trans hp') (mqG HN.out.rb hb Om)⟩)
 obtain⟨_,cv,tv,hfl,hme,_⟩:=ht
 have HP4:=Hq (HS.out.trans hp')
 have X_n:=Hq (HN.out.res.but hb.but Sd)
 have HB:=Hq hb
 have HS4:=Hq hs
 have HME:=Hq hme
 have hv1:cv.oneCell'=true:=by obtain⟨_,_,rfl,_⟩:=hme.hcode;rfl
 have hv2:tv.oneCell'=true:=by obtain⟨_,_,rfl,_⟩:=hme.htraps;rfl
 obtain⟨Ac,cc,rfl,_⟩:=id hme.hcode
 obtain⟨At,ct,rfl,_⟩:=id hme.htraps
 have c0:=hfl.cell 0 rfl
 have c1:=hfl.cell 1 rfl
 have c2:=hfl.cell 2 rfl
 have c3:=hfl.cell 3 rfl
 have c4:=hfl.cell 4 rfl
 have c5:=hfl.cell 5 rfl
 have c6:=hfl.cell 6 rfl
 have c7:=hfl.cell 7 rfl
 clear hp' hb hfl hme hs hq c_b hv1 hv2
 have n0:=X_n.out.cell 0 rfl
 have z0:=X_n.out.frozen 0
 have n1:=X_n.out.cell 1 rfl
 have z1:=X_n.out.frozen 1
 have n2:=X_n.out.cell 2 rfl
 have z2:=X_n.out.frozen 2
 have n3:=X_n.out.cell 3 rfl
 have z3:=X_n.out.frozen 3
 have n4:=X_n.out.cell 4 rfl
 have z4:=X_n.out.frozen 4
 have n5:=X_n.out.cell 5 rfl
 have z5:=X_n.out.frozen 5
 have n6:=X_n.out.cell 6 rfl
 have z6:=X_n.out.frozen 6
 have n7:=X_n.out.cell 7 rfl
 have z7:=X_n.out.frozen 7
 go_wp2_with fail
 have hA': ∀a,A=some a→0<l.length→a.block≠w.heap.size+1:=fun a e h0=>by have:=HA.out a e h0;omega
 refine bodyPost_ret (v:=bqL x4 _ _) (eqs rfl rfl ((((((((X_n.out.set 0 _).set 1 _).set 2 _).set 3 _).set 4 _).set 5 _).set 6 _).set 7 _) rfl rfl Kq9) rfl ?_
 exact bqw HP4.out (((((((((mqG HN.out.rb HB.out Om).set _ Sp Sd _).set _ Sp Sd _).set _ Sp Sd _).set _ Sp Sd _).set _ Sp Sd _).set _ Sp Sd _).set _ Sp Sd _).set _ Sp Sd _) ⟨_,_,rfl,⟨((HME.out.hcode.mono (ok':=fun g=>w.heap.size+2≤g) fun q _ hq=>hq.1).keep (aqC.of_but (((((((((But.refl _ [w.heap.size+1] w4).set ⟨w.heap.size+1,0,none⟩ (.inl Sp) _).set ⟨w.heap.size+1,1,none⟩ (.inl Sp) _).set ⟨w.heap.size+1,2,none⟩ (.inl Sp) _).set ⟨w.heap.size+1,3,none⟩ (.inl Sp) _).set ⟨w.heap.size+1,4,none⟩ (.inl Sp) _).set ⟨w.heap.size+1,5,none⟩ (.inl Sp) _).set ⟨w.heap.size+1,6,none⟩ (.inl Sp) _).set ⟨w.heap.size+1,7,none⟩ (.inl Sp) _) (fun q hq hm=>by simp at hm;omega))).mono fun q _ hq=>by omega,((HME.out.htraps.mono (ok':=fun g=>w.heap.size+2≤g) fun q _ hq=>hq.1).keep (aqC.of_but (((((((((But.refl _ [w.heap.size+1] w4).set ⟨w.heap.size+1,0,none⟩ (.inl Sp) _).set ⟨w.heap.size+1,1,none⟩ (.inl Sp) _).set ⟨w.heap.size+1,2,none⟩ (.inl Sp) _).set ⟨w.heap.size+1,3,none⟩ (.inl Sp) _).set ⟨w.heap.size+1,4,none⟩ (.inl Sp) _).set ⟨w.heap.size+1,5,none⟩ (.inl Sp) _).set ⟨w.heap.size+1,6,none⟩ (.inl Sp) _).set ⟨w.heap.size+1,7,none⟩ (.inl Sp) _) (fun q hq hm=>by simp at hm;omega))).mono fun q _ hq=>by omega⟩⟩
  ((((((((HS4.out.other _ _ Sd hA').other _ _ Sd hA').other _ _ Sd hA').other _ _ Sd hA').other _ _ Sd hA').other _ _ Sd hA').other _ _ Sd hA').other _ _ Sd hA')
def Bad {α:Type} (p:Rx α):Prop:= ∀a er,p= .error (a,er)→er≠0∧er≠12
theorem cqk {α:Type} {a er:Nat} (h:er≠0∧er≠12):Bad (.error (a,er):Rx α):=fun _ _ e=>by
 injection e with e
 injection e with _ e
 subst e
 exact h
theorem cqD {α:Type} (x:α×Rs):Bad (.ok x):=fun _ _ e=>by cases e
theorem aqp {α β:Type} {p:Rx α} {f:α→Rs→Rx β} (hp:Bad p) (hf: ∀x s,Bad (f x s)):Bad (Rx.bind p f):=by
 intro a er h
 rcases p with⟨a',er'⟩ | ⟨x,s⟩
 ·injection h with h
  injection h with h1 h2
  subst h1
  subst h2
  exact hp _ _ rfl
 exact hf x s a er h
theorem bqR {α:Type} {c:Prop} [Decidable c] {p q:Rx α} (h1:Bad p) (h2:Bad q):Bad (if c then p else q):=by
 split
 ·exact h1
 exact h2
theorem eqD (l:List UInt8) (n:Nat) (st:Rs):Bad (aqP l n st):=bqR (cqk Om) (bqR (cqk Om) (cqD _))
theorem aqT (l:List UInt8) (n:Nat) (st:Rs):Bad (aqS l n st):=aqp (eqD l n st) fun _ _=>cqD _
theorem dqU (l:List UInt8) (m:Nat) (st:Rs):Bad (bqo l m st):=aqp (aqT l 2 st) fun _ _=>bqR (cqk Om) (cqD _)
theorem oqJ (l:List UInt8) (st:Rs):Bad (koP l st):=aqp (aqT l 1 st) fun _ _=>bqR (aqp (aqT _ _ _) fun _ _=>aqp (eqD _ _ _) fun _ _=>cqD _)
 (bqR (aqp (aqT _ _ _) fun _ _=>cqD _) (bqR (aqp (aqT _ _ _) fun _ _=>cqD _) (bqR (aqp (aqT _ _ _) fun _ _=>aqp (aqT _ _ _) fun _ _=>cqD _) (cqk Om))))
theorem eqV {α:Type} {f:Rs→Rx α} (hf: ∀st,Bad (f st)): ∀(k:Nat) (st:Rs),Bad (bqO f k st)
 |0,_=>cqD _
 |k+1,st=>aqp (hf st) fun _ _=>aqp (eqV hf k _) fun _ _=>cqD _
theorem mqJ (l:List UInt8) (st:Rs):Bad (dqS l st):=aqp (aqT l 2 st) fun _ _=>by
 split
 ·exact cqk Om
 exact bqR (cqD _) (cqk Om)
theorem gqP {σ:Type} (l:List UInt8) (want:Option (List UInt8)) {act:σ→Nat→Nat→Rs→Rx σ} (ha: ∀x a n st,Bad (act x a n st)): ∀(k:Nat) (seen:Bool) (x:σ) (st:Rs),Bad (bqX l want act k seen x st)
 |0,_,_,_=>cqD _
 |k+1,seen,x,st=>aqp (mqJ l st) fun _ _=>bqR (cqk Om) (aqp (aqT _ _ _) fun _ _=>bqR (aqp (ha _ _ _ _) fun _ _=>gqP l want ha k _ _ _) (aqp (eqD _ _ _) fun _ _=>gqP l want ha k _ _ _))
theorem fqB {σ:Type} (l:List UInt8) (want:Option (List UInt8)) {act:σ→Nat→Nat→Rs→Rx σ} (ha: ∀x a n st,Bad (act x a n st)) (x:σ) (st:Rs):Bad (cqg l want act x st):=aqp (aqT l 2 st) fun _ _=>gqP l want ha _ _ _ _
theorem jqu (l:List UInt8) (st:Rs):Bad (eqj l st):=fqB l none (fun _ _ _ _=>cqD _) () st
theorem kq5 (l:List UInt8) (st:Rs):Bad (bqY l st):=aqp (aqT l 2 st) fun _ _=>aqp (aqT _ _ _) fun _ _=>aqp (aqT _ _ _) fun _ _=>fqB l _ (fun _ _ _ _=>bqR (cqk Om) (aqp (aqT _ _ _) fun _ _=>cqD _)) _ _
theorem mqK (l:List UInt8) (st:Rs):Bad (dqa l st):=aqp (aqT l 2 st) fun _ _=>aqp (aqT _ _ _) fun _ _=>aqp (aqT _ _ _) fun _ _=>aqp (aqT _ _ _) fun _ _=>cqD _
theorem mqL (l:List UInt8) (m:aqr) (a n:Nat) (st:Rs):Bad (dqp l m a n st):=aqp (aqT _ _ _) fun _ _=>aqp (aqT _ _ _) fun _ _=>aqp (aqT _ _ _) fun _ _=>bqR (cqk Om)
 (aqp (eqD _ _ _) fun _ _=>aqp (dqU _ _ _) fun _ _=>aqp (eqV (mqK l) _ _) fun _ _=>aqp (jqu _ _) fun _ _=>bqR (cqk Om) (cqD _))
theorem mqM (l:List UInt8) (st:Rs):Bad (cq5 l st):=aqp (aqT l 2 st) fun _ _=>aqp (aqT _ _ _) fun _ _=>aqp (aqT _ _ _) fun _ _=>fqB l _ (fun m a n s=>mqL l m a n s) _ _
theorem kq6 (l:List UInt8) (st:Rs):Bad (bqP l st):=aqp (aqT l 4 st) fun _ _=>bqR (cqk Om) (aqp (aqT _ _ _) fun _ _=>aqp (aqT _ _ _) fun _ _=>aqp (dqU _ _ _) fun _ _=>bqR (cqk Om)
 (aqp (eqV (oqJ l) _ _) fun _ _=>aqp (aqT _ _ _) fun _ _=>aqp (aqT _ _ _) fun _ _=>aqp (aqT _ _ _) fun _ _=>aqp (dqU _ _ _) fun _ _=>aqp (eqV (aqT l 2) _ _) fun _ _=>
  aqp (dqU _ _ _) fun _ _=>aqp (eqV (kq5 l) _ _) fun _ _=>aqp (dqU _ _ _) fun _ _=>aqp (eqV (mqM l) _ _) fun _ _=>aqp (jqu _ _) fun _ _=>bqR (cqk Om) (cqD _)))
theorem kq7 {l:List UInt8} {a er:Nat} (h:bq6 l= .error (a,er)):er≠0∧er≠12:=by
 unfold bq6 at h
 split at h
 ·injection h with h
  injection h with _ h
  subst h
  omega
 split at h
 ·rename_i e he
  injection h with h
  subst h
  exact kq6 l _ _ _ he
 cases h
def aqt (pool:List Ko) (n tag:Int):Option Ko:=if n<1 then none else match pool[(n - 1).toNat]? with
 |none=>none
 |some k=>if k.tag=tag then some k else none
def aqY:Ko:=⟨0,⟨#[]⟩,0,0,0⟩
def bqc (o:Option Ko):Value:= .tuple #[koV (o.getD aqY), .bool o.isSome]
theorem cql {w:World} {ok:Nat→Prop} {pool:List Ko} {A:Option Addr} {cap:Nat} (h:bqm w ok 5 pool.length (pool.flatMap Ko.cells) (.slice A pool.length cap)): ∀(k:Nat) (x:Ko),pool[k]?=some x→ ∃b off,A=some ⟨b,off,none⟩∧b<w.heap.size∧
  w.cell? ⟨b,off+k*5,none⟩=some (.int .i64 x.tag)∧w.cell? ⟨b,off+k*5+1,none⟩=some (.string x.text)∧w.cell? ⟨b,off+k*5+2,none⟩=some (.int .i64 x.num)∧w.cell? ⟨b,off+k*5+3,none⟩=some (.int .i64 x.a)∧w.cell? ⟨b,off+k*5+4,none⟩=some (.int .i64 x.b):=by
 intro k x hk
 obtain⟨A',cap',e,_,_,_,h5⟩:=h
 injection e with e1 _ _
 subst e1
 obtain⟨b,off,e,hlt,_,hc⟩:=h5 (by have:=(List.getElem?_eq_some_iff.1 hk).1;omega)
 have hr:=cqL Ko.cells 5 (fun _=>rfl) pool k x hk
 exact⟨b,off,e,hlt,hc _ _ ((hr 0 Om).trans rfl),hc _ _ ((hr 1 Om).trans rfl),hc _ _ ((hr 2 Om).trans rfl),hc _ _ ((hr 3 Om).trans rfl),hc _ _ ((hr 4 Om).trans rfl)⟩
def bqb (c:aqc) (pool ifs flds mths:Value):Value:= .agg #[.int .i64 c.minor, .int .i64 c.major,pool, .int .i64 c.acc, .int .i64 c.this, .int .i64 c.sup,ifs,flds,mths]
theorem bq7 (c:aqc) (A:Option Addr) (cap:Nat) (ifs flds mths:Value) (n tag:Int) (ok:Nat→Prop) (w:World) (h:bqm w ok 5 c.pool.length (c.pool.flatMap Ko.cells) (.slice A c.pool.length cap)) (hifs:ifs.oneCell'=true) (hflds:flds.oneCell'=true) (hmths:mths.oneCell'=true) (hn:n≤4611686018427387904) (hn0: -4611686018427387904≤n):
  Calls Tryz.prog 98 #[bqb c (.slice A c.pool.length cap) ifs flds mths, .int .i64 n, .int .i64 tag] w fun e w'=>e= .returned (bqc (aqt c.pool n tag))∧Below w.heap.size w w':=by
 have hmax:c.pool.length≤1048576:=by
  obtain⟨_,_,_,_,h2,_⟩:=h
  exact h2
 have hcap:c.pool.length≤cap:=by
  obtain⟨_,_,e,h1,_⟩:=h
  injection e with _ _ e
  subst e
  exact h1
 have hcell:=cql h
 have HC:=Hq hcell
 clear h hcell
 obtain⟨mi,ma,pool,acc,th,su,fi,ff,fm⟩:=c
 simp only at hmax hcap HC⊢
 unfold bqb
 simp only
 by_cases h1:n<1
 ·have HP:=Hq (show aqt pool n tag=none by unfold aqt;rw [if_pos h1])
  go_enter Tryz.func98,Tryz.ntmps98
  go_wp2_with fail
  refine bodyPost_ret (v:=bqc none) (by simp [bqc,koV,aqY,results,Tryz.results98,go_sem]) rfl ⟨by rw [HP.out],(Rf9.alloc Nr _).alloc Sp _⟩
 obtain⟨k,rfl⟩: ∃k:Nat,n=(k:Int)+1:=⟨(n - 1).toNat,by omega⟩
 have hb1:decide ((k:Int)+1<1)=false:=by simp;omega
 rcases hx:pool[k]? with _|x
 ·have hge:pool.length≤k:=by simpa using hx
  have HP:=Hq (show aqt pool ((k:Int)+1) tag=none by unfold aqt;rw [if_neg h1,show((k:Int)+1 - 1).toNat=k by omega,hx])
  have hb2:decide ((pool.length:Int) < (k:Int)+1)=true:=by simp;omega
  have hgt:(pool.length:Int) < (k:Int)+1:=by omega
  have HX:=Hq hx
  clear hx
  go_enter Tryz.func98,Tryz.ntmps98
  go_wp2_with fail
  refine bodyPost_ret (v:=bqc none) (by simp [bqc,koV,aqY,results,Tryz.results98,go_sem]) rfl ⟨by rw [HP.out],(Rf9.alloc Nr _).alloc Sp _⟩
 have hlt:k<pool.length:=(List.getElem?_eq_some_iff.1 hx).1
 have hb2:decide ((pool.length:Int) < (k:Int)+1)=false:=by simp;omega
 have hgt: ¬(pool.length:Int) < (k:Int)+1:=by omega
 obtain⟨b,off,rfl,hbl,c0,c1,c2,c3,c4⟩:=HC.out k x hx
 obtain⟨x1,x2,x3,x4,x5,x6,x7,x8,x9,x10,x11,x12⟩:=far b w.heap.size hbl
 by_cases ht:x.tag=tag
 ·have HP:=Hq (show aqt pool ((k:Int)+1) tag=some x by unfold aqt;rw [if_neg h1,show((k:Int)+1 - 1).toNat=k by omega,hx];simp [ht])
  subst ht
  clear hx
  go_enter Tryz.func98,Tryz.ntmps98
  go_wp2_with fail
  refine bodyPost_ret (v:=bqc (some x)) (by simp [bqc,koV,aqY,results,Tryz.results98,go_sem]) rfl ⟨by rw [HP.out],(Rf9.alloc Nr _).alloc Sp _⟩
 have HP:=Hq (show aqt pool ((k:Int)+1) tag=none by unfold aqt;rw [if_neg h1,show((k:Int)+1 - 1).toNat=k by omega,hx];simp [ht])
 have hb3:(x.tag !=tag)=true:=by simp [ht]
 clear hx ht
 go_enter Tryz.func98,Tryz.ntmps98
 go_wp2_with fail
 refine bodyPost_ret (v:=bqc none) (by simp [bqc,koV,aqY,results,Tryz.results98,go_sem]) rfl ⟨by rw [HP.out],(Rf9.alloc Nr _).alloc Sp _⟩
structure aqQ (w:World) (ok:Nat→Prop) (c:aqc) (A:Option Addr) (cap:Nat) (ifs flds mths:Value):Prop where
 hp:bqm w ok 5 c.pool.length (c.pool.flatMap Ko.cells) (.slice A c.pool.length cap)
 h1:ifs.oneCell'=true
 h2:flds.oneCell'=true
 h3:mths.oneCell'=true
theorem aqQ.below {w w':World} {ok:Nat→Prop} {c:aqc} {A:Option Addr} {cap:Nat} {ifs flds mths:Value} (h:aqQ w ok c A cap ifs flds mths) (hb:Below w.heap.size w w'):aqQ w' ok c A cap ifs flds mths:=⟨h.hp.keep (aqC.of_below hb),h.h1,h.h2,h.h3⟩
def bqA (n:Int):Prop:= -4611686018427387904≤n∧n≤4611686018427387904
def aqf (pool:List Ko) (n:Int):Option ByteArray:=(aqt pool n 1).map (·.text)
def aqE (pool:List Ko) (n:Int):Option ByteArray:=(aqt pool n 7).bind fun k=>aqf pool k.a
def cqh (o:Option ByteArray):Value:= .tuple #[.string (o.getD ⟨#[]⟩), .bool o.isSome]
theorem aqe (c:aqc) (pool ifs flds mths:Value):bqb c pool ifs flds mths= .agg #[.int .i64 c.minor, .int .i64 c.major,pool, .int .i64 c.acc, .int .i64 c.this, .int .i64 c.sup,ifs,flds,mths]:=rfl
theorem aqR (c:aqc) (A:Option Addr) (cap:Nat) (ifs flds mths:Value) (n:Int) (ok:Nat→Prop) (w:World) (h:aqQ w ok c A cap ifs flds mths) (hn:bqA n):
  Calls Tryz.prog 97 #[bqb c (.slice A c.pool.length cap) ifs flds mths, .int .i64 n] w fun e w'=>e= .returned (cqh (aqf c.pool n))∧Below w.heap.size w w':=by
 have H:=Hq (h.below (Rf9.alloc Nr (.cells #[.int .i64 c.minor, .int .i64 c.major, .slice A c.pool.length cap, .int .i64 c.acc, .int .i64 c.this, .int .i64 c.sup,ifs,flds,mths] 179)))
 have HN:=Hq hn
 have HT:=Hq (show aqf c.pool n=(aqt c.pool n 1).map (·.text) from rfl)
 rcases hx:aqt c.pool n 1 with _|x
 all_goals
  have HX:=Hq hx
  clear h hn hx
  rw [aqe]
  go_enter Tryz.func97,Tryz.ntmps97
  go_wp2_with (go_at_call 98;refine(bq7 c A cap ifs flds mths n 1 ok _ H.out.hp H.out.h1 H.out.h2 H.out.h3 HN.out.2 HN.out.1).mono ?_;rw [HX.out];rintro e w1 ⟨rfl,hb⟩;simp only [bqc,koV,Option.getD_none,Option.getD_some,Option.isSome_none,Option.isSome_some,aqY];have HB:=Hq hb;clear hb)
  go_ret2
  refine⟨?_,((Rf9.alloc Nr _).trans (HB.out.mono Sp)).alloc (by have:=HB.out.size;simp at this;omega) _⟩
  rw [HT.out,HX.out]
  rfl
theorem cqm {pool:List Ko} {n tag:Int} {x:Ko} (h:aqt pool n tag=some x):x∈pool∧x.tag=tag:=by
 unfold aqt at h
 split at h
 ·cases h
 split at h
 ·cases h
 rename_i k hk
 split at h
 ·injection h with h
  subst h
  exact⟨List.mem_of_getElem? hk,by assumption⟩
 cases h
theorem dqV (c:aqc) (A:Option Addr) (cap:Nat) (ifs flds mths:Value) (n:Int) (ok:Nat→Prop) (w:World) (h:aqQ w ok c A cap ifs flds mths) (hn:bqA n) (hf: ∀k∈c.pool,bqA k.a):
  Calls Tryz.prog 96 #[bqb c (.slice A c.pool.length cap) ifs flds mths, .int .i64 n] w fun e w'=>e= .returned (cqh (aqE c.pool n))∧Below w.heap.size w w':=by
 have H:=Hq (h.below (Rf9.alloc Nr (.cells #[.int .i64 c.minor, .int .i64 c.major, .slice A c.pool.length cap, .int .i64 c.acc, .int .i64 c.this, .int .i64 c.sup,ifs,flds,mths] 179)))
 have X0:=Hq (aql w [.int .i64 c.minor, .int .i64 c.major, .slice A c.pool.length cap, .int .i64 c.acc, .int .i64 c.this, .int .i64 c.sup,ifs,flds,mths] 179)
 have HN:=Hq hn
 have HF:=Hq hf
 have HT:=Hq (show aqE c.pool n=(aqt c.pool n 7).bind fun k=>aqf c.pool k.a from rfl)
 rcases hx:aqt c.pool n 7 with _|x
 ·have HX:=Hq hx
  clear h hn hx hf
  rw [aqe]
  go_enter Tryz.func96,Tryz.ntmps96
  go_wp2_with (go_at_call 98;refine(bq7 c A cap ifs flds mths n 7 ok _ H.out.hp H.out.h1 H.out.h2 H.out.h3 HN.out.2 HN.out.1).mono ?_;rw [HX.out];rintro e w1 ⟨rfl,hb⟩;simp only [bqc,koV,Option.getD_none,Option.getD_some,Option.isSome_none,Option.isSome_some,aqY];have HB:=Hq hb;clear hb)
  go_ret2
  refine⟨?_,((Rf9.alloc Nr _).trans (HB.out.mono Sp)).alloc (by have:=HB.out.size;simp at this;omega) _⟩
  rw [HT.out,HX.out]
  rfl
 have HX:=Hq hx
 have HXF:=Hq (HF.out x (cqm hx).1)
 clear h hn hx hf
 rw [aqe]
 go_enter Tryz.func96,Tryz.ntmps96
 go_wp2_with (go_at_call 98;refine(bq7 c A cap ifs flds mths n 7 ok _ H.out.hp H.out.h1 H.out.h2 H.out.h3 HN.out.2 HN.out.1).mono ?_;rw [HX.out];rintro e w1 ⟨rfl,hb⟩;simp only [bqc,koV,Option.getD_none,Option.getD_some,Option.isSome_none,Option.isSome_some,aqY];refine aqa ?_)
 have HB:=Hq hb
 have hz:=hb.size
 simp at hz
 have X1:=Hq (X0.out.below hb Sp)
 have H1:=Hq (H.out.below hb)
 clear hb
 obtain⟨x1,x2,x3,x4,x5,x6,x7,x8,x9,x10,x11,x12⟩:=far w.heap.size w1.heap.size Om
 have c0:=X1.out.cell 0 rfl
 have c1:=X1.out.cell 1 rfl
 have c2:=X1.out.cell 2 rfl
 have c3:=X1.out.cell 3 rfl
 have c4:=X1.out.cell 4 rfl
 have c5:=X1.out.cell 5 rfl
 have c6:=X1.out.cell 6 rfl
 have c7:=X1.out.cell 7 rfl
 have c8:=X1.out.cell 8 rfl
 refine aqb ?_
 go_wp2_with (go_at_call 97;refine aqa ?_)
 refine aqb ?_
 refine(aqR c A cap ifs flds mths x.a ok _ (H1.out.below (Rf9.alloc Nr _)) HXF.out).mono ?_
 rintro e w2 ⟨rfl,hb2⟩
 simp only [cqh]
 have HB2:=Hq hb2
 clear hb2
 go_wp2_with fail
 go_ret2
 refine⟨?_,(((Rf9.alloc Nr _).trans (HB.out.mono Sp)).alloc Om _).trans (HB2.out.mono Sd)⟩
 rw [HT.out,HX.out]
 rfl
def aqJ (a f:Int):Bool:=bits .and .i64 a f !=0
def mqv (a f:Int):Bool:=bits .and .i64 a f==f
theorem bqM (a f:Int) (w:World):Calls Tryz.prog 149 #[.int .i64 a, .int .i64 f] w fun e w'=>e= .returned (.bool (aqJ a f))∧w=w':=by
 go_enter Tryz.func149,Tryz.ntmps149
 go_wp2
 go_ret
 exact⟨rfl,rfl⟩
theorem dqr (a f:Int) (w:World):Calls Tryz.prog 150 #[.int .i64 a, .int .i64 f] w fun e w'=>e= .returned (.bool (mqv a f))∧w=w':=by
 go_enter Tryz.func150,Tryz.ntmps150
 go_wp2
 go_ret
 exact⟨rfl,rfl⟩
def eqW (pool:List Ko) (n:Int):Bool:= !(aqt pool n 7).isSome
def cqy:List UInt8:= [106,97,118,97,47,108,97,110,103,47,79,98,106,101,99,116]
theorem kq8 (c:aqc) (A:Option Addr) (cap:Nat) (ifs flds mths:Value) (ok:Nat→Prop) (w:World) (h:aqQ w ok c A cap ifs flds mths) (hn:bqA c.this):
  Calls Tryz.prog 146 #[bqb c (.slice A c.pool.length cap) ifs flds mths] w fun e w'=>e= .returned (.bool (eqW c.pool c.this))∧Below w.heap.size w w':=by
 have H:=Hq (h.below (Rf9.alloc Nr (.cells #[.int .i64 c.minor, .int .i64 c.major, .slice A c.pool.length cap, .int .i64 c.acc, .int .i64 c.this, .int .i64 c.sup,ifs,flds,mths] 179)))
 have HN:=Hq hn
 rcases hx:aqt c.pool c.this 7 with _|x
 all_goals
  have HX:=Hq hx
  clear h hn hx
  rw [aqe]
  go_enter Tryz.func146,Tryz.ntmps146
  go_wp2_with (go_at_call 98;refine(bq7 c A cap ifs flds mths c.this 7 ok _ H.out.hp H.out.h1 H.out.h2 H.out.h3 HN.out.2 HN.out.1).mono ?_;rw [HX.out];rintro e w1 ⟨rfl,hb⟩;simp only [bqc,koV,Option.getD_none,Option.getD_some,Option.isSome_none,Option.isSome_some,aqY];have HB:=Hq hb;clear hb)
  go_ret
  exact⟨by unfold eqW;rw [HX.out];rfl,((Rf9.alloc Nr _).trans (HB.out.mono Sp)).alloc (by have:=HB.out.size;simp at this;omega) _⟩
theorem kq9 (c:aqc) (A:Option Addr) (cap:Nat) (ifs flds mths:Value) (ok:Nat→Prop) (w:World) (h:aqQ w ok c A cap ifs flds mths) (hn:bqA c.sup):
  Calls Tryz.prog 147 #[bqb c (.slice A c.pool.length cap) ifs flds mths] w fun e w'=>e= .returned (.bool (eqW c.pool c.sup))∧Below w.heap.size w w':=by
 have H:=Hq (h.below (Rf9.alloc Nr (.cells #[.int .i64 c.minor, .int .i64 c.major, .slice A c.pool.length cap, .int .i64 c.acc, .int .i64 c.this, .int .i64 c.sup,ifs,flds,mths] 179)))
 have HN:=Hq hn
 rcases hx:aqt c.pool c.sup 7 with _|x
 all_goals
  have HX:=Hq hx
  clear h hn hx
  rw [aqe]
  go_enter Tryz.func147,Tryz.ntmps147
  go_wp2_with (go_at_call 98;refine(bq7 c A cap ifs flds mths c.sup 7 ok _ H.out.hp H.out.h1 H.out.h2 H.out.h3 HN.out.2 HN.out.1).mono ?_;rw [HX.out];rintro e w1 ⟨rfl,hb⟩;simp only [bqc,koV,Option.getD_none,Option.getD_some,Option.isSome_none,Option.isSome_some,aqY];have HB:=Hq hb;clear hb)
  go_ret
  exact⟨by unfold eqW;rw [HX.out];rfl,((Rf9.alloc Nr _).trans (HB.out.mono Sp)).alloc (by have:=HB.out.size;simp at this;omega) _⟩
def bqD (acc:Int) (sup:Option ByteArray):Bool:=(aqJ acc 512&&(!aqJ acc 1024||aqJ acc 16)) ||mqv acc 1040|| (aqJ acc 512&&(!sup.isSome|| (sup.getD ⟨#[]⟩).toList !=cqy))
theorem lqa (c:aqc) (A:Option Addr) (cap:Nat) (ifs flds mths:Value) (ok:Nat→Prop) (w:World) (h:aqQ w ok c A cap ifs flds mths) (bk bs:Nat) (sup:Option ByteArray) (hk:w.cell? ⟨bk,0,none⟩=some (.bool sup.isSome)) (hs:w.cell? ⟨bs,0,none⟩=some (.string (sup.getD ⟨#[]⟩))) (hbk:bk<w.heap.size) (hbs:bs<w.heap.size):
  Calls Tryz.prog 148 #[bqb c (.slice A c.pool.length cap) ifs flds mths, .pointer (some ⟨bk,0,none⟩), .pointer (some ⟨bs,0,none⟩)] w fun e w'=>e= .returned (.bool (bqD c.acc sup))∧Below w.heap.size w w':=by
 have HW:=Hq ((Below.refl w.heap.size w).alloc Nr (.cells #[.int .i64 c.minor, .int .i64 c.major, .slice A c.pool.length cap, .int .i64 c.acc, .int .i64 c.this, .int .i64 c.sup,ifs,flds,mths] 179))
 obtain⟨x1,x2,x3,x4,x5,x6,x7,x8,x9,x10,x11,x12⟩:=far bk w.heap.size hbk
 obtain⟨y1,y2,y3,y4,y5,y6,y7,y8,y9,y10,y11,y12⟩:=far bs w.heap.size hbs
 obtain⟨kn,hkn⟩: ∃b,sup.isSome=b:=⟨_,rfl⟩
 obtain⟨sp,hsp⟩: ∃b,sup.getD ⟨#[]⟩=b:=⟨_,rfl⟩
 rw [hkn] at hk
 rw [hsp] at hs
 have HB0:Hid (∀acc,bqD acc sup=((aqJ acc 512&&(!aqJ acc 1024||aqJ acc 16)) ||mqv acc 1040|| (aqJ acc 512&&(!kn||sp.toList !=cqy)))):=Hq (fun acc=>by unfold bqD;rw [hkn,hsp])
 clear h hkn hsp
 cases h_f:aqJ c.acc 512 with
 |false=>
  cases h_l:mqv c.acc 1040 with
  |false=>
   have HR:Hid (bqD c.acc sup=false):=Hq (by rw [HB0.out];simp [h_f,h_l])
   have K0:=Hq h_f
   have K1:=Hq h_l
   clear h_f h_l
   rw [aqe]
   go_enter Tryz.func148,Tryz.ntmps148
   go_wp2_with (first| (go_at_call 149;refine(bqM _ _ _).mono ?_;rintro e w1 ⟨rfl,rfl⟩;(try rw [K0.out]);(try rw [K1.out])) | (go_at_call 150;refine(dqr _ _ _).mono ?_;rintro e w1 ⟨rfl,rfl⟩;(try rw [K0.out]);(try rw [K1.out])))
   go_ret
   exact⟨by rw [HR.out];rfl,HW.out⟩
  |true=>
   have HR:Hid (bqD c.acc sup=true):=Hq (by rw [HB0.out];simp [h_f,h_l])
   have K0:=Hq h_f
   have K1:=Hq h_l
   clear h_f h_l
   rw [aqe]
   go_enter Tryz.func148,Tryz.ntmps148
   go_wp2_with (first| (go_at_call 149;refine(bqM _ _ _).mono ?_;rintro e w1 ⟨rfl,rfl⟩;(try rw [K0.out]);(try rw [K1.out])) | (go_at_call 150;refine(dqr _ _ _).mono ?_;rintro e w1 ⟨rfl,rfl⟩;(try rw [K0.out]);(try rw [K1.out])))
   go_ret
   exact⟨by rw [HR.out];rfl,HW.out⟩
 |true=>
  cases h_a:aqJ c.acc 1024 with
  |false=>
   have HR:Hid (bqD c.acc sup=true):=Hq (by rw [HB0.out];simp [h_f,h_a])
   have K0:=Hq h_f
   have K1:=Hq h_a
   clear h_f h_a
   rw [aqe]
   go_enter Tryz.func148,Tryz.ntmps148
   go_wp2_with (first| (go_at_call 149;refine(bqM _ _ _).mono ?_;rintro e w1 ⟨rfl,rfl⟩;(try rw [K0.out]);(try rw [K1.out])) | (go_at_call 150;refine(dqr _ _ _).mono ?_;rintro e w1 ⟨rfl,rfl⟩;(try rw [K0.out]);(try rw [K1.out])))
   go_ret
   exact⟨by rw [HR.out];rfl,HW.out⟩
  |true=>
   cases h_i:aqJ c.acc 16 with
   |true=>
    have HR:Hid (bqD c.acc sup=true):=Hq (by rw [HB0.out];simp [h_f,h_a,h_i])
    have K0:=Hq h_f
    have K1:=Hq h_a
    have K2:=Hq h_i
    clear h_f h_a h_i
    rw [aqe]
    go_enter Tryz.func148,Tryz.ntmps148
    go_wp2_with (first| (go_at_call 149;refine(bqM _ _ _).mono ?_;rintro e w1 ⟨rfl,rfl⟩;(try rw [K0.out]);(try rw [K1.out]);(try rw [K2.out])) | (go_at_call 150;refine(dqr _ _ _).mono ?_;rintro e w1 ⟨rfl,rfl⟩;(try rw [K0.out]);(try rw [K1.out]);(try rw [K2.out])))
    go_ret
    exact⟨by rw [HR.out];rfl,HW.out⟩
   |false=>
    cases h_l:mqv c.acc 1040 with
    |true=>
     have HR:Hid (bqD c.acc sup=true):=Hq (by rw [HB0.out];simp [h_f,h_a,h_i,h_l])
     have K0:=Hq h_f
     have K1:=Hq h_a
     have K2:=Hq h_i
     have K3:=Hq h_l
     clear h_f h_a h_i h_l
     rw [aqe]
     go_enter Tryz.func148,Tryz.ntmps148
     go_wp2_with (first| (go_at_call 149;refine(bqM _ _ _).mono ?_;rintro e w1 ⟨rfl,rfl⟩;(try rw [K0.out]);(try rw [K1.out]);(try rw [K2.out]);(try rw [K3.out])) | (go_at_call 150;refine(dqr _ _ _).mono ?_;rintro e w1 ⟨rfl,rfl⟩;(try rw [K0.out]);(try rw [K1.out]);(try rw [K2.out]);(try rw [K3.out])))
     go_ret
     exact⟨by rw [HR.out];rfl,HW.out⟩
    |false=>
     cases kn with
     |false=>
      have HR:Hid (bqD c.acc sup=true):=Hq (by rw [HB0.out];simp [h_f,h_a,h_i,h_l])
      have K0:=Hq h_f
      have K1:=Hq h_a
      have K2:=Hq h_i
      have K3:=Hq h_l
      clear h_f h_a h_i h_l
      rw [aqe]
      go_enter Tryz.func148,Tryz.ntmps148
      go_wp2_with (first| (go_at_call 149;refine(bqM _ _ _).mono ?_;rintro e w1 ⟨rfl,rfl⟩;(try rw [K0.out]);(try rw [K1.out]);(try rw [K2.out]);(try rw [K3.out])) | (go_at_call 150;refine(dqr _ _ _).mono ?_;rintro e w1 ⟨rfl,rfl⟩;(try rw [K0.out]);(try rw [K1.out]);(try rw [K2.out]);(try rw [K3.out])))
      go_ret
      exact⟨by rw [HR.out];rfl,HW.out⟩
     |true=>
      cases h_q:(sp.toList==cqy) with
      |true=>
       have hqe:sp.toList=cqy:=by simpa using h_q
       have hqb:(sp.toList !=cqy)=false:=by simp [hqe]
       unfold cqy at h_q hqb
       have HR:Hid (bqD c.acc sup=false):=Hq (by rw [HB0.out];simp [h_f,h_a,h_i,h_l,hqe])
       clear hqe
       have K0:=Hq h_f
       have K1:=Hq h_a
       have K2:=Hq h_i
       have K3:=Hq h_l
       clear h_f h_a h_i h_l
       rw [aqe]
       go_enter Tryz.func148,Tryz.ntmps148
       go_wp2_with (first| (go_at_call 149;refine(bqM _ _ _).mono ?_;rintro e w1 ⟨rfl,rfl⟩;(try rw [K0.out]);(try rw [K1.out]);(try rw [K2.out]);(try rw [K3.out])) | (go_at_call 150;refine(dqr _ _ _).mono ?_;rintro e w1 ⟨rfl,rfl⟩;(try rw [K0.out]);(try rw [K1.out]);(try rw [K2.out]);(try rw [K3.out])))
       go_ret
       exact⟨by rw [HR.out];rfl,HW.out⟩
      |false=>
       have hqe: ¬sp.toList=cqy:=by simpa using h_q
       have hqb:(sp.toList !=cqy)=true:=by simp [hqe]
       unfold cqy at h_q hqb
       have HR:Hid (bqD c.acc sup=true):=Hq (by rw [HB0.out];simp [h_f,h_a,h_i,h_l,hqe])
       clear hqe
       have K0:=Hq h_f
       have K1:=Hq h_a
       have K2:=Hq h_i
       have K3:=Hq h_l
       clear h_f h_a h_i h_l
       rw [aqe]
       go_enter Tryz.func148,Tryz.ntmps148
       go_wp2_with (first| (go_at_call 149;refine(bqM _ _ _).mono ?_;rintro e w1 ⟨rfl,rfl⟩;(try rw [K0.out]);(try rw [K1.out]);(try rw [K2.out]);(try rw [K3.out])) | (go_at_call 150;refine(dqr _ _ _).mono ?_;rintro e w1 ⟨rfl,rfl⟩;(try rw [K0.out]);(try rw [K1.out]);(try rw [K2.out]);(try rw [K3.out])))
       go_ret
       exact⟨by rw [HR.out];rfl,HW.out⟩
set_option maxHeartbeats 2000000
def lqb (bk bs:Nat):List Value:= [.int .i64 20, .func (.func 146) #[] #[], .int .i64 20, .func (.func 147) #[] #[], .int .i64 23, .func (.func 148) #[] #[.pointer (some ⟨bk,0,none⟩), .pointer (some ⟨bs,0,none⟩)]]
def fqC (b1 b2 b3:Bool):Int:=if b1 then 20 else if b2 then 20 else if b3 then 23 else 0
theorem jq6 (c:aqc) (A:Option Addr) (cap:Nat) (ifs flds mths:Value) (ok:Nat→Prop) (w:World) (h:aqQ w ok c A cap ifs flds mths) (hn1:bqA c.this) (hn2:bqA c.sup) (g bk bs:Nat) (sup:Option ByteArray) (t:TypeId) (hg:Bx w g (lqb bk bs) t) (hk:w.cell? ⟨bk,0,none⟩=some (.bool sup.isSome)) (hs:w.cell? ⟨bs,0,none⟩=some (.string (sup.getD ⟨#[]⟩))) (hbk:bk<w.heap.size) (hbs:bs<w.heap.size):
  Calls Tryz.prog 145 #[bqb c (.slice A c.pool.length cap) ifs flds mths, .slice (some ⟨g,0,none⟩) 3 3] w fun e w'=>
   e= .returned (.int .i64 (fqC (eqW c.pool c.this) (eqW c.pool c.sup) (bqD c.acc sup)))∧Below w.heap.size w w':=by
 have HW:=Hq ((Below.refl w.heap.size w).alloc Nr (.cells #[.int .i64 c.minor, .int .i64 c.major, .slice A c.pool.length cap, .int .i64 c.acc, .int .i64 c.this, .int .i64 c.sup,ifs,flds,mths] 179))
 have X0:=Hq (aql w [.int .i64 c.minor, .int .i64 c.major, .slice A c.pool.length cap, .int .i64 c.acc, .int .i64 c.this, .int .i64 c.sup,ifs,flds,mths] 179)
 have H0:=Hq (h.below (Rf9.alloc Nr (.cells #[.int .i64 c.minor, .int .i64 c.major, .slice A c.pool.length cap, .int .i64 c.acc, .int .i64 c.this, .int .i64 c.sup,ifs,flds,mths] 179)))
 have G0:=Hq (hg.below (Rf9.alloc Nr (.cells #[.int .i64 c.minor, .int .i64 c.major, .slice A c.pool.length cap, .int .i64 c.acc, .int .i64 c.this, .int .i64 c.sup,ifs,flds,mths] 179)) hg.lt)
 have HK0:=Hq ((World.cell?_alloc_lt w (.cells #[.int .i64 c.minor, .int .i64 c.major, .slice A c.pool.length cap, .int .i64 c.acc, .int .i64 c.this, .int .i64 c.sup,ifs,flds,mths] 179) ⟨bk,0,none⟩ hbk).trans hk)
 have HS0:=Hq ((World.cell?_alloc_lt w (.cells #[.int .i64 c.minor, .int .i64 c.major, .slice A c.pool.length cap, .int .i64 c.acc, .int .i64 c.this, .int .i64 c.sup,ifs,flds,mths] 179) ⟨bs,0,none⟩ hbs).trans hs)
 have HN1:=Hq hn1
 have HN2:=Hq hn2
 have hgl:=hg.lt
 obtain⟨v1,hv1⟩: ∃b,(eqW c.pool c.this)=b:=⟨_,rfl⟩
 obtain⟨v2,hv2⟩: ∃b,(eqW c.pool c.sup)=b:=⟨_,rfl⟩
 obtain⟨v3,hv3⟩: ∃b,bqD c.acc sup=b:=⟨_,rfl⟩
 rw [hv1,hv2,hv3]
 have HV1:=Hq hv1
 have HV2:=Hq hv2
 have HV3:=Hq hv3
 clear h hg hk hs hn1 hn2 hv1 hv2 hv3
 rw [aqe]
 go_enter Tryz.func145,Tryz.ntmps145
 go_wp2_with fail
 refine wp_loop_rounds 4 ?_
 have g0:=G0.out.cell 0 rfl
 have g1:=G0.out.cell 1 rfl
 have c0:=X0.out.cell 0 rfl
 have c1:=X0.out.cell 1 rfl
 have c2:=X0.out.cell 2 rfl
 have c3:=X0.out.cell 3 rfl
 have c4:=X0.out.cell 4 rfl
 have c5:=X0.out.cell 5 rfl
 have c6:=X0.out.cell 6 rfl
 have c7:=X0.out.cell 7 rfl
 have c8:=X0.out.cell 8 rfl
 rw [rounds_succ]
 go_wp2_with (go_at_call 146;refine aqa ?_)
 refine aqb ?_
 refine(kq8 c A cap ifs flds mths ok _ (H0.out.below (Rf9.alloc Nr _)) HN1.out).mono ?_
 rw [HV1.out]
 rintro e w1 ⟨rfl,hb⟩
 have hz1:=hb.size
 simp at hz1
 have HW1:=Hq ((HW.out.alloc Fx9 _).trans (hb.mono Fx9))
 have X1:=Hq ((X0.out.below (Rf9.alloc Nr _) X0.out.lt).below hb Fx9)
 have G1:=Hq ((G0.out.below (Rf9.alloc Nr _) G0.out.lt).below hb Fx9)
 have H1:=Hq ((H0.out.below (Rf9.alloc Nr _)).below hb)
 have HK1:=Hq ((hb.cell (p:=⟨bk,0,none⟩) Sd).trans ((World.cell?_alloc_lt _ _ _ Sd).trans HK0.out))
 have HS1:=Hq ((hb.cell (p:=⟨bs,0,none⟩) Sd).trans ((World.cell?_alloc_lt _ _ _ Sd).trans HS0.out))
 have R1:=Hq ((aqh (w.alloc (.cells #[.int .i64 c.minor, .int .i64 c.major, .slice A c.pool.length cap, .int .i64 c.acc, .int .i64 c.this, .int .i64 c.sup,ifs,flds,mths] 179)) [.int .i64 20, .func (.func 146) #[] #[]] 213 (w.heap.size+1) Sp).below hb Fx9)
 have r0:=R1.out.cell 0 rfl
 clear hb c0 c1 c2 c3 c4 c5 c6 c7 c8 g0 g1
 cases v1 with
 |true=>
  go_wp2_with fail
  go_ret
  exact⟨rfl,HW1.out⟩
 |false=>
  go_wp2_with fail
  have g2:=G1.out.cell 2 rfl
  have g3:=G1.out.cell 3 rfl
  have c0:=X1.out.cell 0 rfl
  have c1:=X1.out.cell 1 rfl
  have c2:=X1.out.cell 2 rfl
  have c3:=X1.out.cell 3 rfl
  have c4:=X1.out.cell 4 rfl
  have c5:=X1.out.cell 5 rfl
  have c6:=X1.out.cell 6 rfl
  have c7:=X1.out.cell 7 rfl
  have c8:=X1.out.cell 8 rfl
  obtain⟨f1,f2,f3,f4,f5,f6,f7,f8,f9,f10,f11,f12⟩:=far w.heap.size w1.heap.size Om
  obtain⟨q1,q2,q3,q4,q5,q6,q7,q8,q9,q10,q11,q12⟩:=far g w1.heap.size Om
  rw [rounds_succ]
  go_wp2_with (go_at_call 147;refine aqa ?_)
  refine aqb ?_
  refine(kq9 c A cap ifs flds mths ok _ (H1.out.below (Rf9.alloc Nr _)) HN2.out).mono ?_
  rw [HV2.out]
  rintro e w2 ⟨rfl,hb⟩
  have hz2:=hb.size
  simp at hz2
  have hq2:w.heap.size<w2.heap.size:=by omega
  have HW2:=Hq ((HW1.out.alloc Fx9 _).trans (hb.mono Fx9))
  have X2:=Hq ((X1.out.below (Rf9.alloc Nr _) X1.out.lt).below hb Fx9)
  have G2:=Hq ((G1.out.below (Rf9.alloc Nr _) G1.out.lt).below hb Fx9)
  have H2:=Hq ((H1.out.below (Rf9.alloc Nr _)).below hb)
  have HK2:=Hq ((hb.cell (p:=⟨bk,0,none⟩) Sd).trans ((World.cell?_alloc_lt _ _ _ Sd).trans HK1.out))
  have HS2:=Hq ((hb.cell (p:=⟨bs,0,none⟩) Sd).trans ((World.cell?_alloc_lt _ _ _ Sd).trans HS1.out))
  have R2:=Hq ((aqh w1 [.int .i64 20, .func (.func 147) #[] #[]] 213 (w1.heap.size) Sp).below hb Fx9)
  have r0:=R2.out.cell 0 rfl
  clear hb c0 c1 c2 c3 c4 c5 c6 c7 c8 g2 g3
  cases v2 with
  |true=>
   go_wp2_with fail
   go_ret
   exact⟨rfl,HW2.out⟩
  |false=>
   go_wp2_with fail
   have g4:=G2.out.cell 4 rfl
   have g5:=G2.out.cell 5 rfl
   have c0:=X2.out.cell 0 rfl
   have c1:=X2.out.cell 1 rfl
   have c2:=X2.out.cell 2 rfl
   have c3:=X2.out.cell 3 rfl
   have c4:=X2.out.cell 4 rfl
   have c5:=X2.out.cell 5 rfl
   have c6:=X2.out.cell 6 rfl
   have c7:=X2.out.cell 7 rfl
   have c8:=X2.out.cell 8 rfl
   obtain⟨f1,f2,f3,f4,f5,f6,f7,f8,f9,f10,f11,f12⟩:=far w.heap.size w2.heap.size Om
   obtain⟨q1,q2,q3,q4,q5,q6,q7,q8,q9,q10,q11,q12⟩:=far g w2.heap.size Om
   rw [rounds_succ]
   go_wp2_with (go_at_call 148;refine aqa ?_)
   refine aqb ?_
   refine(lqa c A cap ifs flds mths ok _ (H2.out.below (Rf9.alloc Nr _)) bk bs sup ((World.cell?_alloc_lt _ _ _ Sd).trans HK2.out) ((World.cell?_alloc_lt _ _ _ Sd).trans HS2.out) Sd Sd).mono ?_
   rw [HV3.out]
   rintro e w3 ⟨rfl,hb⟩
   have hz3:=hb.size
   simp at hz3
   have hq3:w.heap.size<w3.heap.size:=by omega
   have HW3:=Hq ((HW2.out.alloc Fx9 _).trans (hb.mono Fx9))
   have X3:=Hq ((X2.out.below (Rf9.alloc Nr _) X2.out.lt).below hb Fx9)
   have G3:=Hq ((G2.out.below (Rf9.alloc Nr _) G2.out.lt).below hb Fx9)
   have H3:=Hq ((H2.out.below (Rf9.alloc Nr _)).below hb)
   have HK3:=Hq ((hb.cell (p:=⟨bk,0,none⟩) Sd).trans ((World.cell?_alloc_lt _ _ _ Sd).trans HK2.out))
   have HS3:=Hq ((hb.cell (p:=⟨bs,0,none⟩) Sd).trans ((World.cell?_alloc_lt _ _ _ Sd).trans HS2.out))
   have R3:=Hq ((aqh w2 [.int .i64 23, .func (.func 148) #[] #[.pointer (some ⟨bk,0,none⟩), .pointer (some ⟨bs,0,none⟩)]] 213 (w2.heap.size) Sp).below hb Fx9)
   have r0:=R3.out.cell 0 rfl
   clear hb c0 c1 c2 c3 c4 c5 c6 c7 c8 g4 g5
   cases v3 with
   |true=>
    go_wp2_with fail
    go_ret
    exact⟨rfl,HW3.out⟩
   |false=>
    go_wp2_with fail
    rw [rounds_succ]
    go_wp2_with fail
    go_ret
    exact⟨rfl,HW3.out⟩
end Go.Proofs.YtdbniocnjhfhdaaGreatDoor
namespace Go.Proofs.YtdbniocnjhfhdaaGreatDoor
open Go Go.RowKit Lib Go.Maps
theorem cqa.no_cell {w:World} {P:Program} {k:TypeId} {b n sz:Nat} {f:List UInt8→Option Value} (h:cqa w P k b n f sz) (o:Nat):w.cell? ⟨b,o,none⟩=none:=by
 obtain⟨D,⟨es,clock,h1,_⟩,_⟩:=h
 simp [World.cell?,h1]
end Go.Proofs.YtdbniocnjhfhdaaGreatDoor
