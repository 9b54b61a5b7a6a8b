/- Part 22 of what the laws rest on: walks. Conditions: those that each theorem names. -/
import Derived.Test.YtdbniocnjhfhdaaGreatDoorB21
set_option linter.unusedSimpArgs false
set_option linter.unusedVariables false
namespace Go.Proofs.YtdbniocnjhfhdaaGreatDoor
open Go Go.RowKit Lib
def aq8 {α:Type} (Q:α→Prop) (x:Rx α):Prop:= ∀a s,x= .ok (a,s)→Q a
theorem aq8.bind {α β:Type} {x:Rx α} {f:α→Rs→Rx β} {Q:α→Prop} {R:β→Prop} (h:aq8 Q x) (hf: ∀a s,Q a→aq8 R (f a s)):aq8 R (Rx.bind x f):=by
 rcases x with e| ⟨a,s⟩
 ·intro b s' hb;cases hb
 exact hf a s (h a s rfl)
theorem aq8.err {α:Type} {Q:α→Prop} (e:Nat×Nat):aq8 Q (.error e:Rx α):=fun a s h=>by cases h
theorem aq8.ok {α:Type} {Q:α→Prop} {a:α} {s:Rs} (h:Q a):aq8 Q (.ok (a,s):Rx α):=fun b s' e=>by cases e;exact h
theorem aq8.ite {α:Type} {Q:α→Prop} {c:Prop} [Decidable c] {x y:Rx α} (h1:c→aq8 Q x) (h2: ¬c→aq8 Q y):aq8 Q (if c then x else y):=by
 by_cases h:c
 ·rw [if_pos h];exact h1 h
 rw [if_neg h];exact h2 h
theorem nqe (l:List UInt8) (x:UInt8):beN (l++ [x])=beN l*256+x.toNat:=by simp [beN]
theorem jqD: ∀n (l:List UInt8),l.length=n→beN l<256^n
 |0,l,h=>by
  obtain rfl:=List.length_eq_zero_iff.1 h
  simp [beN]
 |n+1,l,h=>by
  have hne:l≠ []:=by intro e;subst e;simp at h
  obtain⟨l',x,rfl⟩: ∃l' x,l=l'++ [x]:=⟨_,_,(List.dropLast_concat_getLast hne).symm⟩
  have h':l'.length=n:=by simpa using h
  have:=jqD n l' h'
  have hx:=x.toNat_lt
  rw [nqe,Nat.pow_succ]
  omega
theorem gqx (l:List UInt8) (n:Nat) (st:Rs):aq8 (fun b=>b.length≤n∧b.length≤l.length) (aqP l n st):=by
 unfold aqP
 refine aq8.ite (fun _=> .err _) fun _=>aq8.ite (fun _=> .err _) fun _=> .ok ⟨List.length_take_le _ _, ?_⟩
 rw [List.length_take,List.length_drop]
 omega
theorem aqV (l:List UInt8) (n:Nat) (st:Rs) (hn:n≤4):aq8 (fun v=>v<4294967296) (aqS l n st):=by
 unfold aqS
 refine(gqx l n st).bind fun b s hb=> .ok ?_
 have h1:=jqD _ b rfl
 have h2:256^b.length≤256^4:=Nat.pow_le_pow_right Om Om
 have h3:(256:Nat)^4=4294967296:=by decide
 omega
theorem eqe (l:List UInt8) (m:Nat) (st:Rs):aq8 (fun v=>v≤m) (bqo l m st):=by
 unfold bqo
 exact(aqV l 2 st Om).bind fun n s _=>aq8.ite (fun _=> .err _) fun h=> .ok Om
theorem bqk {n:Nat} (h:n<4294967296):bqA n:=⟨by omega,by omega⟩
theorem cqw:bqA 0:=⟨by decide,by decide⟩
def oqf (n:Int):Prop:=n=1∨n=3∨n=7∨n=9∨n=10∨n=11∨n=12
def lqN (k:Ko):Prop:=bqA k.a∧bqA k.b∧k.text.size≤65536∧oqf k.tag
theorem oqg (l:List UInt8) (st:Rs) (hl:l.length≤65536):aq8 lqN (koP l st):=by
 unfold koP
 refine(aqV l 1 st Om).bind fun t s1 ht=> ?_
 refine aq8.ite (fun _=> ?_) fun _=>aq8.ite (fun _=> ?_) fun _=>aq8.ite (fun _=> ?_) fun _=>aq8.ite (fun h9=> ?_) fun _=> .err _
 ·refine(aqV l 2 s1 Om).bind fun n s2 _=> (gqx l n s2).bind fun b s3 hb=> .ok ⟨cqw,cqw, ?_⟩
  refine⟨?_, .inl rfl⟩
  show b.toArray.size≤65536
  simp
  omega
 ·exact(aqV l 4 s1 Om).bind fun n s2 _=> .ok ⟨cqw,cqw,Nat.zero_le _, .inr (.inl rfl)⟩
 ·exact(aqV l 2 s1 Om).bind fun n s2 hn=> .ok ⟨bqk hn,cqw,Nat.zero_le _, .inr (.inr (.inl rfl))⟩
 exact(aqV l 2 s1 Om).bind fun n s2 hn=> (aqV l 2 s2 Om).bind fun m s3 hm=> .ok ⟨bqk hn,bqk hm,Nat.zero_le _,by unfold oqf;show(t:Int)=1∨(t:Int)=3∨(t:Int)=7∨(t:Int)=9∨(t:Int)=10∨(t:Int)=11∨(t:Int)=12;omega⟩
theorem eqf {α:Type} {f:Rs→Rx α} {Q:α→Prop} (h: ∀s,aq8 Q (f s)): ∀k st,aq8 (fun r=> (∀a∈r,Q a)∧r.length=k) (bqO f k st)
 |0,st=>by
  rw [bqO]
  exact .ok ⟨by simp,rfl⟩
 |k+1,st=>by
  rw [bqO]
  refine(h st).bind fun a s ha=> (eqf h k s).bind fun r s' hr=> .ok ⟨fun x hx=> ?_,by simp [hr.2]⟩
  rcases List.mem_cons.1 hx with rfl|hx
  ·exact ha
  exact hr.1 x hx
theorem fqW {σ:Type} (l:List UInt8) (want:Option (List UInt8)) (act:σ→Nat→Nat→Rs→Rx σ) {Q:σ→Prop} (ha: ∀x a n s,Q x→aq8 Q (act x a n s)): ∀k seen x st,Q x→aq8 Q (bqX l want act k seen x st)
 |0,_,x,st,hx=>by
  rw [bqX]
  exact .ok hx
 |k+1,seen,x,st,hx=>by
  rw [bqX]
  refine aq8.bind (Q:=fun _=>True) (fun _ _ _=>trivial) fun a s1 _=>aq8.ite (fun _=> .err _) fun _=> ?_
  refine aq8.bind (Q:=fun _=>True) (fun _ _ _=>trivial) fun n s2 _=>aq8.ite (fun _=> ?_) fun _=> ?_
  ·exact(ha x a.1 n s2 hx).bind fun x' s3 hx'=>fqW l want act ha k true x' s3 hx'
  exact aq8.bind (Q:=fun _=>True) (fun _ _ _=>trivial) fun _ s3 _=>fqW l want act ha k seen x s3 hx
theorem gqy {σ:Type} (l:List UInt8) (want:Option (List UInt8)) (act:σ→Nat→Nat→Rs→Rx σ) {Q:σ→Prop} (ha: ∀x a n s,Q x→aq8 Q (act x a n s)) (x:σ) (st:Rs) (hx:Q x):aq8 Q (cqg l want act x st):=by
 unfold cqg
 exact aq8.bind (Q:=fun _=>True) (fun _ _ _=>trivial) fun k s _=>fqW l want act ha k false x s hx
def fqX (x:aqq):Prop:=bqA x.name∧bqA x.desc∧bqA x.value
theorem kql (l:List UInt8) (st:Rs):aq8 fqX (bqY l st):=by
 unfold bqY
 refine(aqV l 2 st Om).bind fun a s1 _=> (aqV l 2 s1 Om).bind fun n s2 hn=> (aqV l 2 s2 Om).bind fun d s3 hd=> ?_
 refine gqy l _ _ (fun x at' long s hx=>aq8.ite (fun _=> .err _) fun _=> ?_) _ _ ⟨bqk hn,bqk hd,cqw⟩
 exact(aqV l 2 s Om).bind fun v s' hv=> .ok ⟨hx.1,hx.2.1,bqk hv⟩
def jqE (x:bqK):Prop:=bqA x.lo∧bqA x.hi∧bqA x.tgt∧bqA x.kind
theorem lqO (l:List UInt8) (st:Rs):aq8 jqE (dqa l st):=by
 unfold dqa
 exact(aqV l 2 st Om).bind fun a s1 h1=> (aqV l 2 s1 Om).bind fun b s2 h2=> (aqV l 2 s2 Om).bind fun c s3 h3=> (aqV l 2 s3 Om).bind fun d s4 h4=> .ok ⟨bqk h1,bqk h2,bqk h3,bqk h4⟩
def gqZ (x:aqr):Prop:=bqA x.name∧bqA x.desc∧bqA x.stack∧bqA x.locals∧ ∀t∈x.traps,jqE t
theorem lqP (l:List UInt8) (st:Rs):aq8 gqZ (cq5 l st):=by
 unfold cq5
 refine(aqV l 2 st Om).bind fun a s1 _=> (aqV l 2 s1 Om).bind fun n s2 hn=> (aqV l 2 s2 Om).bind fun d s3 hd=> ?_
 refine gqy l _ _ (fun x at' long s hx=> ?_) _ _ ⟨bqk hn,bqk hd,cqw,cqw,by simp⟩
 unfold dqp
 refine(aqV l 2 _ Om).bind fun sk s1 h1=> (aqV l 2 s1 Om).bind fun lo s2 h2=> (aqV l 4 s2 Om).bind fun k s3 h3=>aq8.ite (fun _=> .err _) fun _=> ?_
 refine aq8.bind (Q:=fun _=>True) (fun _ _ _=>trivial) fun b s4 _=>aq8.bind (Q:=fun _=>True) (fun _ _ _=>trivial) fun k s5 _=> ?_
 refine(eqf (lqO l) k s5).bind fun ts s6 hts=>aq8.bind (Q:=fun _=>True) (fun _ _ _=>trivial) fun _ s7 _=>aq8.ite (fun _=> .err _) fun _=> .ok ⟨hx.1,hx.2.1,bqk h1,bqk h2,hts.1⟩
structure dql (c:aqc):Prop where
 pool: ∀k∈c.pool,lqN k
 this:bqA c.this
 sup:bqA c.sup
 ifs: ∀n∈c.ifs,bqA n
 flds: ∀x∈c.flds,fqX x
 mths: ∀x∈c.mths,gqZ x
structure jqF (c:aqc):Prop where
 npool:c.pool.length≤1024
 nifs:c.ifs.length≤64
 nflds:c.flds.length≤64
 nmths:c.mths.length≤64
theorem eq3 {l:List UInt8} {c:aqc} (h:bq6 l= .ok c):dql c∧jqF c:=by
 unfold bq6 at h
 by_cases hl:65536<l.length
 ·rw [if_pos hl] at h;cases h
 rw [if_neg hl] at h
 have key:aq8 (fun c=>dql c∧jqF c) (bqP l ⟨0,4611686018427387904,0, []⟩):=by
  unfold bqP
  refine aq8.bind (Q:=fun _=>True) (fun _ _ _=>trivial) fun m s0 _=>aq8.ite (fun _=> .err _) fun _=> ?_
  refine aq8.bind (Q:=fun _=>True) (fun _ _ _=>trivial) fun mi s1 _=>aq8.bind (Q:=fun _=>True) (fun _ _ _=>trivial) fun ma s2 _=> ?_
  refine(eqe l 1025 s2).bind fun n s3 hn=>aq8.ite (fun _=> .err _) fun _=> ?_
  refine(eqf (fun s=>oqg l s Om) (n - 1) s3).bind fun pool s4 hp=> ?_
  unfold nq4
  refine aq8.bind (Q:=fun _=>True) (fun _ _ _=>trivial) fun a s5 _=> (aqV l 2 s5 Om).bind fun t s6 ht=> (aqV l 2 s6 Om).bind fun u s7 hu=> ?_
  refine(eqe l 64 s7).bind fun ni s8 hni=> (eqf (fun s=>aqV l 2 s Om) ni s8).bind fun ifs s9 hi=> ?_
  unfold nqP
  refine(eqe l 64 s9).bind fun nf s10 hnf=> (eqf (fun s=>kql l s) nf s10).bind fun flds s11 hf=> ?_
  unfold mqy
  refine(eqe l 64 s11).bind fun nm s12 hnm=> (eqf (fun s=>lqP l s) nm s12).bind fun mths s13 hm=> ?_
  unfold mqx
  refine aq8.bind (Q:=fun _=>True) (fun _ _ _=>trivial) fun _ s14 _=>aq8.ite (fun _=> .err _) fun _=> .ok ?_
  refine⟨⟨hp.1,bqk ht,bqk hu,fun x hx=> ?_,hf.1,hm.1⟩,by have:=hp.2;show pool.length≤1024;omega,by show(ifs.map Int.ofNat).length≤64;rw [List.length_map];omega,by show flds.length≤64;omega,by show mths.length≤64;omega⟩
  obtain⟨y,hy,rfl⟩:=List.mem_map.1 hx
  exact bqk (hi.1 y hy)
 rcases hc:bqP l ⟨0,4611686018427387904,0, []⟩ with e| ⟨c',s⟩
 ·rw [hc] at h;cases h
 rw [hc] at h
 injection h with h
 subst h
 exact key c' s hc
set_option maxRecDepth 100000
set_option maxHeartbeats 1000000
def gqz (pool:List Ko) (k:Ko):Int:=if k.tag=7 then eqM pool k.a else if k.tag=12 then eqN pool k.a k.b else if k.tag=9∨k.tag=10∨k.tag=11 then cqR pool k.tag k.a k.b else 0
def bqI (pool:List Ko) (cacc:Int) (l:List aqq):List NmD:=l.foldl (fun s x=>if fqe pool cacc x then s else cqX pool x.name x.desc::s) []
def bqr (pool:List Ko) (cacc:Int) (l:List aqr):List NmD:=l.foldl (fun s x=>if fqf pool cacc x then s else cqX pool x.name x.desc::s) []
theorem gqA (pool:List Ko) (cacc:Int): ∀(l:List aqq) (s:List NmD),(l.foldl (fun s x=>if fqe pool cacc x then s else cqX pool x.name x.desc::s) s).length≤s.length+l.length
 | [],s=>Nat.le_refl _
 |x::l,s=>by
  rw [List.foldl_cons]
  refine Nat.le_trans (gqA pool cacc l _) ?_
  split<;>simp<;>omega
theorem hqQ (pool:List Ko) (cacc:Int): ∀(l:List aqr) (s:List NmD),(l.foldl (fun s x=>if fqf pool cacc x then s else cqX pool x.name x.desc::s) s).length≤s.length+l.length
 | [],s=>Nat.le_refl _
 |x::l,s=>by
  rw [List.foldl_cons]
  refine Nat.le_trans (hqQ pool cacc l _) ?_
  split<;>simp<;>omega
def aqK (c:aqc):Int:=gqn (gqz c.pool) (fun l x=>dqk c.pool c.acc (bqI c.pool c.acc l) x) (fun l x=>cqC c.pool c.acc (bqr c.pool c.acc l) x) c
theorem jqG (W:World) (b:Nat) (h:W.heap[b]?=some (.map #[] 0)):bqU W b []:=⟨#[],0,h,by
 refine⟨?_, ?_, ?_, ?_, ?_⟩ <;>simp⟩
theorem hqR {s:List NmD} (W W':World) (b:Nat) (h:bqU W b s) (hb:W'.heap[b]?=W.heap[b]?):bqU W' b s:=by
 obtain⟨es,clock,hm,hg⟩:=h
 exact⟨es,clock,hb.trans hm,hg⟩
theorem kqm (c:aqc) (p i f m:Value) (ok:Nat→Prop) (w:World) (h:aqy w ok c p i f m) (hF:dql c):
  Calls Tryz.prog 95 #[bqb c p i f m] w fun e w'=>e= .returned (.int .i64 (aqK c))∧Below w.heap.size w w':=by
 have h':=h.mono (ok':=fun g=>ok g∧g<w.heap.size) fun g hg ho=> ⟨ho,hg⟩
 have hlf:c.flds.length≤1048576:=by obtain⟨A3,k3,e3,q3,z3⟩:=aqd h.hflds;exact z3
 have hlm:c.mths.length≤1048576:=by obtain⟨ms,m1,m2,m3⟩:=h.hmths;obtain⟨A4,k4,e4,q4,z4⟩:=aqd m2;exact z4
 have htx: ∀k∈c.pool,k.text.size≤65536:=fun k hk=> (hF.pool k hk).2.2.1
 refine lqf c p i f m (fun g=>ok g∧g<w.heap.size) w h' (fun g hg=>hg.2) hF.this hF.sup (fun k hk=> (hF.pool k hk).1) hF.ifs htx
  (gqz c.pool) (fun l x=>dqk c.pool c.acc (bqI c.pool c.acc l) x) (fun l x=>cqC c.pool c.acc (bqr c.pool c.acc l) x)
  (fun l b W=>bqU W b (bqI c.pool c.acc l)) (fun l b W=>bqU W b (bqr c.pool c.acc l)) ⟨fun W b hb=>jqG W b hb,fun l b W W' hs hb=>hqR W W' b hs hb⟩ ⟨fun W b hb=>jqG W b hb,fun l b W W' hs hb=>hqR W W' b hs hb⟩
  (fun k hk W hW=> ?_) (fun k x hx W b hW hb hs=> ?_) (fun k x hx W b cv tv hW hM hb hs=> ?_)
 ·obtain⟨A1,k1,rfl,q1,z1⟩:=aqd hW.hpool
  obtain⟨A2,k2,rfl,q2,z2⟩:=aqd hW.hifs
  obtain⟨A3,k3,rfl,q3,z3⟩:=aqd hW.hflds
  obtain⟨ms,m1,m2,m3⟩:=hW.hmths
  obtain⟨A4,k4,rfl,q4,z4⟩:=aqd m2
  have hk':=hF.pool k hk
  have hbo:aqQ W (fun g=>ok g∧g<w.heap.size) c A1 k1 (.slice A2 c.ifs.length k2) (.slice A3 c.flds.length k3) (.slice A4 c.mths.length k4):=⟨hW.hpool,rfl,rfl,rfl⟩
  obtain⟨tag,tx,nu,a,b⟩:=k
  obtain⟨ha,hb,ht,htag⟩:=hk'
  unfold gqz
  simp only at ha hb htag⊢
  rcases htag with rfl|rfl|rfl|rfl|rfl|rfl|rfl
  ·exact eqn c _ _ _ _ ⟨1,tx,nu,a,b⟩ (.inl rfl) W
  ·exact eqn c _ _ _ _ ⟨3,tx,nu,a,b⟩ (.inr rfl) W
  ·exact gqg c A1 k1 _ _ _ _ tx nu a b W hbo ha htx
  ·exact dq2 c A1 k1 _ _ _ _ 9 tx nu a b W hbo ha hb (fun k hk=> ⟨(hF.pool k hk).1,(hF.pool k hk).2.1⟩) htx (.inl rfl)
  ·exact dq2 c A1 k1 _ _ _ _ 10 tx nu a b W hbo ha hb (fun k hk=> ⟨(hF.pool k hk).1,(hF.pool k hk).2.1⟩) htx (.inr (.inl rfl))
  ·exact dq2 c A1 k1 _ _ _ _ 11 tx nu a b W hbo ha hb (fun k hk=> ⟨(hF.pool k hk).1,(hF.pool k hk).2.1⟩) htx (.inr (.inr rfl))
  exact fqU c A1 k1 _ _ _ _ tx nu a b W hbo ha hb htx
 ·obtain⟨A1,k1,rfl,q1,z1⟩:=aqd hW.hpool
  obtain⟨A2,k2,rfl,q2,z2⟩:=aqd hW.hifs
  obtain⟨A3,k3,rfl,q3,z3⟩:=aqd hW.hflds
  obtain⟨ms,m1,m2,m3⟩:=hW.hmths
  obtain⟨A4,k4,rfl,q4,z4⟩:=aqd m2
  have hx':=hF.flds x (List.mem_of_getElem? hx)
  have hl:=gqA c.pool c.acc (c.flds.take k) []
  have hl2:(c.flds.take k).length≤c.flds.length:=List.length_take_le' _ _
  have hst:bqI c.pool c.acc (c.flds.take (k+1))=if fqe c.pool c.acc x then bqI c.pool c.acc (c.flds.take k) else cqX c.pool x.name x.desc::bqI c.pool c.acc (c.flds.take k):=by
   obtain⟨hlt,hg⟩:=List.getElem?_eq_some_iff.1 hx
   rw [List.take_succ_eq_append_getElem hlt,hg]
   unfold bqI
   rw [List.foldl_append]
   rfl
  rw [hst]
  exact kqj c A1 k1 _ _ _ _ x b _ W ⟨hW.hpool,rfl,rfl,rfl⟩ hs (by unfold bqI;simp only [List.length_nil] at hl;omega) hx'.1 hx'.2.1 hx'.2.2 htx
 obtain⟨A1,k1,rfl,q1,z1⟩:=aqd hW.hpool
 obtain⟨A2,k2,rfl,q2,z2⟩:=aqd hW.hifs
 obtain⟨A3,k3,rfl,q3,z3⟩:=aqd hW.hflds
 obtain⟨ms,m1,m2,m3⟩:=hW.hmths
 obtain⟨A4,k4,rfl,q4,z4⟩:=aqd m2
 have hx':=hF.mths x (List.mem_of_getElem? hx)
 have hl:=hqQ c.pool c.acc (c.mths.take k) []
 have hl2:(c.mths.take k).length≤c.mths.length:=List.length_take_le' _ _
 have hst:bqr c.pool c.acc (c.mths.take (k+1))=if fqf c.pool c.acc x then bqr c.pool c.acc (c.mths.take k) else cqX c.pool x.name x.desc::bqr c.pool c.acc (c.mths.take k):=by
  obtain⟨hlt,hg⟩:=List.getElem?_eq_some_iff.1 hx
  rw [List.take_succ_eq_append_getElem hlt,hg]
  unfold bqr
  rw [List.foldl_append]
  rfl
 rw [hst]
 exact iq0 c A1 k1 _ _ _ _ _ x cv tv b _ W ⟨hW.hpool,rfl,rfl,rfl⟩ hM hs (by unfold bqr;simp only [List.length_nil] at hl;omega) hx'.1 hx'.2.1 (fun t ht=> (hx'.2.2.2.2 t ht).2.2.2) htx
def bql (fs:List (List UInt8×List UInt8)) (s:List UInt8):Option (List UInt8):=(fs.find? fun p=>p.1==s).map (·.2)
def lqQ (B:Nat) (L:eqk) (fs:List (List UInt8×List UInt8)) (dn:List (List UInt8)) (v:Nat→Value) (W:World) (r:Option ByteArray×LT) (e:Ending) (W':World):Prop:=
 ∃ts' v',e= .returned (.string (fqP r.1))∧ts'.map TyV.key=r.2.ts∧RfG B L fs ts' r.2.cls v' W'∧fqc dn (ts'.map TyV.name)∧RFr B L v W v' W'
def jqH (W:World) (ok:Nat→Prop) (going:List (List UInt8)) (bv:Value):Prop:=bqm W ok 1 going.length (going.map fun s=> .string ⟨s.toArray⟩) bv
def jqI (fs:List (List UInt8×List UInt8)) (dn:List (List UInt8)) (n:Nat):Prop:= ∀(B:Nat) (L:eqk) (files:List UInt8→Option aqc) (ts:List TyV) (v:Nat→Value) (W:World) (going:List (List UInt8)) (bv:Value) (s:ByteArray),
 RfG B L fs ts (LT.cls ⟨ts.map TyV.key,files⟩) v W→fqc dn (ts.map TyV.name)→jqH W (L.ro v) going bv→s.size≤1048576→(dn.filter fun x=>decide (x∉going)).length<n→going.length+n≤1000→
  Calls Tryz.prog 33 #[.pointer (some ⟨L.r,0,none⟩), .string s,bv] W (lqQ B L fs dn v W (aqM (rdD aqK (bql fs)) n going ⟨ts.map TyV.key,files⟩ s))
theorem RfG.rows {B:Nat} {L:eqk} {fs:List (List UInt8×List UInt8)} {ts:List TyV} {cs:List aqc} {v:Nat→Value} {W:World} (h:RfG B L fs ts cs v W) (h0:0<ts.length): ∃g cap,v 1= .slice (some ⟨g,0,none⟩) ts.length cap∧ts.length≤cap∧g<W.heap.size∧ ∀j t,ts[j]?=some t→ ∀q,q<6→W.cell? ⟨g,j*6+q,none⟩=t.cells[q]?:=by
 have hg:=h.own 1 Om
 rcases h.ht.1.2 with⟨_,h1⟩ | ⟨g,cap,cur,hv,hb,hgb,hnc,hcm,hcs,hx⟩
 ·omega
 have hrow:=h.ht.1
 rw [hv] at hrow hg
 refine⟨g,cap,hv,hnc,(hg g rfl).2.1,fun j t ht q hq=> ?_⟩
 have hl:j<ts.length:=(List.getElem?_eq_some_iff.1 ht).1
 exact(hrow.cellAt (j*6+q) Om).trans (cqI ts j t ht q hq)
theorem nqf (x:Int):(bits .and .i64 x 1 !=0)=decide (bits .and .i64 x 1=1):=by
 rcases lqo x with h|h<;>rw [h] <;>rfl
theorem nqg (ts:List TyK) (frm to:ByteArray):lqt ts frm to=eqX ts frm to:=by
 unfold lqt eqX oqM iqG
 split
 ·rfl
 rw [nqf]
 by_cases h:bits .and .i64 (((ts[(cq9 (ts.map (·.1)) to.toList).toNat]?).map (·.2.2.1)).getD 0) 1=1
 ·rw [if_pos h,decide_eq_true h];rfl
 rw [if_neg h,decide_eq_false h];rfl
theorem lqR (e:ByteArray):((dqv e).toList== [])=false:=by
 have:(dqv e).toList≠ []:=fun h=>by
  have h2:=congrArg List.length h
  rw [ByteArray.toList_eq] at h2
  unfold dqv at h2
  simp at h2
 exact beq_eq_false_iff_ne.2 this
theorem kqn (fs:List (List UInt8×List UInt8)) (dn:List (List UInt8)) (hcnt:dn.length≤64) (n:Nat) (hl:jqI fs dn n) (B:Nat) (L:eqk) (files:List UInt8→Option aqc) (ts:List TyV) (v:Nat→Value) (W:World) (going:List (List UInt8)) (bv:Value) (frm to:ByteArray) (face:Bool)
  (h:RfG B L fs ts (LT.cls ⟨ts.map TyV.key,files⟩) v W) (hk:fqc dn (ts.map TyV.name)) (hbu:jqH W (L.ro v) going bv) (hf:frm.size≤1048576) (hs:to.size≤1048576) (hfu:(dn.filter fun x=>decide (x∉going)).length<n) (hgo:going.length+n≤1000):
  Calls Tryz.prog 61 #[.pointer (some ⟨L.r,0,none⟩), .string frm, .string to,bv, .bool face] W (lqQ B L fs dn v W (bqd (aqM (rdD aqK (bql fs)) n going) ⟨ts.map TyV.key,files⟩ frm to face)):=by
 have HC:=Hq (hl B L files ts v W going bv to h hk hbu hs hfu hgo)
 obtain⟨q,hq⟩: ∃q,aqM (rdD aqK (bql fs)) n going ⟨ts.map TyV.key,files⟩ to=q:=⟨_,rfl⟩
 have HQ:=Hq (show bqd (aqM (rdD aqK (bql fs)) n going) ⟨ts.map TyV.key,files⟩ frm to face=_ by unfold bqd;rw [hq])
 obtain⟨r,hr⟩: ∃r,bqd (aqM (rdD aqK (bql fs)) n going) ⟨ts.map TyV.key,files⟩ frm to face=r:=⟨_,rfl⟩
 rw [hr] at HQ⊢
 rw [hq] at HC
 clear hl h hk hbu hfu hgo hq hr
 go_enter Tryz.func61,Tryz.ntmps61
 go_wp2_with (go_at_call 33;refine aqa ?_)
 refine aqb ?_
 refine HC.out.mono ?_
 rintro e W1 ⟨ts1,v1,rfl,hts,hg,hk,hb⟩
 obtain⟨q1,σ1⟩:=q
 cases q1 with
 |some er=>
  have HR:=Hq (show r=(some er,σ1) from HQ.out)
  have hne:=lqR er
  have HG:=Hq hg
  have HKS:=Hq hk
  have HFR:=Hq hb
  have HTS:=Hq hts
  clear hg hk hb hts HQ HC
  simp only [fqP]
  obtain⟨x,hx⟩: ∃x,dqv er=x:=⟨_,rfl⟩
  rw [hx] at hne⊢
  have HX:=Hq hx
  clear hx
  go_wp2_with fail
  go_ret
  rw [HR.out]
  exact⟨ts1,v1,by rw [←HX.out];rfl,HTS.out,HG.out,HKS.out,HFR.out⟩
 |none=>
  obtain⟨tsk,fl1⟩:=σ1
  simp only at hts
  subst hts
  have HQ1:=Hq (show r=if eqX (ts1.map TyV.key) frm to=false then(some kqc,⟨ts1.map TyV.key,fl1⟩) else if iqH (ts1.map TyV.key) to≠face then(some hqw,⟨ts1.map TyV.key,fl1⟩) else(none,⟨ts1.map TyV.key,fl1⟩) from HQ.out)
  have hkl:=hk.len hcnt
  simp only [List.length_map] at hkl
  obtain⟨g,cap,hv,hcap,hgl,hcell⟩:=hg.rows hkl.1
  have c1:=hg.bx.cell 1 rfl
  rw [hv] at c1
  have HG:=Hq hg
  have HKS:=Hq hk
  have HFR:=Hq hb
  have HCL:=Hq hcell
  obtain⟨sb,hsb⟩: ∃sb,eqX (ts1.map TyV.key) frm to=sb:=⟨_,rfl⟩
  have HSB:=Hq hsb
  rw [hsb] at HQ1
  have hlk:(ts1.map TyV.key).length=ts1.length:=List.length_map _
  have HSC:=Hq (show Calls Tryz.prog 92 #[.slice (some ⟨g,0,none⟩) ts1.length cap, .string frm, .string to] W1 fun e w'=>e= .returned (.bool sb)∧W1=w' by
   have:=lqu g cap (ts1.map TyV.key) frm to W1 Om Om hf hs (fun j t hj=>by
    rw [List.getElem?_map] at hj
    obtain⟨u,hu,rfl⟩:=Option.map_eq_some_iff.1 hj
    exact⟨hcell j u hu 0 Om,hcell j u hu 2 Om⟩)
   rw [hlk,nqg,hsb] at this
   exact this)
  clear hg hk hb hcell HQ HC hsb hlk hv
  simp only [fqP]
  go_wp2_with (go_at_call 92;refine HSC.out.mono ?_;rintro e w1 ⟨rfl,rfl⟩;refine aqa ?_)
  refine aqb ?_
  cases sb
  case false=>
   have HR:=Hq (show r=(some kqc,⟨ts1.map TyV.key,fl1⟩) by rw [HQ1.out];rfl)
   go_wp2_with fail
   go_ret
   rw [HR.out]
   exact⟨ts1,v1,rfl,rfl,HG.out,HKS.out,HFR.out⟩
  case true=>
   have hat: ¬cq9 (ts1.map TyV.name) to.toList<0:=by
    intro ha
    have:=HSB.out
    unfold eqX at this
    rw [show(ts1.map TyV.key).map (·.1)=ts1.map TyV.name by rw [List.map_map];rfl,if_pos ha] at this
    cases this
   obtain⟨k,hk⟩: ∃k:Nat,cq9 (ts1.map TyV.name) to.toList=k:=⟨_,(Int.toNat_of_nonneg Om).symm⟩
   have hkn:=fqK hk
   simp only [List.length_map] at hkn
   have hacc:iqH (ts1.map TyV.key) to=(bits .and .i64 ts1[k].acc 512 !=0):=by
    unfold iqH iqG
    rw [show(ts1.map TyV.key).map (·.1)=ts1.map TyV.name by rw [List.map_map];rfl,hk,Int.toNat_natCast,List.getElem?_map,List.getElem?_eq_getElem hkn]
    rfl
   have h2:W1.cell? ⟨g,k*6+2,none⟩=some (.int .i64 ts1[k].acc):=HCL.out k ts1[k] (List.getElem?_eq_getElem hkn) 2 Om
   have HAT:=Hq (fun m:Nat=> (iqL g ts1.length cap (ts1.map TyV.name) to (W1.drewN m) Sp hcap Om (fun j t ht=>by
    rw [List.getElem?_map] at ht
    obtain⟨u,hu,rfl⟩:=Option.map_eq_some_iff.1 ht
    exact HCL.out j u hu 0 Om)).mono (R':=fun e w'=>e= .returned (.int .i64 k)∧w'=W1.drewN m) fun e w' hq=> ⟨hq.1.trans (by rw [hk]),hq.2.symm⟩)
   rw [hacc] at HQ1
   obtain⟨ac,hac⟩: ∃ac,ts1[k].acc=ac:=⟨_,rfl⟩
   rw [hac] at HQ1 h2
   have hk0:(0:Int)≤(k:Int):=by omega
   have hk1:(k:Int) < (ts1.length:Int):=by omega
   obtain⟨fb,hfb⟩: ∃fb,(bits .and .i64 ac 512 !=0)=fb:=⟨_,rfl⟩
   rw [hfb] at HQ1
   have HB2:=Hq (fun m=>HFR.out.trans (RFr.of_below (v:=v1) HG.out.le (below_drewN (Below.refl W1.heap.size W1) m)))
   have HG2:=Hq (fun m=>HG.out.below (below_drewN (Below.refl W1.heap.size W1) m))
   clear hk hat hacc hac HSB
   go_wp2_with fail
   go_quiet ((go_at_call 16;exact Calls.quiet_of_same (HAT.out _)))
   all_goals
    have HR:=Hq (show r=if fb≠face then(some hqw,⟨ts1.map TyV.key,fl1⟩) else(none,⟨ts1.map TyV.key,fl1⟩) by rw [HQ1.out];rfl)
    clear HQ1
    cases fb<;>cases face
    all_goals
     go_wp2_with fail
     go_ret
     rw [HR.out]
     exact⟨ts1,v1,rfl,rfl,HG2.out _,HKS.out,HB2.out _⟩
set_option maxHeartbeats 2000000
def jqJ:List (List UInt8×List UInt8):=(List.range 24).map fun k=> ((bqS k).1,(bqS k).2.1)
def bqu:Array Value:=(jqJ.flatMap fun p=> [Value.string ⟨p.1.toArray⟩,Value.string ⟨p.2.toArray⟩]).toArray
theorem kqo (w:World):
  Calls Tryz.prog 56 #[] w fun e w'=>e= .returned (.slice (some ⟨w.heap.size,0,none⟩) 24 24)∧w'=w.alloc (.cells bqu 123):=by
 go_enter Tryz.func56,Tryz.ntmps56
 iterate 9 go_step
 apply wp_seq_k;intro K2 hK2
 apply wp_region_lit
 refine jqW 0 (.slice (some ⟨w.heap.size,0,none⟩) 24 24) (w.alloc (.cells bqu 123)) Kq9 ?_
 intro a' h1 h2
 apply hK2
 apply wp_ret
 exact bodyPost_ret (bq8 rfl h1 _) h2 ⟨rfl,rfl⟩
theorem jqK {α:Type} (f g:α→Value): ∀(l:List α) (k:Nat),(l.flatMap fun r=> [f r,g r])[k*2]?=l[k]?.map f∧(l.flatMap fun r=> [f r,g r])[k*2+1]?=l[k]?.map g
 | [],k=>by simp
 |x::l,0=>by simp
 |x::l,k+1=>by
  have ih:=jqK f g l k
  have e: ∀j,((x::l).flatMap fun r=> [f r,g r])[(k+1)*2+j]?=(l.flatMap fun r=> [f r,g r])[k*2+j]?:=fun j=>by
   rw [List.flatMap_cons,List.getElem?_append_right Sd]
   congr 1
   simp
   omega
  have e0:=e 0
  simp only [Nat.add_zero] at e0
  rw [e0,e 1,List.getElem?_cons_succ]
  exact ih
theorem iq1 (w:World) (g:Nat) (hg:w.heap[g]?=some (.cells bqu 123 (0,0))) (k:Nat) (hk:k<24):w.cell? ⟨g,k*2,none⟩=some (.string ⟨(bqS k).1.toArray⟩)∧w.cell? ⟨g,k*2+1,none⟩=some (.string ⟨(bqS k).2.1.toArray⟩):=by
 have h:=jqK (fun p:List UInt8×List UInt8=>Value.string ⟨p.1.toArray⟩) (fun p=>Value.string ⟨p.2.toArray⟩) jqJ k
 have hr:jqJ[k]?=some ((bqS k).1,(bqS k).2.1):=by
  unfold jqJ
  rw [List.getElem?_map,List.getElem?_range hk]
  rfl
 rw [hr] at h
 unfold World.cell?
 rw [hg]
 unfold bqu
 exact⟨by simpa using h.1,by simpa using h.2⟩
theorem kqp (k:Nat) (h:k<24):(bqS k).1.length≤1000∧(bqS k).2.1.length≤1000:=by
 have: ∀k,k<24→(bqS k).1.length≤1000∧(bqS k).2.1.length≤1000:=by decide
 exact this k h
theorem kqq (w:World):Calls Tryz.prog 32 #[] w fun e w'=> ∃g cap ts,e= .returned (.slice (some ⟨g,0,none⟩) 26 cap)∧ts.map TyV.key=bqj∧cqN w w' (.slice (some ⟨g,0,none⟩) 26 cap) ts:=by
 go_enter Tryz.func32,Tryz.ntmps32
 go_wp2_with (go_at_call 56;refine(kqo _).mono ?_;rintro e w1 ⟨rfl,rfl⟩;refine aqa ?_)
 have HB1:=Hq ((Below.refl w.heap.size w).alloc Nr (.cells bqu 123))
 have HP:=Hq (show(w.alloc (.cells bqu 123)).heap[w.heap.size]?=some (.cells bqu 123 (0,0)) from heap_alloc_new _ _)
 have hz1:w.heap.size< (w.alloc (.cells bqu 123)).heap.size:=by simp
 generalize w.alloc (.cells bqu 123)=w1 at*
 refine aqb ?_
 go_wp2_with fail
 go_loopw [2,3] (fun v i wr=> ∃(k:Nat) (ts:List TyV),i= .int .i64 k∧k≤24∧ts.length=k∧Hid (ts.map TyV.key=(List.range k).map bqS)∧Hid (cqN w wr v ts)∧Hid (wr.heap[w.heap.size]?=some (.cells bqu 123 (0,0)))∧Hid (∀g,v.ownBlock=some g→w.heap.size<g)∧w.heap.size<wr.heap.size) (fun _ i _=>24 - (RowKit.intOf i).toNat)
 case atStart=>exact⟨0, [],rfl,by omega,rfl,Hq rfl,Hq ⟨World.ownsRow_nil _ _ _ _,fun g h t ht=>by simp at ht,HB1.out⟩,HP,Hq (fun g h=>by cases h),hz1⟩
 case round=>
  obtain⟨k,ts,rfl,hk,hl,HK,HT,HPr,HG,hzr⟩:=hrel
  by_cases hlt:k<24
  ·obtain⟨p0,p1⟩:=iq1 wr _ HPr.out k hlt
   obtain⟨hn1,hn2⟩:=kqp k hlt
   obtain⟨a,ha⟩: ∃a,(bqS k).1=a:=⟨_,rfl⟩
   obtain⟨b,hb⟩: ∃b,(bqS k).2.1=b:=⟨_,rfl⟩
   rw [ha] at p0 hn1
   rw [hb] at p1 hn2
   have HA:=Hq ha
   have HBk:=Hq hb
   have HTd:=Hq (HT.out.keep ((Below.refl wr.heap.size wr).drew))
   clear ha hb
   go_wp2_with fail
   go_region_law (first
    | (refine aq6 rfl (.tmp 11) (.tmp 25) 31 rfl Tryz.underlying31 cqd rfl Om w.heap.size rfl (((HTd.out.own_at hl).alloc _).alloc _) rfl rfl (fun j u hu=>aqm _ _ _ _ Sp j u hu) Oc Om Mz Om Sd ?_
       intro g3 k3 w3 ho3 hg3 hb3 hgg3))
   all_goals
    have HT3:=Hq (((HTd.out.keep (Rf9.alloc Nr _)).keep (Rf9.alloc Nr _)).snoc_at hl (t:=⟨a,b,33, .slice none 0 0, .slice none 0 0, .slice (some ⟨wr.heap.size,0,none⟩) 1 1, [], [],nq8⟩) ho3 hg3 hgg3 hb3 (fun g hg=>by
     refine⟨cqA _ _ _,cqA _ _ _,⟨_,1,1,rfl,Nat.le_refl _,by omega,rfl,fun _=> ⟨wr.heap.size,0,rfl,by simp;omega, ?_,fun j u hu=> ?_⟩⟩⟩
     ·rcases hg with hg| ⟨_,hg⟩ |hg
      ·have:=(HT.out.own.lt _ hg).2
       omega
      ·rw [hg]
       simp
       omega
      omega
     have hu2:([.int .i64 1, .string ⟨#[60,105,110,105,116,62]⟩, .string ⟨#[40,41,86]⟩, .bool true, .int .i64 0]:List Value)[j]?=some u:=hu
     rw [World.cell?_alloc_lt _ _ _ Sp,Nat.zero_add,cell_of_row _ wr.heap.size j _ _ _ (heap_alloc_new wr.drew _)]
     simpa using hu2))
    have HP3:=Hq (show w3.heap[w.heap.size]?=some (.cells bqu 123 (0,0)) from(hg3.block _ Sd (fun e=>absurd (HG.out _ e.symm) Om)).trans ((((Below.refl wr.heap.size wr.drew).alloc Nr _).alloc Sp _).block w.heap.size hzr|>.trans HPr.out))
    have HG3:=Hq (show∀q,(Value.slice (some ⟨g3,0,none⟩) (k+1) k3).ownBlock=some q→w.heap.size<q from fun q hq=>by
     have e':g3=q:=by simpa [Value.ownBlock] using hq
     subst e'
     rcases hgg3 with e|e
     ·exact HG.out _ e
     simp at e;omega)
    have hz3:=hg3.size
    clear ho3 hg3 hb3 hgg3
    go_wp2_with fail
    go_roundw
    case rel=>
     refine⟨k+1,_,by go_num,by omega,by simp [hl],Hq ?_,HT3,HP3,HG3,by simp at hz3;omega⟩
     rw [List.map_append,HK.out,List.range_succ,List.map_append]
     show _++ [(a,b,_,_)]=_++ [bqS k]
     rw [←HA.out, ←HBk.out]
     rfl
    case measure=>simp [RowKit.intOf];omega
  have hk24:k=24:=by omega
  subst hk24
  go_wp2_with (at_builtin;refine bqi rfl _ _ 31 rfl Tryz.underlying31 cqd rfl Om w.heap.size rfl (((HT.out.own_at hl).alloc _).alloc _) rfl rfl (fun _=> ⟨_,rfl,aqm _ _ _ _ Sp⟩) Oc Om Sm9 Om Sd ?_;intro g3 k3 w3 ho3 hg3 hb3 hgg3 hlt3;refine aqa ?_)
  have HT3:=Hq (((HT.out.keep (Rf9.alloc Nr _)).keep (Rf9.alloc Nr _)).snoc_at hl (t:=⟨[118,109,47,84,97,115,107],dqL++ [79,98,106,101,99,116],1537, .slice none 0 0, .slice none 0 0, .slice (some ⟨wr.heap.size,0,none⟩) 1 1, [], [],lqj⟩) ho3 hg3 hgg3 hb3 (fun g hg=>by
   refine⟨cqA _ _ _,cqA _ _ _,⟨_,1,1,rfl,Nat.le_refl _,by omega,rfl,fun _=> ⟨wr.heap.size,0,rfl,by simp;omega, ?_,fun j u hu=> ?_⟩⟩⟩
   ·rcases hg with hg|hg|hg
    ·have:=(HT.out.own.lt _ hg).2
     omega
    ·obtain⟨hg1,hg2⟩:=hg
     first
      | (simp [Value.ownBlock] at hg1;done)
      | (rw [hg2];simp;omega)
    omega
   have hu2:([.int .i64 1025, .string ⟨#[114,117,110]⟩, .string ⟨#[40,41,86]⟩, .bool false, .int .i64 0]:List Value)[j]?=some u:=hu
   rw [World.cell?_alloc_lt _ _ _ Sp,Nat.zero_add,cell_of_row _ wr.heap.size j _ _ _ (heap_alloc_new _ _)]
   simpa using hu2))
  have hl3:(ts++ [(⟨[118,109,47,84,97,115,107],dqL++ [79,98,106,101,99,116],1537, .slice none 0 0, .slice none 0 0, .slice (some ⟨wr.heap.size,0,none⟩) 1 1, [], [],lqj⟩:TyV)]).length=25:=by simp [hl]
  have hz3:=HT3.out.below.size
  have hz3r:=hg3.size
  simp only [World.size_alloc] at hz3r
  clear ho3 hg3 hb3 hgg3
  refine aqb ?_
  go_wp2_with (at_builtin;refine bqi rfl _ _ 31 rfl Tryz.underlying31 cqd rfl Om w.heap.size rfl (((HT3.out.own_at hl3).alloc _).alloc _) rfl rfl (fun _=> ⟨_,rfl,aqm _ _ _ _ Sp⟩) Oc Om Sm9 Om Sd ?_;intro g4 k4 w4 ho4 hg4 hb4 hgg4 hlt4;refine aqa ?_)
  have HT4:=Hq (((HT3.out.keep (Rf9.alloc Nr _)).keep (Rf9.alloc Nr _)).snoc_at hl3 (t:=⟨[118,109,47,83,121,115],dqL++ [79,98,106,101,99,116],49, .slice none 0 0, .slice none 0 0, .slice (some ⟨w3.heap.size,0,none⟩) 2 2, [], [],sysM⟩) ho4 hg4 hgg4 hb4 (fun g hg=>by
   refine⟨cqA _ _ _,cqA _ _ _,⟨_,2,2,rfl,Nat.le_refl _,by omega,rfl,fun _=> ⟨w3.heap.size,0,rfl,by simp;omega, ?_,fun j u hu=> ?_⟩⟩⟩
   ·rcases hg with hg|hg|hg
    ·have:=(HT3.out.own.lt _ hg).2
     omega
    ·obtain⟨hg1,hg2⟩:=hg
     first
      | (simp [Value.ownBlock] at hg1;done)
      | (rw [hg2];simp;omega)
    omega
   have hu2:([.int .i64 265, .string ⟨#[112,114,105,110,116]⟩, .string ⟨#[40,73,41,86]⟩, .bool false, .int .i64 0, .int .i64 265, .string ⟨#[115,116,97,114,116]⟩, .string ⟨#[40,76,118,109,47,84,97,115,107,59,41,86]⟩, .bool false, .int .i64 0]:List Value)[j]?=some u:=hu
   rw [World.cell?_alloc_lt _ _ _ Sp,Nat.zero_add,cell_of_row _ w3.heap.size j _ _ _ (heap_alloc_new _ _)]
   simpa using hu2))
  clear ho4 hg4 hb4 hgg4
  refine aqb ?_
  go_wp2_with fail
  go_ret
  refine⟨g4,k4,_,rfl, ?_,HT4.out⟩
  rw [List.map_append,List.map_append,HK.out]
  rfl
end Go.Proofs.YtdbniocnjhfhdaaGreatDoor
set_option maxRecDepth 100000
set_option maxHeartbeats 1000000
namespace Go.Proofs.YtdbniocnjhfhdaaGreatDoor
open Go Go.RowKit Lib Go.Maps
theorem kqr (w:World):(zeroValue 27).run Tryz.prog w= .ok (.slice none 0 0) w:=by kernel_rfl
def defE (c o big twice full:Bool):Int:=if !c||o then 21 else if big then 2 else if twice then 24 else if full then 42 else 0
theorem iq2 (lb bd n sz:Nat) (f:List UInt8→Option Value) (s:ByteArray) (A:Option Addr) (len cap:Nat) (w:World) (hlb:lb<w.heap.size) (hc:w.cell? ⟨lb,0,none⟩=some (.map (some bd)))
  (hM:cqa w Tryz.prog 9 bd n f sz) (hs:s.size≤9223372036854775807) (hbad:aq1 s.data.toList=false∨gqr s.data.toList=true):
  Calls Tryz.prog 15 #[.pointer (some ⟨lb,0,none⟩), .string s, .slice A len cap] w fun e w'=>e= .returned (.int .i64 21)∧Below w.heap.size w w':=by
 have hs':s.size≤maxLen:=hs
 obtain⟨V,hV⟩: ∃V,(f s.data.toList).getD (.slice none 0 0)=V:=⟨_,rfl⟩
 obtain⟨T,hT⟩: ∃T,(f s.data.toList).isSome=T:=⟨_,rfl⟩
 have HM:=Hq hM
 have HV:=Hq hV
 have HT:=Hq hT
 obtain⟨C,hC⟩: ∃C,aq1 s.data.toList=C:=⟨_,rfl⟩
 obtain⟨O,hO⟩: ∃O,gqr s.data.toList=O:=⟨_,rfl⟩
 have HC:=Hq fun W=>dq0 s W hs
 have HO:=Hq fun W=>iqM s W
 rw [hC] at HC hbad
 rw [hO] at HO hbad
 clear hM hV hT hC hO
 cases C
 ·clear hbad
  go_enter Tryz.func15,Tryz.ntmps15
  go_wp2_with (at_lookup;refine cqs rfl _ _ rfl Tryz.underlying9 Tryz.underlying61 (kqr _) rfl HM.out rfl hs' ?_;rw [HV.out,HT.out];refine aqa ?_)
  refine aqb ?_
  go_wp2_with (go_at_call 29;refine(HC.out _).mono ?_;rintro e w1 ⟨rfl,hb1⟩;have HB1:=Hq hb1;clear hb1)
  go_ret
  exact⟨rfl,HB1.out⟩
 have hO1:O=true:=by simpa using hbad
 subst hO1
 clear hbad
 go_enter Tryz.func15,Tryz.ntmps15
 go_wp2_with (at_lookup;refine cqs rfl _ _ rfl Tryz.underlying9 Tryz.underlying61 (kqr _) rfl HM.out rfl hs' ?_;rw [HV.out,HT.out];refine aqa ?_)
 refine aqb ?_
 go_wp2_with (first| (go_at_call 29;refine(HC.out _).mono ?_;rintro e w1 ⟨rfl,hb1⟩;have HB1:=Hq hb1;clear hb1) | (go_at_call 30;refine(HO.out _).mono ?_;rintro e w2 ⟨rfl,rfl⟩))
 go_ret
 exact⟨rfl,HB1.out⟩
theorem iq3 (lb bd n sz:Nat) (f:List UInt8→Option Value) (s:ByteArray) (A:Option Addr) (len cap:Nat) (w:World) (hlb:lb<w.heap.size) (hc:w.cell? ⟨lb,0,none⟩=some (.map (some bd)))
  (hM:cqa w Tryz.prog 9 bd n f sz) (hs:s.size≤9223372036854775807) (hm:len≤9223372036854775807) (hcl:aq1 s.data.toList=true) (how:gqr s.data.toList=false) (hno:65536<len∨(f s.data.toList).isSome=true∨64≤sz) (hsz:sz≤9223372036854775807):
  Calls Tryz.prog 15 #[.pointer (some ⟨lb,0,none⟩), .string s, .slice A len cap] w fun e w'=>e= .returned (.int .i64 (if 65536<len then 2 else if(f s.data.toList).isSome=true then 24 else 42))∧Below w.heap.size w w':=by
 have hs':s.size≤maxLen:=hs
 obtain⟨V,hV⟩: ∃V,(f s.data.toList).getD (.slice none 0 0)=V:=⟨_,rfl⟩
 obtain⟨T,hT⟩: ∃T,(f s.data.toList).isSome=T:=⟨_,rfl⟩
 rw [hT] at hno⊢
 have HM:=Hq hM
 have HV:=Hq hV
 have HT:=Hq hT
 have HC:=Hq fun W=>dq0 s W hs
 have HO:=Hq fun W=>iqM s W
 rw [hcl] at HC
 rw [how] at HO
 have hbd:=hM.lt
 clear hM hV hT hcl how
 by_cases hbig:65536<len
 ·rw [if_pos hbig]
  clear hno
  go_enter Tryz.func15,Tryz.ntmps15
  go_wp2_with (at_lookup;refine cqs rfl _ _ rfl Tryz.underlying9 Tryz.underlying61 (kqr _) rfl HM.out rfl hs' ?_;rw [HV.out,HT.out];refine aqa ?_)
  refine aqb ?_
  go_wp2_with (first| (go_at_call 29;refine(HC.out _).mono ?_;rintro e w1 ⟨rfl,hb1⟩;have HB1:=Hq hb1;clear hb1) | (go_at_call 30;refine(HO.out _).mono ?_;rintro e w2 ⟨rfl,rfl⟩))
  go_ret
  exact⟨rfl,HB1.out⟩
 rw [if_neg hbig]
 cases T
 ·have hfull:64≤sz:=by simpa [hbig] using hno
  rw [if_neg Sp]
  clear hno
  go_enter Tryz.func15,Tryz.ntmps15
  go_wp2_with (at_lookup;refine cqs rfl _ _ rfl Tryz.underlying9 Tryz.underlying61 (kqr _) rfl HM.out rfl hs' ?_;rw [HV.out,HT.out];refine aqa ?_)
  refine aqb ?_
  go_wp2_with (first| (go_at_call 29;refine(HC.out _).mono ?_;rintro e w1 ⟨rfl,hb1⟩;have HB1:=Hq hb1;have c1:=(hb1.cell (p:=⟨lb,0,none⟩) hlb).trans hc;have HM1:=Hq (HM.out.keep (hb1.block bd hbd));clear hb1) | (go_at_call 30;refine(HO.out _).mono ?_;rintro e w2 ⟨rfl,rfl⟩) | (at_len;refine jqr rfl _ rfl Tryz.underlying61 rfl HM1.out ?_))
  go_ret
  exact⟨rfl,HB1.out⟩
 rw [if_pos rfl]
 clear hno
 go_enter Tryz.func15,Tryz.ntmps15
 go_wp2_with (at_lookup;refine cqs rfl _ _ rfl Tryz.underlying9 Tryz.underlying61 (kqr _) rfl HM.out rfl hs' ?_;rw [HV.out,HT.out];refine aqa ?_)
 refine aqb ?_
 go_wp2_with (first| (go_at_call 29;refine(HC.out _).mono ?_;rintro e w1 ⟨rfl,hb1⟩;have HB1:=Hq hb1;clear hb1) | (go_at_call 30;refine(HO.out _).mono ?_;rintro e w2 ⟨rfl,rfl⟩))
 go_ret
 exact⟨rfl,HB1.out⟩
theorem lqS (lb bd n sz:Nat) (f:List UInt8→Option Value) (s:ByteArray) (A:Option Addr) (len cap:Nat) (l:List UInt8) (w:World) (hlb:lb<w.heap.size) (hc:w.cell? ⟨lb,0,none⟩=some (.map (some bd)))
  (hM:cqa w Tryz.prog 9 bd n f sz) (hs:s.size≤9223372036854775807) (hr:RdB w A len cap l) (hcl:aq1 s.data.toList=true) (how:gqr s.data.toList=false) (hlen:len≤65536) (hf:f s.data.toList=none) (hsz:sz<64) (hn:n<maxLen):
  Calls Tryz.prog 15 #[.pointer (some ⟨lb,0,none⟩), .string s, .slice A len cap] w fun e w'=>e= .returned (.int .i64 0)∧
   ∃v,cqa w' Tryz.prog 9 bd (n+1) (iqj f s.data.toList v) (sz+1)∧w'.ownsRow w.heap.size 5 1 v len (l.map bV)∧But w.heap.size [bd] w w':=by
 have hs':s.size≤maxLen:=hs
 have HM:=Hq hM
 have HF:=Hq hf
 have HC:=Hq fun W=>dq0 s W hs
 have HO:=Hq fun W=>iqM s W
 rw [hcl] at HC
 rw [how] at HO
 have hbd:=hM.lt
 have HR:=Hq hr
 have HL:=Hq hr.hlen
 clear hM hf hcl how hr
 go_enter Tryz.func15,Tryz.ntmps15
 go_wp2_with (at_lookup;refine cqs rfl _ _ rfl Tryz.underlying9 Tryz.underlying61 (kqr _) rfl HM.out rfl hs' ?_;rw [HF.out];refine aqa ?_)
 refine aqb ?_
 go_wp2_with (first| (go_at_call 29;refine(HC.out _).mono ?_;rintro e w1 ⟨rfl,hb1⟩;have HB1:=Hq hb1;have c1:=(hb1.cell (p:=⟨lb,0,none⟩) hlb).trans hc;have HM1:=Hq (HM.out.keep (hb1.block bd hbd));have hz1:=hb1.size;have HR1:=Hq (HR.out.below hb1);clear hb1) | (go_at_call 30;refine(HO.out _).mono ?_;rintro e w2 ⟨rfl,rfl⟩) | (at_len;refine jqr rfl _ rfl Tryz.underlying61 rfl HM1.out ?_))
 have HSRC:=Hq (HR1.out.below Rf9.drew).src
 go_region_law (refine fqk rfl (.const (.slice none 0 0)) (.tmp 44) 27 rfl Tryz.underlying27 bq5 rfl Om w.heap.size rfl (World.ownsRow_nil _ _ _ _) rfl (by rw [List.length_map,Nat.mul_one];exact HL.out.symm) HSRC.out (nqO l) Mz Om hz1 ?_
                intro v' W' ho hg hb
                obtain⟨w9,hrun,hM9,hg9⟩:=((HM1.out.keep (w':=World.drew _) rfl).keep (hb.block bd hbd)).store Tryz.underlying9 Tryz.underlying61 hn hs' v'
                have c2:=(hb.cell (p:=⟨lb,0,none⟩) hlb).trans c1
                have HM9:=Hq hM9
                have HO9:=Hq (aqj ho fun q hq=>hg9.block q (ho.lt q hq).2 (fun e=>by injection e with e;have:=(ho.lt q hq).1;omega))
                have HB9:=Hq ((But.of_below (S:= [bd]) (HB1.out.drew.trans hb)).grown hg9 (Nat.le_trans hz1 hb.size) (fun k hk=>by injection hk with hk;left;simp [hk]))
                clear ho hg hb hM9 hg9)
 all_goals go_wp2_with fail
 all_goals go_ret
 all_goals
  refine⟨rfl,_, ?_,aqF HO9.out (Nat.zero_add _) (List.nil_append _),HB9.out⟩
  have:=HM9.out
  rw [HF.out] at this
  exact this
theorem gq0 {w:World} {base:Nat} {e:TypeId} {v:Value} {n:Nat} {l:List UInt8} (h:w.ownsRow base e 1 v n (l.map bV)): ∃A cap,v= .slice A n cap∧RdB w A n cap l∧ ∀a,A=some a→v.ownBlock=some a.block:=by
 rcases id h.2 with⟨rfl,h0⟩ | ⟨g,cap,cur,rfl,hb,hg,hnc,hcm,hcs,hx⟩
 ·subst h0
  have hl:l= []:=by
   have hl:=h.1
   simp at hl
   exact hl
  subst hl
  exact⟨_,_,rfl,⟨rfl,Nat.le_refl _,by omega,fun h0=>absurd h0 (Nat.lt_irrefl _)⟩,fun a e=>by cases e⟩
 exact⟨_,_,rfl,gqL h,fun a e=>by cases e;rfl⟩
def kqs (defs:List UInt8→Option (List UInt8)) (k:List UInt8) (l:List UInt8) (s:List UInt8):Option (List UInt8):=if s=k then some l else defs s
section
variable {B:Nat} {L:bqp} {nd:Nat} {defs:List UInt8→Option (List UInt8)} {files:List UInt8→Option aqc} {ks going:List (List UInt8)} {ts:List TyV} {v:Value} {W W':World}
theorem LdG.putd (h:LdG B L nd defs files ks going ts v W) {fd:List UInt8→Option Value} {k0 l:List UInt8} {x:Value} {n m:Nat} (h2: ∀s,gqf W (L.ro v) (defs s) (fd s)) (hx:gqf W' (L.ro v) (some l) (some x)) (hM:cqa W' Tryz.prog 9 L.bd n (iqj fd k0 x) m) (hb:But W.heap.size [L.bd] W W'):
  LdG B L m (kqs defs k0 l) files ks going ts v W':=by
 have ho:=h.ord
 have hlt:=h.lt
 have hS: ∀q,q∈ [L.bd]→q=L.bd:=fun q hq=>by simpa using hq
 have hc: ∀o,W'.cell? ⟨L.lb,o,none⟩=W.cell? ⟨L.lb,o,none⟩:=fun o=>hb.cell (p:=⟨L.lb,o,none⟩) h.lt (fun hm=>by have:=hS _ hm;simp at this;omega)
 have hkp:aqC (L.ro v) W W':=aqC.of_but hb fun g hg hm=>hg.2.1 (hS g hm)
 obtain⟨ff,n1,f0,f1,f2⟩:=h.hf
 obtain⟨n2,k0',k1⟩:=h.hk
 obtain⟨n3,g0,g1⟩:=h.hg
 refine⟨(hc 0).trans h.c0,(hc 1).trans h.c1,(hc 2).trans h.c2,(hc 3).trans h.c3,(hc 4).trans h.c4,fun o=> (hb.frozen (p:=⟨L.lb,o,none⟩) h.lt (fun hm=>by have:=hS _ hm;simp at this;omega)).trans (h.fz o),
  ⟨_,hM.tight,fun s=> ?_⟩,⟨ff,n1,f0,f1.but hb f1.lt (fun hm=>by have:=hS _ hm;omega),fun s=> (f2 s).keep hkp fun g _ hg=>hg⟩,
  ⟨n2,k0',k1.but hb k1.lt (fun hm=>by have:=hS _ hm;omega)⟩,⟨n3,g0,g1.but hb g1.lt (fun hm=>by have:=hS _ hm;omega)⟩,aqj h.ty fun q hq=>hb.block q (h.ty.lt q hq).2 (fun hm=> (h.new q hq).2.1 (hS q hm)),fun t ht=> (h.rd t ht).keep hkp fun g _ hg=>hg,h.ord,h.new,Nat.lt_of_lt_of_le h.lt hb.size,(fun x hx=>Nat.lt_of_lt_of_le (h.exl x hx) hb.size),h.newx,h.nex⟩
 unfold iqj kqs
 by_cases hs:s=k0
 ·rw [if_pos hs,if_pos hs]
  exact hx
 rw [if_neg hs,if_neg hs]
 exact(h2 s).keep hkp fun g _ hg=>hg
theorem LdG.defNone (h:LdG B L nd defs files ks going ts v W): ∃fd,cqa W Tryz.prog 9 L.bd nd fd nd∧(∀s,gqf W (L.ro v) (defs s) (fd s))∧ ∀s,defs s=none→fd s=none:=by
 obtain⟨fd,d1,d2⟩:=h.hd
 exact⟨fd,d1,d2,fun s hs=>by have:=d2 s;rw [hs] at this;exact this⟩
theorem iq4 (h:LdG B L nd defs files ks going ts v W) (s:ByteArray) (A:Option Addr) (len cap:Nat) (l:List UInt8) (hs:s.size≤9223372036854775807) (hr:RdB W A len cap l) (hcl:aq1 s.data.toList=true) (how:gqr s.data.toList=false) (hlen:len≤65536) (hf:defs s.data.toList=none) (hsz:nd<64):
  Calls Tryz.prog 15 #[.pointer (some ⟨L.lb,0,none⟩), .string s, .slice A len cap] W fun e w'=>e= .returned (.int .i64 0)∧LdG B L (nd+1) (kqs defs s.data.toList l) files ks going ts v w'∧But W.heap.size [L.bd] W w':=by
 obtain⟨fd,d1,d2,d3⟩:=h.defNone
 refine(lqS L.lb L.bd nd nd fd s A len cap l W h.lt h.c0 d1 hs hr hcl how hlen (d3 _ hf) hsz Mz).mono ?_
 rintro e w' ⟨rfl,x,hM,ho,hb⟩
 obtain⟨A',cap',rfl,hrd,hA⟩:=gq0 ho
 have hl:=hr.hlen
 subst hl
 have ho':=h.ord
 have hlt:=h.lt
 refine⟨rfl,h.putd d2 ⟨A',cap',rfl,hrd,fun a ha=> ⟨(ho.lt _ (hA a ha)).2, ?_⟩,hlen⟩ hM hb,hb⟩
 have hge:=(ho.lt _ (hA a ha)).1
 exact⟨by omega,by omega,by omega,by omega,by omega,fun e=>by have:=(h.ty.lt _ e).2;omega,fun e=>by have:=h.exl _ e;omega⟩
end
end Go.Proofs.YtdbniocnjhfhdaaGreatDoor
