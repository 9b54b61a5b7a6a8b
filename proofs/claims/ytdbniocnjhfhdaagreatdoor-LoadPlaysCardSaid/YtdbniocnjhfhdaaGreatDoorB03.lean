/- Part 3 of what the laws rest on: walks. Conditions: those that each theorem names. -/
import Derived.Test.YtdbniocnjhfhdaaGreatDoorB02
import Derived.Laws.CopyOwn
set_option linter.unusedSimpArgs false
set_option linter.unusedVariables false
set_option maxRecDepth 100000
set_option maxHeartbeats 2000000
namespace Go.Proofs.YtdbniocnjhfhdaaGreatDoor
open Go Go.RowKit Lib
theorem hqf {l:List UInt8} {n:Nat} {st s:Rs} {x:List UInt8} (h:aqP l n st= .ok (x,s)):s={ st with pos:=st.pos+n }:=by
 unfold aqP at h
 split at h
 ·cases h
 split at h
 ·cases h
 injection h with h
 injection h with _ h
 exact h.symm
theorem iqn {l:List UInt8} {n:Nat} {st s:Rs} {x:Nat} (h:aqS l n st= .ok (x,s)):s={ st with pos:=st.pos+n }:=by
 unfold aqS at h
 rcases hb:aqP l n st with e| ⟨b,s'⟩
 ·rw [hb] at h
  cases h
 rw [hb,Rx.bind_ok] at h
 injection h with h
 injection h with _ h
 subst h
 exact hqf hb
theorem mqC {l:List UInt8} {st s:Rs} {x:Nat×ByteArray} (h:dqS l st= .ok (x,s)):s={ st with pos:=st.pos+2 }:=by
 unfold dqS at h
 rcases hb:aqS l 2 st with e| ⟨b,s'⟩
 ·rw [hb] at h
  cases h
 rw [hb,Rx.bind_ok] at h
 split at h
 ·cases h
 split at h
 ·injection h with h
  injection h with _ h
  subst h
  exact iqn hb
 cases h
theorem fqv {σ:Type} (l:List UInt8) (want:Option (List UInt8)) (act:σ→Nat→Nat→Rs→Rx σ) (n i:Nat) (h:i<n) (seen:Bool) (x:σ) (st:Rs):
  bqX l want act (n - i) seen x st=Rx.bind (dqS l st) fun a s1=>
  if want=some a.2.toList∧seen=true then .error (a.1,24)
  else Rx.bind (aqS l 4 s1) fun long s2=>
   if want=some a.2.toList then Rx.bind (act x a.1 long s2) fun x' s3=>bqX l want act (n - (i+1)) true x' s3
   else Rx.bind (aqP l long s2) fun _ s3=>bqX l want act (n - (i+1)) seen x s3:=by
 obtain⟨k,hk⟩: ∃k,n - i=k+1:=⟨n - i - 1,by omega⟩
 rw [hk,show n - (i+1)=k by omega]
 rfl
theorem fqw {σ:Type} (l:List UInt8) (want:Option (List UInt8)) (act:σ→Nat→Nat→Rs→Rx σ) (n:Nat) (seen:Bool) (x:σ) (st:Rs):bqX l want act (n - n) seen x st= .ok (x,st):=by rw [Nat.sub_self];rfl
theorem jqs (r:Nat) (A:Option Addr) (cap:Nat) (l:List UInt8) (st:Rs) (w:World) (ok:Nat→Prop) (hok: ∀g,ok g→g≠r) (h:aq2 w r A cap l st) (hp:eqA w r ok st.pool):
  Calls Tryz.prog 123 #[.pointer (some ⟨r,0,none⟩), .string ⟨#[]⟩, .nilFunc] w (cq6 w r A cap l (eqj l st) fun x v w'=>v= .tuple #[]):=by
 have d1:=h.c1
 have hr:=h.lt
 have H0:=Hq h
 have HP0:=Hq hp
 have HK:=Hq hok
 have HA0:=Hq (RB.refl r w)
 have HE0:=Hq (show eqj l st=Rx.bind (aqS l 2 st) _ from rfl)
 clear h hp hok
 go_enter Tryz.func123,Tryz.ntmps123
 go_wp2_with (go_at_call 117;refine(aqn r A cap 2 l st _ (H0.out.keepB H0.out Bq9) Om).mono ?_;refine aqa ?_)
 refine aqb ?_
 intro e w1 hq
 rcases hq.cases with⟨a,er,hp,hb,rfl⟩ | ⟨x1,s1,v,hp,hb,rfl,⟨rfl,hn1⟩,hs⟩
 ·have HP:=Hq (HE0.out.trans (aqg hp))
  clear hp
  have HA:=Hq (aqI HA0.out hr Bq9 hb)
  clear hb
  go_wp2_with fail
  exact(show _∧_ from⟨rfl,aqo HP.out HA.out⟩)
 have HE1:=Hq (HE0.out.trans (aqi hp))
 have hpx:=hp
 clear hp
 have HA1:=Hq (aqI HA0.out hr Bq9 hb)
 have HS1:=Hq hs
 have hz1:=hb.but.size
 try simp at hz1
 have hy1:=HA1.out.but.size
 clear hb hs
 have hps:s1.pool=st.pool:=by rw [iqn hpx]
 clear hpx
 have HPS:=Hq hps
 clear hps
 go_wp2_with fail
 go_loopw [6,7,8,9,10,13] (fun seen at' nm is long i wr=> ∃(k:Nat) (sr:Rs),k≤x1∧i= .int .i64 k∧seen= .bool false∧Hid (RB r w wr)∧Hid (aq2 wr r A cap l sr)∧Hid (sr.pool=st.pool)∧Hid (eqj l st=bqX l none (fun x _ _ s=> .ok (x,s)) (x1 - k) false () sr)) (fun seen at' nm is long i _=>x1 - (RowKit.intOf i).toNat)
 case atStart=>exact⟨0,s1,by omega,rfl,rfl,HA1,HS1,HPS,HE1⟩
 case round=>
  obtain⟨k,sr,hk,rfl,rfl,HAr,HSr,HPr,HEr⟩:=hrel
  have hyr:=HAr.out.but.size
  by_cases hlt:k<x1
  ·have HEr:=Hq (HEr.out.trans (fqv l none _ x1 k hlt false () sr))
   have HPP:=Hq (show eqA wr r ok sr.pool by rw [HPr.out];exact HP0.out.step HAr.out HK.out)
   go_wp2_with (go_at_call 140;refine(gqN r A cap l sr _ ok HK.out (H0.out.keepB HSr.out Bq9) (HPP.out.low Om Rf9)).mono ?_;refine aqa ?_)
   refine aqb ?_
   intro e w2 hq
   rcases hq.cases with⟨a,er,hp,hb,rfl⟩ | ⟨x2,s2,v,hp,hb,rfl,⟨rfl,hn2⟩,hs⟩
   ·have HP:=Hq (HEr.out.trans (aqg hp))
    clear hp
    have HA:=Hq (aqI HAr.out hr Bq9 hb)
    clear hb
    go_wp2_with fail
    exact(show _∧_ from⟨rfl,aqo HP.out HA.out⟩)
   have HE2:=Hq (HEr.out.trans (aqi hp))
   have hpx:=hp
   clear hp
   have HA2:=Hq (aqI HAr.out hr Bq9 hb)
   have HS2:=Hq hs
   have hz2:=hb.but.size
   try simp at hz2
   have hy2:=HA2.out.but.size
   clear hb hs
   have HN2:=Hq (show s2.pool=sr.pool by rw [mqC hpx])
   clear hpx
   have HE2:=Hq (HE2.out.trans (if_neg Sp))
   go_wp2_with (go_at_call 117;refine(aqn r A cap 4 l s2 _ (H0.out.keepB HS2.out Bq9) Om).mono ?_;refine aqa ?_)
   refine aqb ?_
   intro e w3 hq
   rcases hq.cases with⟨a,er,hp,hb,rfl⟩ | ⟨x3,s3,v,hp,hb,rfl,⟨rfl,hn3⟩,hs⟩
   ·have HP:=Hq (HE2.out.trans (aqg hp))
    clear hp
    have HA:=Hq (aqI HA2.out hr Bq9 hb)
    clear hb
    go_wp2_with fail
    exact(show _∧_ from⟨rfl,aqo HP.out HA.out⟩)
   have HE3:=Hq (HE2.out.trans (aqi hp))
   have hpx:=hp
   clear hp
   have HA3:=Hq (aqI HA2.out hr Bq9 hb)
   have HS3:=Hq hs
   have hz3:=hb.but.size
   try simp at hz3
   have hy3:=HA3.out.but.size
   clear hb hs
   have HN3:=Hq (show s3.pool=s2.pool by rw [iqn hpx])
   clear hpx
   have HE3:=Hq (HE3.out.trans (if_neg Sp))
   go_wp2_with (go_at_call 136;refine(dqc r A cap _ l s3 _ (H0.out.keepB HS3.out Bq9) Om).mono ?_;refine aqa ?_)
   refine aqb ?_
   intro e w4 hq
   rcases hq.cases with⟨a,er,hp,hb,rfl⟩ | ⟨x4,s4,v,hp,hb,rfl,⟨A',cap',rfl,hrd⟩,hs⟩
   ·have HP:=Hq (HE3.out.trans (aqg hp))
    clear hp
    have HA:=Hq (aqI HA3.out hr Bq9 hb)
    clear hb
    go_wp2_with fail
    exact(show _∧_ from⟨rfl,aqo HP.out HA.out⟩)
   have HE4:=Hq (HE3.out.trans (aqi hp))
   have hpx:=hp
   clear hp
   have HA4:=Hq (aqI HA3.out hr Bq9 hb)
   have HS4:=Hq hs
   have hz4:=hb.but.size
   try simp at hz4
   have hy4:=HA4.out.but.size
   clear hb hs
   have HN4:=Hq (show s4.pool=st.pool by rw [hqf hpx];exact HN3.out.trans (HN2.out.trans HPr.out))
   clear hpx hrd
   go_wp2_with fail
   go_roundw
   case rel=>exact⟨k+1,s4,by omega,by go_num,rfl,HA4,HS4,HN4,HE4⟩
   case measure=>simp [RowKit.intOf];omega
  have hkk:k=x1:=by omega
  subst hkk
  go_wp2_with fail
  go_end0
  exact bqw (HEr.out.trans (fqw _ _ _ _ _ _ _)) HAr.out rfl HSr.out
def cqi {α:Type} (pool:List Ko) (p:Rx α):Prop:= ∀x s,p= .ok (x,s)→s.pool=pool
theorem bqf {α:Type} (pool:List Ko) (e:Nat×Nat):cqi pool (.error e:Rx α):=fun _ _ h=>by cases h
theorem bq2 {α:Type} {pool:List Ko} (x:α) {s:Rs} (h:s.pool=pool):cqi pool (.ok (x,s)):=fun _ _ e=>by
 injection e with e
 injection e with _ e
 subst e
 exact h
theorem aqx {α β:Type} {pool:List Ko} {p:Rx α} {f:α→Rs→Rx β} (hp:cqi pool p) (hf: ∀x s,s.pool=pool→cqi pool (f x s)):cqi pool (Rx.bind p f):=by
 rcases p with e| ⟨x,s⟩
 ·exact bqf _ _
 exact hf x s (hp x s rfl)
theorem bqZ {α:Type} {pool:List Ko} {c:Prop} [Decidable c] {p q:Rx α} (h1:cqi pool p) (h2:cqi pool q):cqi pool (if c then p else q):=by
 split
 ·exact h1
 exact h2
theorem cqj (l:List UInt8) (n:Nat) (st:Rs):cqi st.pool (aqP l n st):=bqZ (bqf _ _) (bqZ (bqf _ _) (bq2 _ rfl))
theorem bqx {α:Type} {f:Rs→Rx α} (hf: ∀st,cqi st.pool (f st)) {s:Rs} {pool:List Ko} (h:s.pool=pool):cqi pool (f s):=h▸hf s
theorem aqv (l:List UInt8) (n:Nat) (st:Rs):cqi st.pool (aqS l n st):=aqx (cqj l n st) fun _ _ h=>bq2 _ h
theorem cqM (l:List UInt8) (m:Nat) (st:Rs):cqi st.pool (bqo l m st):=aqx (aqv l 2 st) fun _ _ h=>bqZ (bqf _ _) (bq2 _ h)
theorem hqg {α:Type} {f:Rs→Rx α} (hf: ∀st,cqi st.pool (f st)): ∀(k:Nat) (st:Rs),cqi st.pool (bqO f k st)
 |0,st=>bq2 _ rfl
 |k+1,st=>aqx (hf st) fun _ s h=>aqx (h▸hqg hf k s) fun _ _ h=>bq2 _ h
theorem eqR (l:List UInt8) (st:Rs):cqi st.pool (dqS l st):=aqx (aqv l 2 st) fun n s h=>by
 split
 ·exact bqf _ _
 exact bqZ (bq2 _ h) (bqf _ _)
theorem eqS {σ:Type} (l:List UInt8) (want:Option (List UInt8)) {act:σ→Nat→Nat→Rs→Rx σ} (ha: ∀x a n st,cqi st.pool (act x a n st)): ∀(k:Nat) (seen:Bool) (x:σ) (st:Rs),cqi st.pool (bqX l want act k seen x st)
 |0,seen,x,st=>bq2 _ rfl
 |k+1,seen,x,st=>aqx (eqR l st) fun a s1 h1=>bqZ (bqf _ _) (aqx (bqx (aqv l 4) h1) fun n s2 h2=>
   bqZ (aqx (h2▸ha x a.1 n s2) fun x' s3 h3=>h3▸eqS l want ha k true x' s3) (aqx (bqx (cqj l n) h2) fun _ s3 h3=>h3▸eqS l want ha k seen x s3))
theorem eqq {σ:Type} (l:List UInt8) (want:Option (List UInt8)) {act:σ→Nat→Nat→Rs→Rx σ} (ha: ∀x a n st,cqi st.pool (act x a n st)) (x:σ) (st:Rs):cqi st.pool (cqg l want act x st):=
 aqx (aqv l 2 st) fun k s h=>h▸eqS l want ha k false x s
theorem jqZ (l:List UInt8) (st:Rs):cqi st.pool (eqj l st):=eqq l none (fun _ _ _ _=>bq2 _ rfl) () st
theorem iqo (l:List UInt8) (st:Rs):cqi st.pool (bqY l st):=aqx (aqv l 2 st) fun _ s1 h1=>aqx (bqx (aqv l 2) h1) fun _ s2 h2=>aqx (bqx (aqv l 2) h2) fun _ s3 h3=>
 h3▸eqq l _ (fun _ _ _ s=>bqZ (bqf _ _) (aqx (aqv l 2 s) fun _ _ h=>bq2 _ h)) _ s3
theorem jq0 (l:List UInt8) (st:Rs):cqi st.pool (dqa l st):=aqx (aqv l 2 st) fun _ s1 h1=>aqx (bqx (aqv l 2) h1) fun _ s2 h2=>aqx (bqx (aqv l 2) h2) fun _ s3 h3=>
 aqx (bqx (aqv l 2) h3) fun _ s4 h4=>bq2 _ h4
theorem gql (l:List UInt8) (m:aqr) (a n:Nat) (st:Rs):cqi st.pool (dqp l m a n st):=
 aqx (aqv l 2 { st with most:=st.pos+n,named:=a }) fun _ s1 h1=>aqx (bqx (aqv l 2) h1) fun _ s2 h2=>aqx (bqx (aqv l 4) h2) fun k s3 h3=>
  bqZ (bqf _ _) (aqx (bqx (cqj l k) h3) fun _ s4 h4=>aqx (bqx (cqM l 64) h4) fun c s5 h5=>aqx (bqx (hqg (jq0 l) c) h5) fun _ s6 h6=>
   aqx (bqx (jqZ l) h6) fun _ s7 h7=>bqZ (bqf _ _) (bq2 _ h7))
theorem jq1 (l:List UInt8) (st:Rs):cqi st.pool (cq5 l st):=aqx (aqv l 2 st) fun _ s1 h1=>aqx (bqx (aqv l 2) h1) fun _ s2 h2=>aqx (bqx (aqv l 2) h2) fun _ s3 h3=>
 h3▸eqq l _ (fun m a n s=>gql l m a n s) _ s3
set_option maxHeartbeats 1000000
theorem aqW {w wp W wk:World} {S:List Nat} (h:But w.heap.size S w wp) (hl:Below w.heap.size wp W) (hb:But W.heap.size S W wk):But w.heap.size S w wk:=
 (h.below_trans hl).trans (hb.mono (Nat.le_trans h.size hl.size) (fun _ _ h=>h))
theorem mqD {w:World} {r:Nat} {A:Option Addr} {cap:Nat} {l:List UInt8} {st:Rs} (h:aq2 w r A cap l st) (pool:List Ko) (v:Value):aq2 (w.setCell ⟨r,4,none⟩ v) r A cap l { st with pool:=pool } where
 c0:=(World.cell?_setCell_other _ _ _ _ Sp).trans h.c0
 c1:=(World.cell?_setCell_other _ _ _ _ Sp).trans h.c1
 c2:=(World.cell?_setCell_other _ _ _ _ Sp).trans h.c2
 c3:=(World.cell?_setCell_other _ _ _ _ Sp).trans h.c3
 fz:=fun o=>by simp [go_sem,h.fz o]
 rd:=h.rd.but ((But.refl w.heap.size [r] w).set ⟨r,4,none⟩ (.inl Sp) _) (fun a ha=>by simpa using h.ne a ha)
 ne:=h.ne
 lt:=by simpa using h.lt
 len:=h.len
 pos:=h.pos
 pm:=h.pm
 most:=h.most
theorem aq6 {P:Program} {w:World} {ops:Array Oper} {o:Oper} {a:Act} {K:Act→World→Prop} {Q:Exit→Act→World→Prop} {E:Prop} (hgd:o.guard=none) (s x:Operand) (t:TypeId)
  (ho:o.op= .call { callee:= .builtin .append,args:= #[s,x],argTypes:= #[t,t] }) {e:TypeId} {z:Value} {size bytes:Nat}
  (ht:P.underlying t=some (.slice e)) (hi:(P.info? e).map (fun i=> (i.zero,i.size,i.bytes))=some (some z,size,bytes)) (hzs:z.cells.size=size) (hsz:0<size)
  (base:Nat) {v:Value} {n:Nat} {xs:List Value} (hs:a.eval s=v) (hown:w.ownsRow base e size v n xs)
  {ad:Addr} {m c:Nat} {news:List Value} (hx:a.eval x= .slice (some ad) m c) (hl:news.length=m*size) (hnews: ∀j u,news[j]?=some u→w.cell? (ad.add j)=some u) (h1: ∀u∈news,u.oneCell'=true)
  (hm:0<m) (h63:n+m≤maxLen) (hbytes:(n+m)*bytes≤140737488355328) (hbase:base≤w.heap.size)
  (h: ∀g cap w',w'.ownsRow base e size (.slice (some ⟨g,0,none⟩) (n+m) cap) (n+m) (xs++news)→w.grownBy w' v.ownBlock→Below base w w'→(v.ownBlock=some g∨g=w.heap.size)→
   K (a.put o.dst (.slice (some ⟨g,0,none⟩) (n+m) cap)) w'):if Region.wanted o (yielded ops a.tmps)=true then Oper.wp P o a w K Q else E:=by
 obtain⟨i,hi,hz,hsize,hby⟩:=info_parts hi
 exact step_append_lies w hgd s x t ho base e i z size bytes ht hi hz hsize hby hzs hsz v n xs hs hown ad m c news hx hl hnews h1 hm h63 hbytes hbase _ rfl fun g cap w' h2 h3 h4 _=>h g cap w' h2 h3 (Rf9.grown h3 hbase fun k hk=> (hown.lt k hk).1) h4
theorem eqT:(Tryz.prog.info? 78).map (fun i=> (i.zero,i.size,i.bytes))=some (some (.agg #[.int .i64 0, .string ⟨#[]⟩, .int .i64 0, .int .i64 0, .int .i64 0]),5,48):=by kernel_rfl
theorem eqU:(Tryz.prog.info? 119).map (fun i=> (i.zero,i.size,i.bytes))=some (some (.agg #[.int .i64 0, .int .i64 0, .int .i64 0, .int .i64 0]),4,32):=by kernel_rfl
theorem eqr:(Tryz.prog.info? 91).map (fun i=> (i.zero,i.size,i.bytes))=some (some (.agg #[.int .i64 0, .int .i64 0, .int .i64 0, .bool false, .int .i64 0, .int .i64 0, .slice none 0 0, .slice none 0 0]),8,96):=by kernel_rfl
theorem aq7 {w:World} {base:Nat} {e:TypeId} {size n:Nat} {v:Value} {xs:List Value} (h:w.ownsRow base e size v n xs): ∃A cap,v= .slice A n cap:=by
 rcases h.2 with⟨rfl,rfl⟩ | ⟨g,cap,cur,rfl,_⟩
 ·exact⟨none,0,rfl⟩
 exact⟨_,cap,rfl⟩
structure Kp (lo:Nat) (v w:World):Prop where
 kept:aqC (fun g=>lo≤g∧g<v.heap.size) v w
theorem Kp.refl (lo:Nat) (v:World):Kp lo v v:=⟨⟨Nat.le_refl _,fun _ _ _ _=>rfl⟩⟩
theorem Kp.size {lo:Nat} {v w:World} (h:Kp lo v w):v.heap.size≤w.heap.size:=h.kept.size
theorem Kp.set {lo:Nat} {v w:World} (h:Kp lo v w) (p:Addr) (u:Value) (hp:p.block<lo):Kp lo v (w.setCell p u):=
 ⟨⟨by simpa using h.size,fun g hg ho o=> (World.cell?_of_block (w:=w) (Below.heap_setCell w p u g Om)).trans (h.kept.cell g hg ho o)⟩⟩
theorem Kp.below {lo:Nat} {v w w':World} (h:Kp lo v w) (hb:Below v.heap.size w w'):Kp lo v w':=
 ⟨⟨Nat.le_trans h.size hb.size,fun g hg ho o=> (hb.cell (p:=⟨g,o,none⟩) ho.2).trans (h.kept.cell g hg ho o)⟩⟩
theorem Kp.alloc {lo:Nat} {v w:World} (h:Kp lo v w) (o:Obj) (_:True):Kp lo v (w.alloc o):=h.below (Rf9.alloc h.size o)
theorem Kp.step {lo:Nat} {v w w':World} {r:Nat} (h:Kp lo v w) (hb:But w.heap.size [r] w w') (hr:r<lo) (_:True):Kp lo v w':=
 ⟨⟨Nat.le_trans h.size hb.size,fun g hg ho o=> (hb.cell (p:=⟨g,o,none⟩) (Nat.lt_of_lt_of_le ho.2 h.size) Sd).trans (h.kept.cell g hg ho o)⟩⟩
theorem Kp.slat {lo size n:Nat} {v w:World} {cells:List Value} {x:Value} (h:Kp lo v w) (hs:bqm v (fun g=>lo≤g) size n cells x):bqm w (fun g=>lo≤g) size n cells x:=
 ((hs.mono (ok':=fun g=>lo≤g∧g<v.heap.size) fun g hg ho=> ⟨ho,hg⟩).keep h.kept).mono fun g _ ho=>ho.1
theorem Kp.meth {lo:Nat} {v w:World} {m:aqr} {c t:Value} (h:Kp lo v w) (hm:aqO v (fun g=>lo≤g) m c t):aqO w (fun g=>lo≤g) m c t:=⟨h.slat hm.hcode,h.slat hm.htraps⟩
theorem kqU {w:World} {lo:Nat} {c:Nat→Prop} {m:aqr} {code traps:Value} (h:aqO w (fun g=>lo≤g∧c g) m code traps):aqO w (fun g=>lo≤g) m code traps:=⟨h.hcode.mono fun _ _ h=>h.1,h.htraps.mono fun _ _ h=>h.1⟩
theorem gqm {lo base n:Nat} {wr W wq:World} {e:TypeId} {size:Nat} {pv:Value} {xs:List Value} {r:Nat} {ks:List (aqr×Value×Value)} {x:aqr} {code traps:Value} (h: ∀q∈ks,aqO wr (fun g=>lo≤g∧pv.ownBlock≠some g) q.1 q.2.1 q.2.2)
  (ho:wr.ownsRow base e size pv n xs) (hd:Below wr.heap.size wr W) (hb:But W.heap.size [r] W wq) (hr:r<lo) (hlo:lo≤wr.heap.size) (hm:aqO wq (fun g=>W.heap.size≤g) x code traps):
  ∀q∈ks++ [(x,code,traps)],aqO wq (fun g=>lo≤g∧pv.ownBlock≠some g) q.1 q.2.1 q.2.2:=by
 have hk:aqC (fun g=>lo≤g∧pv.ownBlock≠some g) wr wq:=
  ⟨Nat.le_trans hd.size hb.size,fun g hg hok o=> (hb.cell (p:=⟨g,o,none⟩) (Nat.lt_of_lt_of_le hg hd.size) Sd).trans (hd.cell (p:=⟨g,o,none⟩) hg)⟩
 intro q hq
 rcases List.mem_append.1 hq with hq|hq
 ·exact⟨(h q hq).hcode.keep hk,(h q hq).htraps.keep hk⟩
 obtain rfl:q=(x,code,traps):=by simpa using hq
 have hz:=hd.size
 have hok: ∀g,W.heap.size≤g→lo≤g∧pv.ownBlock≠some g:=fun g hg=> ⟨by omega,fun e=>by have:=(ho.lt g e).2;omega⟩
 exact⟨hm.hcode.mono fun g _ hg=>hok g hg,hm.htraps.mono fun g _ hg=>hok g hg⟩
theorem fqx {lo:Nat} {wq W':World} {o:Obj} {pv:Value} {ks:List (aqr×Value×Value)} {g6 n c:Nat} (h: ∀q∈ks,aqO wq (fun g=>lo≤g∧pv.ownBlock≠some g) q.1 q.2.1 q.2.2)
  (hg:(wq.alloc o).grownBy W' pv.ownBlock) (hl: ∀q,pv.ownBlock=some q→q<wq.heap.size) (hgg:pv.ownBlock=some g6∨g6=(wq.alloc o).heap.size):
  ∀q∈ks,aqO W' (fun g=>lo≤g∧(Value.slice (some ⟨g6,0,none⟩) n c).ownBlock≠some g) q.1 q.2.1 q.2.2:=by
 have hz:=hg.size
 simp only [World.size_alloc] at hz hgg
 have hk:aqC (fun g=>lo≤g∧pv.ownBlock≠some g) wq W':=⟨by omega,fun g hgl hok off=>by
  rw [World.cell?_of_block (w:=wq.alloc o) (hg.block g Sd (fun e=>hok.2 e.symm)),World.cell?_alloc_lt _ _ _ hgl]⟩
 have hs: ∀{size n:Nat} {cells:List Value} {v:Value},bqm wq (fun g=>lo≤g∧pv.ownBlock≠some g) size n cells v→bqm W' (fun g=>lo≤g∧(Value.slice (some ⟨g6,0,none⟩) n c).ownBlock≠some g) size n cells v:=by
  intro size n cells v h
  have h2:=(h.mono (ok':=fun g=> (lo≤g∧pv.ownBlock≠some g)∧g<wq.heap.size) fun g hgl hok=> ⟨hok,hgl⟩)
  refine((h2.keep (hk.mono fun g hg=>hg.1)).mono fun g _ hok=> ⟨hok.1.1,fun e=> ?_⟩)
  have e':g6=g:=by simpa [Value.ownBlock] using e
  subst e'
  rcases hgg with hgg|hgg
  ·exact hok.1.2 hgg
  have:=hok.2
  omega
 intro q hq
 exact⟨hs (h q hq).hcode,hs (h q hq).htraps⟩
theorem hqh {lo:Nat} {w:World} {c:Nat→Prop} {ks:List (aqr×Value×Value)} (h: ∀q∈ks,aqO w (fun g=>lo≤g∧c g) q.1 q.2.1 q.2.2) (p:Addr) (u:Value) (hp:p.block<lo): ∀q∈ks,aqO (w.setCell p u) (fun g=>lo≤g∧c g) q.1 q.2.1 q.2.2:=by
 have hk:aqC (fun g=>lo≤g∧c g) w (w.setCell p u):=⟨by simp,fun g hg hok o=>World.cell?_of_block (w:=w) (Below.heap_setCell w p u g Om)⟩
 exact fun q hq=> ⟨(h q hq).hcode.keep hk,(h q hq).htraps.keep hk⟩
theorem jqt {w:World} {ok:Nat→Prop} {ks:List Nat} {v:Value} (h:bqm w ok 1 ks.length (ks.map fun n:Nat=>Value.int .i64 n) v):bqm w ok 1 (ks.map Int.ofNat).length ((ks.map Int.ofNat).map (Value.int .i64)) v:=by
 have e:(ks.map Int.ofNat).map (Value.int .i64)=ks.map fun n:Nat=>Value.int .i64 n:=by rw [List.map_map];rfl
 rw [e,List.length_map]
 exact h
theorem mqE {w w':World} {lo B:Nat} {mi ma a t u:Nat} {ks1:List Ko} {ks2:List Nat} {ks3:List aqq} {ms:List (aqr×Value×Value)} {p i f m:Value} (hk:Kp lo w w') (hB:B≤lo) (h1:bqm w (fun g=>lo≤g) 5 ks1.length (ks1.flatMap Ko.cells) p)
  (h2:bqm w (fun g=>lo≤g) 1 ks2.length (ks2.map fun n:Nat=>Value.int .i64 n) i) (h3:bqm w (fun g=>lo≤g) 4 ks3.length (ks3.flatMap aqq.cells) f) (h4:bqm w (fun g=>lo≤g) 8 ms.length (bqs ms) m) (h5: ∀q∈ms,aqO w (fun g=>lo≤g) q.1 q.2.1 q.2.2):
  aqy w' (fun g=>B≤g) ⟨mi,ma,ks1,a,t,u,ks2.map Int.ofNat,ks3,ms.map (·.1)⟩ p i f m:=by
 refine aqy.mono (ok:=fun g=>lo≤g) ⟨hk.slat h1,jqt (hk.slat h2),hk.slat h3,ms,rfl, ?_,fun q hq=>hk.meth (h5 q hq)⟩ fun g _ h=>Nat.le_trans hB h
 rw [List.length_map]
 exact hk.slat h4
theorem Bx.row {w:World} {g:Nat} {vs:List Value} {t:TypeId} (h:Bx w g vs t) (cs:List Value):Bx (w.setRow g cs.toArray) g cs t:=setRow_heap w g _ _ t _ h
theorem Kp.row {lo g:Nat} {v w:World} (h:Kp lo v w) (hg:g<lo) (cs:Array Value):Kp lo v (w.setRow g cs):=
 ⟨⟨by simpa using h.size,fun k hk ho o=> (World.cell?_of_block (w:=w) (setRow_other w g k cs Om)).trans (h.kept.cell k hk ho o)⟩⟩
theorem eqs {P:Program} {fn:Func} {tmps:Array Value} {a:Tmp} {T:TypeId} {g:Nat} {vs:List Value} {t:TypeId} {w:World} {d:TypeDesc} (hr:fn.results= #[.cell a T]) (ha:tmps.getD a undef= .pointer (some ⟨g,0,none⟩)) (hb:Bx w g vs t)
  (hu:P.underlying T=some d) (hd:(match d with| .struct _| .array _ _=>true|_=>false)=true) (hi:(P.info? T).map (·.size)=some vs.length):(results fn tmps).run P w= .ok (.agg vs.toArray) w:=by
 have:=run_loadVar_row (P:=P) w g t T vs.toArray (0,0) d hb hu hd (by simpa using hi)
 unfold results
 rw [hr]
 rw [Array.getD_eq_getD_getElem?] at ha
 simp [ha,asAddr,this,Result.andThen]
def kqV (w:World) (r:Nat) (p:Rx aqc) (e:Ending) (w':World):Prop:=
 But w.heap.size [r] w w'∧match p with
  | .ok (x,_)=> ∃pool ifs flds mths,e= .returned (.agg (x.cells pool ifs flds mths).toArray)∧aqy w' (fun g=>w.heap.size≤g) x pool ifs flds mths
  | .error (a,er)=>e= .panicked [{ v:=dqb a er,recovered:=false }]
theorem aqG {w w':World} {r:Nat} {p:Rx aqc} {a er:Nat} (hp:p= .error (a,er)) (hb:But w.heap.size [r] w w'):kqV w r p (.panicked [{ v:=dqb a er,recovered:=false }]) w':=by
 subst hp
 exact⟨hb,rfl⟩
theorem mqF {w w':World} {r:Nat} {p:Rx aqc} {x:aqc} {s:Rs} {pool ifs flds mths:Value} (hp:p= .ok (x,s)) (hb:But w.heap.size [r] w w') (hc:aqy w' (fun g=>w.heap.size≤g) x pool ifs flds mths):
  kqV w r p (.returned (.agg (x.cells pool ifs flds mths).toArray)) w':=by
 subst hp
 exact⟨hb,pool,ifs,flds,mths,rfl,hc⟩
def bq0 (f:aqq):Value:= .agg #[.int .i64 f.acc, .int .i64 f.name, .int .i64 f.desc, .int .i64 f.value]
def bqL (m:aqr) (code traps:Value):Value:= .agg #[.int .i64 m.acc, .int .i64 m.name, .int .i64 m.desc, .bool m.has, .int .i64 m.stack, .int .i64 m.locals,code,traps]
def kqW:Prop:= ∀(r:Nat) (A:Option Addr) (cap:Nat) (l:List UInt8) (st:Rs) (w:World) (ok:Nat→Prop),(∀g,ok g→g≠r)→aq2 w r A cap l st→eqA w r ok st.pool→
 Calls Tryz.prog 121 #[.pointer (some ⟨r,0,none⟩)] w (cq6 w r A cap l (bqY l st) fun x v w'=>v=bq0 x)
def iqp:Prop:= ∀(r:Nat) (A:Option Addr) (cap:Nat) (l:List UInt8) (st:Rs) (w:World) (ok:Nat→Prop),(∀g,ok g→g≠r)→aq2 w r A cap l st→eqA w r ok st.pool→
 Calls Tryz.prog 122 #[.pointer (some ⟨r,0,none⟩)] w (cq6 w r A cap l (cq5 l st) fun x v w'=> ∃code traps,v=bqL x code traps∧aqO w' (fun g=>w.heap.size≤g) x code traps)
end Go.Proofs.YtdbniocnjhfhdaaGreatDoor
