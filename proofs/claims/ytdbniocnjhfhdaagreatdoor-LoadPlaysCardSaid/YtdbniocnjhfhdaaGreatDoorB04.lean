/- Part 4 of what the laws rest on: walks. Conditions: those that each theorem names. -/
import Derived.Test.YtdbniocnjhfhdaaGreatDoorB03
import Derived.Deep.RegionHeld2
set_option linter.unusedSimpArgs false
set_option linter.unusedVariables false
set_option maxRecDepth 100000
set_option maxHeartbeats 2000000
namespace Go.Proofs.YtdbniocnjhfhdaaGreatDoor
open Go Go.RowKit Lib
structure RS (r:Nat) (S:List Nat) (w w':World):Prop where
 but:But w.heap.size (r::S) w w'
 c4:w'.cell? ⟨r,4,none⟩=w.cell? ⟨r,4,none⟩
theorem RS.refl (r:Nat) (S:List Nat) (w:World):RS r S w w:=⟨But.refl _ _ _,rfl⟩
theorem RS.trans {r:Nat} {S:List Nat} {a b c:World} (h:RS r S a b) (k:RS r S b c):RS r S a c:=⟨h.but.trans (k.but.mono h.but.size fun _ _ h=>h),k.c4.trans h.c4⟩
theorem RS.of_rb {r:Nat} {S:List Nat} {w w':World} (h:RB r w w'):RS r S w w':=⟨h.but.mono Nr fun k _ hk=>by simp at hk;simp [hk],h.c4⟩
theorem RS.step {r:Nat} {S:List Nat} {w wp W wk:World} (h:RS r S w wp) (hr:r<w.heap.size) (hl:Below w.heap.size wp W) (hb:RB r W wk):RS r S w wk:=
 ⟨(h.but.below_trans hl).trans (hb.but.mono (Nat.le_trans h.but.size hl.size) fun k _ hk=>by simp at hk;simp [hk]),hb.c4.trans ((hl.cell (p:=⟨r,4,none⟩) hr).trans h.c4)⟩
theorem RS.low {r:Nat} {S:List Nat} {w wp W:World} (h:RS r S w wp) (hr:r<w.heap.size) (hl:Below w.heap.size wp W):RS r S w W:=⟨h.but.below_trans hl,(hl.cell (p:=⟨r,4,none⟩) hr).trans h.c4⟩
theorem eqA.rs {w w':World} {r:Nat} {S:List Nat} {ok:Nat→Prop} {pool:List Ko} (h:eqA w r ok pool) (hb:RS r S w w') (hr: ∀g,ok g→g≠r∧g∉S):eqA w' r ok pool:=by
 obtain⟨pv,h1,h2⟩:=h
 exact⟨pv,hb.c4.trans h1,h2.keep (aqC.of_but hb.but (fun g hg=>by simpa using hr g hg))⟩
def fqy {σ:Type} (w:World) (r:Nat) (S:List Nat) (A:Option Addr) (cap:Nat) (l:List UInt8) (p:Rx σ) (T:σ→World→Prop) (e:Ending) (w':World):Prop:=
 RS r S w w'∧match p with
  | .ok (x,st')=>e= .returned (.tuple #[])∧T x w'∧aq2 w' r A cap l st'
  | .error (a,er)=>e= .panicked [{ v:=dqb a er,recovered:=false }]
theorem aqw {σ:Type} {w w':World} {r:Nat} {S:List Nat} {A:Option Addr} {cap:Nat} {l:List UInt8} {p:Rx σ} {T:σ→World→Prop} {a er:Nat} (hp:p= .error (a,er)) (hb:RS r S w w'):fqy w r S A cap l p T (.panicked [{ v:=dqb a er,recovered:=false }]) w':=by
 subst hp
 exact⟨hb,rfl⟩
theorem eqB {σ:Type} {w w':World} {r:Nat} {S:List Nat} {A:Option Addr} {cap:Nat} {l:List UInt8} {p:Rx σ} {T:σ→World→Prop} {x:σ} {st':Rs} (hp:p= .ok (x,st')) (hb:RS r S w w') (ht:T x w') (hs:aq2 w' r A cap l st'):fqy w r S A cap l p T (.returned (.tuple #[])) w':=by
 subst hp
 exact⟨hb,rfl,ht,hs⟩
theorem fqy.cases {σ:Type} {w w':World} {r:Nat} {S:List Nat} {A:Option Addr} {cap:Nat} {l:List UInt8} {p:Rx σ} {T:σ→World→Prop} {e:Ending} (h:fqy w r S A cap l p T e w'):
  (∃a er,p= .error (a,er)∧RS r S w w'∧e= .panicked [{ v:=dqb a er,recovered:=false }])∨ ∃x st',p= .ok (x,st')∧RS r S w w'∧e= .returned (.tuple #[])∧T x w'∧aq2 w' r A cap l st':=by
 rcases p with⟨a,er⟩ | ⟨x,st'⟩
 ·exact .inl ⟨a,er,rfl,h.1,h.2⟩
 exact .inr ⟨x,st',rfl,h.1,h.2⟩
theorem iqq {σ:Type} (c1 c2:Value) (want:ByteArray) (hw:want.toList≠ []) (S:List Nat) (T:σ→World→Prop) (act:σ→Nat→Nat→Rs→Rx σ) (r:Nat) (A:Option Addr) (cap:Nat) (l:List UInt8) (st:Rs) (x:σ) (w:World) (ok:Nat→Prop)
  (hok: ∀g,ok g→g≠r∧g∉S) (hT: ∀x W W',T x W→But W.heap.size [r] W W'→T x W') (hk: ∀x a n s,cqi s.pool (act x a n s))
  (hact: ∀a n s W,aq2 W r A cap l s→eqA W r ok s.pool→T x W→a≤65536→n<4294967296→Calls Tryz.prog 137 #[.int .i64 (a:Nat), .int .i64 (n:Nat),c1,c2] W (fqy W r S A cap l (act x a n s) T))
  (h:aq2 w r A cap l st) (hp:eqA w r ok st.pool) (hx:T x w):
  Calls Tryz.prog 123 #[.pointer (some ⟨r,0,none⟩), .string want, .func (.func 137) #[] #[c1,c2]] w (fqy w r S A cap l (cqg l (some want.toList) act x st) T):=by
 have d1:=h.c1
 have hr:=h.lt
 have H0:=Hq h
 have HP0:=Hq hp
 have HK:=Hq hok
 have HTK:=Hq hT
 have HKE:=Hq hk
 have HAC:=Hq hact
 have HT0:=Hq hx
 have hwb:(want.toList== [])=false:=by simpa using hw
 have hwe:want.toList.isEmpty=false:=by simpa using hw
 have hwn:(!want.toList.isEmpty)=true:=by simpa using hw
 have HW:=Hq hw
 have HA0:=Hq (RS.refl r S w)
 have HE0:=Hq (show cqg l (some want.toList) act x st=Rx.bind (aqS l 2 st) _ from rfl)
 clear h hp hok hT hk hact hx hw
 go_enter Tryz.func123,Tryz.ntmps123
 go_wp2_with (go_at_call 117;refine(aqn r A cap 2 l st _ (H0.out.keepB H0.out Bq9) Om).mono ?_;refine aqa ?_)
 refine aqb ?_
 intro e w1 hq
 rcases hq.cases with⟨a,er,hp,hb,rfl⟩ | ⟨x1,s1,v,hp,hb,rfl,⟨rfl,hn1⟩,hs⟩
 ·have HP:=Hq (HE0.out.trans (aqg hp))
  clear hp
  have HA:=Hq (HA0.out.step hr Bq9 hb)
  clear hb
  go_wp2_with fail
  exact(show _∧_ from⟨rfl,aqw HP.out HA.out⟩)
 have HE1:=Hq (HE0.out.trans (aqi hp))
 have hpx:=hp
 clear hp
 have HA1:=Hq (HA0.out.step hr Bq9 hb)
 have HS1:=Hq hs
 have hz1:=hb.but.size
 try simp at hz1
 have hy1:=HA1.out.but.size
 clear hb hs
 have HPS:=Hq (aqv _ _ _ _ _ hpx)
 clear hpx
 have HT1:=Hq (HTK.out x _ _ HT0.out hq.1.but)
 go_wp2_with fail
 go_loopw [6,7,8,9,10,13] (fun seen at' nm is long i wr=> ∃(k:Nat) (sr:Rs) (xr:σ) (sn:Bool),k≤x1∧i= .int .i64 k∧seen= .bool sn∧Hid (RS r S w wr)∧Hid (aq2 wr r A cap l sr)∧Hid (sr.pool=st.pool)∧Hid (T xr wr)∧Hid (sn=false→xr=x)∧Hid (cqg l (some want.toList) act x st=bqX l (some want.toList) act (x1 - k) sn xr sr)) (fun seen at' nm is long i _=>x1 - (RowKit.intOf i).toNat)
 case atStart=>exact⟨0,s1,x,false,by omega,rfl,rfl,HA1,HS1,HPS,HT1,Hq (fun _=>rfl),HE1⟩
 case round=>
  obtain⟨k,sr,xr,sn,hk,rfl,rfl,HAr,HSr,HPr,HTr,HXr,HEr⟩:=hrel
  have hyr:=HAr.out.but.size
  by_cases hlt:k<x1
  ·have HEr:=Hq (HEr.out.trans (fqv l _ act x1 k hlt sn xr sr))
   have HPP:=Hq (show eqA wr r ok sr.pool by rw [HPr.out];exact HP0.out.rs HAr.out HK.out)
   go_wp2_with (go_at_call 140;refine(gqN r A cap l sr _ ok (fun g hg=> (HK.out g hg).1) (H0.out.keepB HSr.out Bq9) (HPP.out.low Om Rf9)).mono ?_;refine aqa ?_)
   refine aqb ?_
   intro e w2 hq
   rcases hq.cases with⟨a,er,hp,hb,rfl⟩ | ⟨x2,s2,v,hp,hb,rfl,⟨rfl,hn2⟩,hs⟩
   ·have HP:=Hq (HEr.out.trans (aqg hp))
    clear hp
    have HA:=Hq (HAr.out.step hr Bq9 hb)
    clear hb
    go_wp2_with fail
    exact(show _∧_ from⟨rfl,aqw HP.out HA.out⟩)
   have HE2:=Hq (HEr.out.trans (aqi hp))
   have hpx:=hp
   clear hp
   have HA2:=Hq (HAr.out.step hr Bq9 hb)
   have HS2:=Hq hs
   have hz2:=hb.but.size
   try simp at hz2
   have hy2:=HA2.out.but.size
   clear hb hs
   have HN2:=Hq ((eqR _ _ _ _ hpx).trans HPr.out)
   have HT2:=Hq (HTK.out xr _ _ HTr.out hq.1.but)
   clear hpx
   by_cases hnm:x2.2.toList=want.toList
   ·have hnb:(x2.2.toList==want.toList)=true:=by simp [hnm]
    have hso:some want.toList=some x2.2.toList:=by rw [hnm]
    cases sn with
    |true=>
     have HE2t:=Hq (HE2.out.trans (if_pos ⟨hso,rfl⟩))
     clear hnm hso
     go_wp2_with (go_at_call 118;refine(bqe _ _ _ _).mono ?_;rintro e w9 ⟨rfl,rfl⟩)
     exact(show _∧_ from⟨rfl,aqw HE2t.out (HA2.out.low hr Bq9)⟩)
    |false=>
     have HE2:=Hq (HE2.out.trans (if_neg Sp))
     have HSO:=Hq hso
     clear hnm hso
     go_wp2_with (go_at_call 117;refine(aqn r A cap 4 l s2 _ (H0.out.keepB HS2.out Bq9) Om).mono ?_;refine aqa ?_)
     refine aqb ?_
     intro e w3 hq
     rcases hq.cases with⟨a,er,hp,hb,rfl⟩ | ⟨x3,s3,v,hp,hb,rfl,⟨rfl,hn3⟩,hs⟩
     ·have HP:=Hq (HE2.out.trans (aqg hp))
      clear hp
      have HA:=Hq (HA2.out.step hr Bq9 hb)
      clear hb
      go_wp2_with fail
      exact(show _∧_ from⟨rfl,aqw HP.out HA.out⟩)
     have HE3:=Hq (HE2.out.trans (aqi hp))
     have hpx:=hp
     clear hp
     have HA3:=Hq (HA2.out.step hr Bq9 hb)
     have HS3:=Hq hs
     have hz3:=hb.but.size
     try simp at hz3
     have hy3:=HA3.out.but.size
     clear hb hs
     have HN3:=Hq ((aqv _ _ _ _ _ hpx).trans HN2.out)
     have HT3:=Hq (HTK.out xr _ _ HT2.out hq.1.but)
     clear hpx
     have HE3:=Hq (HE3.out.trans (if_pos HSO.out))
     have HPP3:=Hq (show eqA w3 r ok s3.pool by rw [HN3.out];exact HP0.out.rs HA3.out HK.out)
     go_wp2_with fail
     obtain rfl:=HXr.out (by trivial)
     refine(HAC.out x2.1 x3 s3 _ HS3.out HPP3.out HT3.out hn2 hn3).mono ?_
     intro e w4 hq
     rcases hq.cases with⟨a,er,hp,hb,rfl⟩ | ⟨x4,s4,hp,hb,rfl,ht,hs⟩
     ·have HP:=Hq (HE3.out.trans (aqg hp))
      clear hp
      have HA:=Hq (HA3.out.trans hb)
      clear hb
      go_wp2_with fail
      exact(show _∧_ from⟨rfl,aqw HP.out HA.out⟩)
     have HE4:=Hq (HE3.out.trans (aqi hp))
     have HN4:=Hq ((HKE.out _ _ _ _ _ _ hp).trans HN3.out)
     have HA4:=Hq (HA3.out.trans hb)
     have HT4:=Hq ht
     have HS4:=Hq hs
     clear hp hb ht hs
     go_wp2_with fail
     go_roundw
     case rel=>exact⟨k+1,s4,x4,true,by omega,by go_num,rfl,HA4,HS4,HN4,HT4,Hq (fun h=>by cases h),HE4⟩
     case measure=>simp [RowKit.intOf];omega
   have hnb:(x2.2.toList==want.toList)=false:=by simp [hnm]
   have hso: ¬(some want.toList=some x2.2.toList):=fun e=>hnm (by injection e with e;exact e.symm)
   have HE2:=Hq (HE2.out.trans (if_neg (fun h=>hso h.1)))
   have HSO:=Hq hso
   clear hnm hso
   go_wp2_with (go_at_call 117;refine(aqn r A cap 4 l s2 _ (H0.out.keepB HS2.out Bq9) Om).mono ?_;refine aqa ?_)
   refine aqb ?_
   intro e w3 hq
   rcases hq.cases with⟨a,er,hp,hb,rfl⟩ | ⟨x3,s3,v,hp,hb,rfl,⟨rfl,hn3⟩,hs⟩
   ·have HP:=Hq (HE2.out.trans (aqg hp))
    clear hp
    have HA:=Hq (HA2.out.step hr Bq9 hb)
    clear hb
    go_wp2_with fail
    exact(show _∧_ from⟨rfl,aqw HP.out HA.out⟩)
   have HE3:=Hq (HE2.out.trans (aqi hp))
   have hpx:=hp
   clear hp
   have HA3:=Hq (HA2.out.step hr Bq9 hb)
   have HS3:=Hq hs
   have hz3:=hb.but.size
   try simp at hz3
   have hy3:=HA3.out.but.size
   clear hb hs
   have HN3:=Hq ((aqv _ _ _ _ _ hpx).trans HN2.out)
   have HT3:=Hq (HTK.out xr _ _ HT2.out hq.1.but)
   clear hpx
   have HE3:=Hq (HE3.out.trans (if_neg HSO.out))
   go_wp2_with (go_at_call 136;refine(dqc r A cap _ l s3 _ (H0.out.keepB HS3.out Bq9) Om).mono ?_;refine aqa ?_)
   refine aqb ?_
   intro e w4 hq
   rcases hq.cases with⟨a,er,hp,hb,rfl⟩ | ⟨x4,s4,v,hp,hb,rfl,⟨A',cap',rfl,hrd⟩,hs⟩
   ·have HP:=Hq (HE3.out.trans (aqg hp))
    clear hp
    have HA:=Hq (HA3.out.step hr Bq9 hb)
    clear hb
    go_wp2_with fail
    exact(show _∧_ from⟨rfl,aqw HP.out HA.out⟩)
   have HE4:=Hq (HE3.out.trans (aqi hp))
   have hpx:=hp
   clear hp
   have HA4:=Hq (HA3.out.step hr Bq9 hb)
   have HS4:=Hq hs
   have hz4:=hb.but.size
   try simp at hz4
   have hy4:=HA4.out.but.size
   clear hb hs
   have HN4:=Hq ((cqj _ _ _ _ _ hpx).trans HN3.out)
   have HT4:=Hq (HTK.out xr _ _ HT3.out hq.1.but)
   clear hpx hrd
   go_wp2_with fail
   go_roundw
   case rel=>exact⟨k+1,s4,xr,sn,by omega,by go_num,rfl,HA4,HS4,HN4,HT4,HXr,HE4⟩
   case measure=>simp [RowKit.intOf];omega
  have hkk:k=x1:=by omega
  subst hkk
  go_wp2_with fail
  go_end0
  exact eqB (HEr.out.trans (fqw _ _ _ _ _ _ _)) HAr.out HTr.out HSr.out
theorem hqi {σ:Type} (c1 c2:Value) (want:ByteArray) (hw:want.toList≠ []) (S:List Nat) (T:σ→World→Prop) (act:σ→Nat→Nat→Rs→Rx σ) (r:Nat) (A:Option Addr) (cap:Nat) (l:List UInt8) (st:Rs) (x:σ) (w:World) (ok:Nat→Prop)
  (hok: ∀g,ok g→g≠r∧g∉S) (hT: ∀x W W',T x W→But W.heap.size [r] W W'→T x W') (hk: ∀x a n s,cqi s.pool (act x a n s))
  (hact: ∀a n s W,aq2 W r A cap l s→eqA W r ok s.pool→T x W→a≤65536→n<4294967296→Calls Tryz.prog 138 #[.int .i64 (a:Nat), .int .i64 (n:Nat),c1,c2] W (fqy W r S A cap l (act x a n s) T))
  (h:aq2 w r A cap l st) (hp:eqA w r ok st.pool) (hx:T x w):
  Calls Tryz.prog 123 #[.pointer (some ⟨r,0,none⟩), .string want, .func (.func 138) #[] #[c1,c2]] w (fqy w r S A cap l (cqg l (some want.toList) act x st) T):=by
 have d1:=h.c1
 have hr:=h.lt
 have H0:=Hq h
 have HP0:=Hq hp
 have HK:=Hq hok
 have HTK:=Hq hT
 have HKE:=Hq hk
 have HAC:=Hq hact
 have HT0:=Hq hx
 have hwb:(want.toList== [])=false:=by simpa using hw
 have hwe:want.toList.isEmpty=false:=by simpa using hw
 have hwn:(!want.toList.isEmpty)=true:=by simpa using hw
 have HW:=Hq hw
 have HA0:=Hq (RS.refl r S w)
 have HE0:=Hq (show cqg l (some want.toList) act x st=Rx.bind (aqS l 2 st) _ from rfl)
 clear h hp hok hT hk hact hx hw
 go_enter Tryz.func123,Tryz.ntmps123
 go_wp2_with (go_at_call 117;refine(aqn r A cap 2 l st _ (H0.out.keepB H0.out Bq9) Om).mono ?_;refine aqa ?_)
 refine aqb ?_
 intro e w1 hq
 rcases hq.cases with⟨a,er,hp,hb,rfl⟩ | ⟨x1,s1,v,hp,hb,rfl,⟨rfl,hn1⟩,hs⟩
 ·have HP:=Hq (HE0.out.trans (aqg hp))
  clear hp
  have HA:=Hq (HA0.out.step hr Bq9 hb)
  clear hb
  go_wp2_with fail
  exact(show _∧_ from⟨rfl,aqw HP.out HA.out⟩)
 have HE1:=Hq (HE0.out.trans (aqi hp))
 have hpx:=hp
 clear hp
 have HA1:=Hq (HA0.out.step hr Bq9 hb)
 have HS1:=Hq hs
 have hz1:=hb.but.size
 try simp at hz1
 have hy1:=HA1.out.but.size
 clear hb hs
 have HPS:=Hq (aqv _ _ _ _ _ hpx)
 clear hpx
 have HT1:=Hq (HTK.out x _ _ HT0.out hq.1.but)
 go_wp2_with fail
 go_loopw [6,7,8,9,10,13] (fun seen at' nm is long i wr=> ∃(k:Nat) (sr:Rs) (xr:σ) (sn:Bool),k≤x1∧i= .int .i64 k∧seen= .bool sn∧Hid (RS r S w wr)∧Hid (aq2 wr r A cap l sr)∧Hid (sr.pool=st.pool)∧Hid (T xr wr)∧Hid (sn=false→xr=x)∧Hid (cqg l (some want.toList) act x st=bqX l (some want.toList) act (x1 - k) sn xr sr)) (fun seen at' nm is long i _=>x1 - (RowKit.intOf i).toNat)
 case atStart=>exact⟨0,s1,x,false,by omega,rfl,rfl,HA1,HS1,HPS,HT1,Hq (fun _=>rfl),HE1⟩
 case round=>
  obtain⟨k,sr,xr,sn,hk,rfl,rfl,HAr,HSr,HPr,HTr,HXr,HEr⟩:=hrel
  have hyr:=HAr.out.but.size
  by_cases hlt:k<x1
  ·have HEr:=Hq (HEr.out.trans (fqv l _ act x1 k hlt sn xr sr))
   have HPP:=Hq (show eqA wr r ok sr.pool by rw [HPr.out];exact HP0.out.rs HAr.out HK.out)
   go_wp2_with (go_at_call 140;refine(gqN r A cap l sr _ ok (fun g hg=> (HK.out g hg).1) (H0.out.keepB HSr.out Bq9) (HPP.out.low Om Rf9)).mono ?_;refine aqa ?_)
   refine aqb ?_
   intro e w2 hq
   rcases hq.cases with⟨a,er,hp,hb,rfl⟩ | ⟨x2,s2,v,hp,hb,rfl,⟨rfl,hn2⟩,hs⟩
   ·have HP:=Hq (HEr.out.trans (aqg hp))
    clear hp
    have HA:=Hq (HAr.out.step hr Bq9 hb)
    clear hb
    go_wp2_with fail
    exact(show _∧_ from⟨rfl,aqw HP.out HA.out⟩)
   have HE2:=Hq (HEr.out.trans (aqi hp))
   have hpx:=hp
   clear hp
   have HA2:=Hq (HAr.out.step hr Bq9 hb)
   have HS2:=Hq hs
   have hz2:=hb.but.size
   try simp at hz2
   have hy2:=HA2.out.but.size
   clear hb hs
   have HN2:=Hq ((eqR _ _ _ _ hpx).trans HPr.out)
   have HT2:=Hq (HTK.out xr _ _ HTr.out hq.1.but)
   clear hpx
   by_cases hnm:x2.2.toList=want.toList
   ·have hnb:(x2.2.toList==want.toList)=true:=by simp [hnm]
    have hso:some want.toList=some x2.2.toList:=by rw [hnm]
    cases sn with
    |true=>
     have HE2t:=Hq (HE2.out.trans (if_pos ⟨hso,rfl⟩))
     clear hnm hso
     go_wp2_with (go_at_call 118;refine(bqe _ _ _ _).mono ?_;rintro e w9 ⟨rfl,rfl⟩)
     exact(show _∧_ from⟨rfl,aqw HE2t.out (HA2.out.low hr Bq9)⟩)
    |false=>
     have HE2:=Hq (HE2.out.trans (if_neg Sp))
     have HSO:=Hq hso
     clear hnm hso
     go_wp2_with (go_at_call 117;refine(aqn r A cap 4 l s2 _ (H0.out.keepB HS2.out Bq9) Om).mono ?_;refine aqa ?_)
     refine aqb ?_
     intro e w3 hq
     rcases hq.cases with⟨a,er,hp,hb,rfl⟩ | ⟨x3,s3,v,hp,hb,rfl,⟨rfl,hn3⟩,hs⟩
     ·have HP:=Hq (HE2.out.trans (aqg hp))
      clear hp
      have HA:=Hq (HA2.out.step hr Bq9 hb)
      clear hb
      go_wp2_with fail
      exact(show _∧_ from⟨rfl,aqw HP.out HA.out⟩)
     have HE3:=Hq (HE2.out.trans (aqi hp))
     have hpx:=hp
     clear hp
     have HA3:=Hq (HA2.out.step hr Bq9 hb)
     have HS3:=Hq hs
     have hz3:=hb.but.size
     try simp at hz3
     have hy3:=HA3.out.but.size
     clear hb hs
     have HN3:=Hq ((aqv _ _ _ _ _ hpx).trans HN2.out)
     have HT3:=Hq (HTK.out xr _ _ HT2.out hq.1.but)
     clear hpx
     have HE3:=Hq (HE3.out.trans (if_pos HSO.out))
     have HPP3:=Hq (show eqA w3 r ok s3.pool by rw [HN3.out];exact HP0.out.rs HA3.out HK.out)
     go_wp2_with fail
     obtain rfl:=HXr.out (by trivial)
     refine(HAC.out x2.1 x3 s3 _ HS3.out HPP3.out HT3.out hn2 hn3).mono ?_
     intro e w4 hq
     rcases hq.cases with⟨a,er,hp,hb,rfl⟩ | ⟨x4,s4,hp,hb,rfl,ht,hs⟩
     ·have HP:=Hq (HE3.out.trans (aqg hp))
      clear hp
      have HA:=Hq (HA3.out.trans hb)
      clear hb
      go_wp2_with fail
      exact(show _∧_ from⟨rfl,aqw HP.out HA.out⟩)
     have HE4:=Hq (HE3.out.trans (aqi hp))
     have HN4:=Hq ((HKE.out _ _ _ _ _ _ hp).trans HN3.out)
     have HA4:=Hq (HA3.out.trans hb)
     have HT4:=Hq ht
     have HS4:=Hq hs
     clear hp hb ht hs
     go_wp2_with fail
     go_roundw
     case rel=>exact⟨k+1,s4,x4,true,by omega,by go_num,rfl,HA4,HS4,HN4,HT4,Hq (fun h=>by cases h),HE4⟩
     case measure=>simp [RowKit.intOf];omega
   have hnb:(x2.2.toList==want.toList)=false:=by simp [hnm]
   have hso: ¬(some want.toList=some x2.2.toList):=fun e=>hnm (by injection e with e;exact e.symm)
   have HE2:=Hq (HE2.out.trans (if_neg (fun h=>hso h.1)))
   have HSO:=Hq hso
   clear hnm hso
   go_wp2_with (go_at_call 117;refine(aqn r A cap 4 l s2 _ (H0.out.keepB HS2.out Bq9) Om).mono ?_;refine aqa ?_)
   refine aqb ?_
   intro e w3 hq
   rcases hq.cases with⟨a,er,hp,hb,rfl⟩ | ⟨x3,s3,v,hp,hb,rfl,⟨rfl,hn3⟩,hs⟩
   ·have HP:=Hq (HE2.out.trans (aqg hp))
    clear hp
    have HA:=Hq (HA2.out.step hr Bq9 hb)
    clear hb
    go_wp2_with fail
    exact(show _∧_ from⟨rfl,aqw HP.out HA.out⟩)
   have HE3:=Hq (HE2.out.trans (aqi hp))
   have hpx:=hp
   clear hp
   have HA3:=Hq (HA2.out.step hr Bq9 hb)
   have HS3:=Hq hs
   have hz3:=hb.but.size
   try simp at hz3
   have hy3:=HA3.out.but.size
   clear hb hs
   have HN3:=Hq ((aqv _ _ _ _ _ hpx).trans HN2.out)
   have HT3:=Hq (HTK.out xr _ _ HT2.out hq.1.but)
   clear hpx
   have HE3:=Hq (HE3.out.trans (if_neg HSO.out))
   go_wp2_with (go_at_call 136;refine(dqc r A cap _ l s3 _ (H0.out.keepB HS3.out Bq9) Om).mono ?_;refine aqa ?_)
   refine aqb ?_
   intro e w4 hq
   rcases hq.cases with⟨a,er,hp,hb,rfl⟩ | ⟨x4,s4,v,hp,hb,rfl,⟨A',cap',rfl,hrd⟩,hs⟩
   ·have HP:=Hq (HE3.out.trans (aqg hp))
    clear hp
    have HA:=Hq (HA3.out.step hr Bq9 hb)
    clear hb
    go_wp2_with fail
    exact(show _∧_ from⟨rfl,aqw HP.out HA.out⟩)
   have HE4:=Hq (HE3.out.trans (aqi hp))
   have hpx:=hp
   clear hp
   have HA4:=Hq (HA3.out.step hr Bq9 hb)
   have HS4:=Hq hs
   have hz4:=hb.but.size
   try simp at hz4
   have hy4:=HA4.out.but.size
   clear hb hs
   have HN4:=Hq ((cqj _ _ _ _ _ hpx).trans HN3.out)
   have HT4:=Hq (HTK.out xr _ _ HT3.out hq.1.but)
   clear hpx hrd
   go_wp2_with fail
   go_roundw
   case rel=>exact⟨k+1,s4,xr,sn,by omega,by go_num,rfl,HA4,HS4,HN4,HT4,HXr,HE4⟩
   case measure=>simp [RowKit.intOf];omega
  have hkk:k=x1:=by omega
  subst hkk
  go_wp2_with fail
  go_end0
  exact eqB (HEr.out.trans (fqw _ _ _ _ _ _ _)) HAr.out HTr.out HSr.out
theorem eqC {P:Program} {md:Region.Mode} {ops:Array Oper} {Q:Exit→Act→World→Prop} {S:World→Prop} {σ:Type} (L:σ→Array Bool) (J:σ→Act→World→Prop) (fu:σ→Nat) (rs:σ→List Nat)
  (hr: ∀s a w,J s a w→Region.ready md ops (L s)=rs s)
  (hd: ∀s a w,J s a w→rs s= []→Q .normal a w)
  (hs: ∀s a w,J s a w→ ∀i∈rs s, ∃s',L s'=(L s).setIfInBounds i true∧fu s=fu s'+1∧wpOp P ops Q i (fun a' w'=>S w'∧J s' a' w') a w):
  ∀n s a w,fu s=n→J s a w→wpAnyH P md ops Q S n (L s) a w
 |0,s,a,w,hn,hj=>by
  have h0:rs s= []:=by
   rcases hl:rs s with _| ⟨i,r⟩
   ·rfl
   obtain⟨s',_,h2,_⟩:=hs s a w hj i (by rw [hl];simp)
   omega
  exact⟨(hr s a w hj).trans h0,hd s a w hj h0⟩
 |n+1,s,a,w,hn,hj=>by
  refine⟨fun h0=>hd s a w hj ((hr s a w hj).symm.trans h0),fun i hi=> ?_⟩
  rw [hr s a w hj] at hi
  obtain⟨s',h1,h2,h3⟩:=hs s a w hj i hi
  refine wpOp_mono (fun a' w' h=> ⟨h.1, ?_⟩) h3
  rw [←h1]
  exact eqC L J fu rs hr hd hs n s' a' w' Om h.2
def fqz (s:Nat×Bool):Array Bool:= #[true,decide (1≤s.1),true,decide (2≤s.1),true,decide (3≤s.1),decide (4≤s.1),s.2,decide (5≤s.1)]
def kqX (s:Nat×Bool):List Nat:=(if s.1=0 then [1] else if s.1=1 then [3] else if s.1=2 then [5] else if s.1=3 then [6] else if s.1=4∧s.2 then [8] else [])++if s.2 then [] else [7]
def hqj (s:Nat×Bool):Nat:=5 - s.1+if s.2 then 0 else 1
theorem fqA {s:Nat×Bool} (h:s.1≤5) (h5:s.1=5→s.2=true):s=(0,false)∨s=(0,true)∨s=(1,false)∨s=(1,true)∨s=(2,false)∨s=(2,true)∨s=(3,false)∨s=(3,true)∨s=(4,false)∨s=(4,true)∨s=(5,true):=by
 obtain⟨k,b⟩:=s
 simp only at h h5
 have:k=0∨k=1∨k=2∨k=3∨k=4∨k=5:=by omega
 rcases this with rfl|rfl|rfl|rfl|rfl|rfl<;>cases b<;>simp_all
theorem kqY {s:Nat×Bool} {i:Nat} (h:i∈kqX s):(i=1∧s.1=0)∨(i=3∧s.1=1)∨(i=5∧s.1=2)∨(i=6∧s.1=3)∨(i=8∧s.1=4∧s.2=true)∨(i=7∧s.2=false):=by
 unfold kqX at h
 rw [List.mem_append] at h
 rcases h with h|h
 ·split at h
  ·simp_all
  split at h
  ·simp_all
  split at h
  ·simp_all
  split at h
  ·simp_all
  split at h
  ·simp_all
  cases h
 split at h
 ·cases h
 simp_all
theorem kqZ {P:Program} {md:Region.Mode} {ops:Array Oper} {Q:Exit→Act→World→Prop} {S:World→Prop} {n:Nat} {L L':Array Bool} {a:Act} {w:World} (h:L=L') (h':wpAnyH P md ops Q S n L' a w):wpAnyH P md ops Q S n L a w:=by
 rw [h]
 exact h'
theorem dqe {k:Nat} {b:Bool} (i:Nat) (h:(k=0∧i=1)∨(k=1∧i=3)∨(k=2∧i=5)∨(k=3∧i=6)∨(k=4∧i=8)):fqz (k+1,b)=(fqz (k,b)).setIfInBounds i true∧hqj (k,b)=hqj (k+1,b)+1:=by
 rcases h with⟨rfl,rfl⟩ | ⟨rfl,rfl⟩ | ⟨rfl,rfl⟩ | ⟨rfl,rfl⟩ | ⟨rfl,rfl⟩ <;>cases b<;>exact⟨rfl,rfl⟩
theorem jq2 {k:Nat}:fqz (k,true)=(fqz (k,false)).setIfInBounds 7 true∧hqj (k,false)=hqj (k,true)+1:=⟨by simp [fqz],rfl⟩
end Go.Proofs.YtdbniocnjhfhdaaGreatDoor
