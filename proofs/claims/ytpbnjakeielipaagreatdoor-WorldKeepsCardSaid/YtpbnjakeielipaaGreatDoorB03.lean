/-
  What the laws rest on, part 3: walks of the program's functions and plain laws. Conditions: none but those that each theorem names.
-/
import Derived.Test.YtpbnjakeielipaaGreatDoorB02
import Derived.Test.YtpbnjakeielipaaGreatDoorB00
import Derived.Deep.AppendLies
import Derived.Deep.RegionLaw
import Derived.Laws.Rows
import Derived.Laws.CopyOwn
import Derived.Laws.Tables
set_option linter.unusedSimpArgs false
set_option linter.unusedVariables false
set_option maxRecDepth 100000
set_option maxHeartbeats 2000000
namespace Go.Proofs.YtpbnjakeielipaaGreatDoor
open Go Go.RowKit Lib
theorem bytesP_ok {l:List UInt8} {n:Nat} {st s:Rs} {x:List UInt8} (h:bytesP l n st= .ok (x,s)):s={ st with pos:=st.pos+n }:=by
 unfold bytesP at h
 split at h
 ·cases h
 ·split at h
  ·cases h
  ·injection h with h
   injection h with _ h
   exact h.symm
theorem numP_ok {l:List UInt8} {n:Nat} {st s:Rs} {x:Nat} (h:numP l n st= .ok (x,s)):s={ st with pos:=st.pos+n }:=by
 unfold numP at h
 rcases hb:bytesP l n st with e| ⟨b,s'⟩
 ·rw [hb] at h
  cases h
 ·rw [hb,Rx.bind_ok] at h
  injection h with h
  injection h with _ h
  subst h
  exact bytesP_ok hb
theorem nameP_ok {l:List UInt8} {st s:Rs} {x:Nat×ByteArray} (h:nameP l st= .ok (x,s)):s={ st with pos:=st.pos+2 }:=by
 unfold nameP at h
 rcases hb:numP l 2 st with e| ⟨b,s'⟩
 ·rw [hb] at h
  cases h
 ·rw [hb,Rx.bind_ok] at h
  split at h
  ·cases h
  ·split at h
   ·injection h with h
    injection h with _ h
    subst h
    exact numP_ok hb
   ·cases h
theorem attr_more {σ:Type} (l:List UInt8) (want:Option (List UInt8)) (act:σ→Nat→Nat→Rs→Rx σ) (n i:Nat) (h:i<n) (seen:Bool) (x:σ) (st:Rs):
  attrP l want act (n - i) seen x st=Rx.bind (nameP l st) fun a s1=>
  if want=some a.2.toList∧seen=true then .error (a.1,24)
  else Rx.bind (numP l 4 s1) fun long s2=>
   if want=some a.2.toList then Rx.bind (act x a.1 long s2) fun x' s3=>attrP l want act (n - (i+1)) true x' s3
   else Rx.bind (bytesP l long s2) fun _ s3=>attrP l want act (n - (i+1)) seen x s3:=by
 obtain⟨k,hk⟩: ∃k,n - i=k+1:=⟨n - i - 1,by omega⟩
 rw [hk,show n - (i+1)=k by omega]
 rfl
theorem attr_done {σ:Type} (l:List UInt8) (want:Option (List UInt8)) (act:σ→Nat→Nat→Rs→Rx σ) (n:Nat) (seen:Bool) (x:σ) (st:Rs):attrP l want act (n - n) seen x st= .ok (x,st):=by rw [Nat.sub_self];rfl
theorem skip_any (r:Nat) (A:Option Addr) (cap:Nat) (l:List UInt8) (st:Rs) (w:World) (ok:Nat→Prop) (hok: ∀g,ok g→g≠r) (h:RdrAt w r A cap l st) (hp:PlAt w r ok st.pool):
  Calls Tryz.prog 125 #[.pointer (some ⟨r,0,none⟩), .string ⟨#[]⟩, .nilFunc] w (RPost w r A cap l (skipP l st) fun x v w'=>v= .tuple #[]):=by
 have d1:=h.c1
 have hr:=h.lt
 have H0:=Lib.hid h
 have HP0:=Lib.hid hp
 have HK:=Lib.hid hok
 have HA0:=Lib.hid (RB.refl r w)
 have HE0:=Lib.hid (show skipP l st=Rx.bind (numP l 2 st) _ from rfl)
 clear h hp hok
 go_enter Tryz.func125,Tryz.ntmps125
 go_wp2_with (go_at_call 119;refine(number_any r A cap 2 l st _ (H0.out.keepB H0.out (by repeat' (first|with_reducible exact Below.refl _ _|with_reducible refine below_drewN ?_ _|with_reducible refine Below.drew ?_|with_reducible refine Below.setCell ?_ ?_ _|with_reducible refine Below.alloc ?_ ?_ _|omega| (simp;done) | (simp;omega)))) (by omega)).mono ?_;refine stop_here ?_)
 refine go_on ?_
 intro e w1 hq
 rcases hq.cases with⟨a,er,hp,hb,rfl⟩ | ⟨x1,s1,v,hp,hb,rfl,⟨rfl,hn1⟩,hs⟩
 ·have HP:=Lib.hid (HE0.out.trans (bind_stop hp))
  clear hp
  have HA:=Lib.hid (ha_step HA0.out hr (by repeat' (first|with_reducible exact Below.refl _ _|with_reducible refine below_drewN ?_ _|with_reducible refine Below.drew ?_|with_reducible refine Below.setCell ?_ ?_ _|with_reducible refine Below.alloc ?_ ?_ _|omega| (simp;done) | (simp;omega))) hb)
  clear hb
  go_wp2_with fail
  exact(show _∧_ from⟨rfl,rpost_error HP.out HA.out⟩)
 ·have HE1:=Lib.hid (HE0.out.trans (bind_step hp))
  have hpx:=hp
  clear hp
  have HA1:=Lib.hid (ha_step HA0.out hr (by repeat' (first|with_reducible exact Below.refl _ _|with_reducible refine below_drewN ?_ _|with_reducible refine Below.drew ?_|with_reducible refine Below.setCell ?_ ?_ _|with_reducible refine Below.alloc ?_ ?_ _|omega| (simp;done) | (simp;omega))) hb)
  have HS1:=Lib.hid hs
  have hz1:=hb.but.size
  try simp at hz1
  have hy1:=HA1.out.but.size
  clear hb hs
  have hps:s1.pool=st.pool:=by rw [numP_ok hpx]
  clear hpx
  have HPS:=Lib.hid hps
  clear hps
  go_wp2_with fail
  go_loopw [6,7,8,9,10,13] (fun seen at' nm is long i wr=> ∃(k:Nat) (sr:Rs),k≤x1∧i= .int .i64 k∧seen= .bool false∧Hid (RB r w wr)∧Hid (RdrAt wr r A cap l sr)∧Hid (sr.pool=st.pool)∧Hid (skipP l st=attrP l none (fun x _ _ s=> .ok (x,s)) (x1 - k) false () sr)) (fun seen at' nm is long i _=>x1 - (RowKit.intOf i).toNat)
  case atStart=>exact⟨0,s1,by omega,rfl,rfl,HA1,HS1,HPS,HE1⟩
  case round=>
   obtain⟨k,sr,hk,rfl,rfl,HAr,HSr,HPr,HEr⟩:=hrel
   have hyr:=HAr.out.but.size
   by_cases hlt:k<x1
   ·have HEr:=Lib.hid (HEr.out.trans (attr_more l none _ x1 k hlt false () sr))
    have HPP:=Lib.hid (show PlAt wr r ok sr.pool by rw [HPr.out];exact HP0.out.step HAr.out HK.out)
    go_wp2_with (go_at_call 137;refine(name_any r A cap l sr _ ok HK.out (H0.out.keepB HSr.out (by repeat' (first|with_reducible exact Below.refl _ _|with_reducible refine below_drewN ?_ _|with_reducible refine Below.drew ?_|with_reducible refine Below.setCell ?_ ?_ _|with_reducible refine Below.alloc ?_ ?_ _|omega| (simp;done) | (simp;omega)))) (HPP.out.low (by omega) (Below.refl _ _))).mono ?_;refine stop_here ?_)
    refine go_on ?_
    intro e w2 hq
    rcases hq.cases with⟨a,er,hp,hb,rfl⟩ | ⟨x2,s2,v,hp,hb,rfl,⟨rfl,hn2⟩,hs⟩
    ·have HP:=Lib.hid (HEr.out.trans (bind_stop hp))
     clear hp
     have HA:=Lib.hid (ha_step HAr.out hr (by repeat' (first|with_reducible exact Below.refl _ _|with_reducible refine below_drewN ?_ _|with_reducible refine Below.drew ?_|with_reducible refine Below.setCell ?_ ?_ _|with_reducible refine Below.alloc ?_ ?_ _|omega| (simp;done) | (simp;omega))) hb)
     clear hb
     go_wp2_with fail
     exact(show _∧_ from⟨rfl,rpost_error HP.out HA.out⟩)
    ·have HE2:=Lib.hid (HEr.out.trans (bind_step hp))
     have hpx:=hp
     clear hp
     have HA2:=Lib.hid (ha_step HAr.out hr (by repeat' (first|with_reducible exact Below.refl _ _|with_reducible refine below_drewN ?_ _|with_reducible refine Below.drew ?_|with_reducible refine Below.setCell ?_ ?_ _|with_reducible refine Below.alloc ?_ ?_ _|omega| (simp;done) | (simp;omega))) hb)
     have HS2:=Lib.hid hs
     have hz2:=hb.but.size
     try simp at hz2
     have hy2:=HA2.out.but.size
     clear hb hs
     have HN2:=Lib.hid (show s2.pool=sr.pool by rw [nameP_ok hpx])
     clear hpx
     have HE2:=Lib.hid (HE2.out.trans (if_neg (by simp)))
     go_wp2_with (go_at_call 119;refine(number_any r A cap 4 l s2 _ (H0.out.keepB HS2.out (by repeat' (first|with_reducible exact Below.refl _ _|with_reducible refine below_drewN ?_ _|with_reducible refine Below.drew ?_|with_reducible refine Below.setCell ?_ ?_ _|with_reducible refine Below.alloc ?_ ?_ _|omega| (simp;done) | (simp;omega)))) (by omega)).mono ?_;refine stop_here ?_)
     refine go_on ?_
     intro e w3 hq
     rcases hq.cases with⟨a,er,hp,hb,rfl⟩ | ⟨x3,s3,v,hp,hb,rfl,⟨rfl,hn3⟩,hs⟩
     ·have HP:=Lib.hid (HE2.out.trans (bind_stop hp))
      clear hp
      have HA:=Lib.hid (ha_step HA2.out hr (by repeat' (first|with_reducible exact Below.refl _ _|with_reducible refine below_drewN ?_ _|with_reducible refine Below.drew ?_|with_reducible refine Below.setCell ?_ ?_ _|with_reducible refine Below.alloc ?_ ?_ _|omega| (simp;done) | (simp;omega))) hb)
      clear hb
      go_wp2_with fail
      exact(show _∧_ from⟨rfl,rpost_error HP.out HA.out⟩)
     ·have HE3:=Lib.hid (HE2.out.trans (bind_step hp))
      have hpx:=hp
      clear hp
      have HA3:=Lib.hid (ha_step HA2.out hr (by repeat' (first|with_reducible exact Below.refl _ _|with_reducible refine below_drewN ?_ _|with_reducible refine Below.drew ?_|with_reducible refine Below.setCell ?_ ?_ _|with_reducible refine Below.alloc ?_ ?_ _|omega| (simp;done) | (simp;omega))) hb)
      have HS3:=Lib.hid hs
      have hz3:=hb.but.size
      try simp at hz3
      have hy3:=HA3.out.but.size
      clear hb hs
      have HN3:=Lib.hid (show s3.pool=s2.pool by rw [numP_ok hpx])
      clear hpx
      have HE3:=Lib.hid (HE3.out.trans (if_neg (by simp)))
      go_wp2_with (go_at_call 133;refine(bytes_any r A cap _ l s3 _ (H0.out.keepB HS3.out (by repeat' (first|with_reducible exact Below.refl _ _|with_reducible refine below_drewN ?_ _|with_reducible refine Below.drew ?_|with_reducible refine Below.setCell ?_ ?_ _|with_reducible refine Below.alloc ?_ ?_ _|omega| (simp;done) | (simp;omega)))) (by omega)).mono ?_;refine stop_here ?_)
      refine go_on ?_
      intro e w4 hq
      rcases hq.cases with⟨a,er,hp,hb,rfl⟩ | ⟨x4,s4,v,hp,hb,rfl,⟨A',cap',rfl,hrd⟩,hs⟩
      ·have HP:=Lib.hid (HE3.out.trans (bind_stop hp))
       clear hp
       have HA:=Lib.hid (ha_step HA3.out hr (by repeat' (first|with_reducible exact Below.refl _ _|with_reducible refine below_drewN ?_ _|with_reducible refine Below.drew ?_|with_reducible refine Below.setCell ?_ ?_ _|with_reducible refine Below.alloc ?_ ?_ _|omega| (simp;done) | (simp;omega))) hb)
       clear hb
       go_wp2_with fail
       exact(show _∧_ from⟨rfl,rpost_error HP.out HA.out⟩)
      ·have HE4:=Lib.hid (HE3.out.trans (bind_step hp))
       have hpx:=hp
       clear hp
       have HA4:=Lib.hid (ha_step HA3.out hr (by repeat' (first|with_reducible exact Below.refl _ _|with_reducible refine below_drewN ?_ _|with_reducible refine Below.drew ?_|with_reducible refine Below.setCell ?_ ?_ _|with_reducible refine Below.alloc ?_ ?_ _|omega| (simp;done) | (simp;omega))) hb)
       have HS4:=Lib.hid hs
       have hz4:=hb.but.size
       try simp at hz4
       have hy4:=HA4.out.but.size
       clear hb hs
       have HN4:=Lib.hid (show s4.pool=st.pool by rw [bytesP_ok hpx];exact HN3.out.trans (HN2.out.trans HPr.out))
       clear hpx hrd
       go_wp2_with fail
       go_roundw
       case rel=>exact⟨k+1,s4,by omega,by go_num,rfl,HA4,HS4,HN4,HE4⟩
       case measure=>simp [RowKit.intOf];omega
   ·have hkk:k=x1:=by omega
    subst hkk
    go_wp2_with fail
    go_end0
    exact rpost_ok (HEr.out.trans (attr_done _ _ _ _ _ _ _)) HAr.out rfl HSr.out
def Keeps {α:Type} (pool:List Ko) (p:Rx α):Prop:= ∀x s,p= .ok (x,s)→s.pool=pool
theorem keeps_error {α:Type} (pool:List Ko) (e:Nat×Nat):Keeps pool (.error e:Rx α):=fun _ _ h=>by cases h
theorem keeps_ok {α:Type} {pool:List Ko} (x:α) {s:Rs} (h:s.pool=pool):Keeps pool (.ok (x,s)):=fun _ _ e=>by
 injection e with e
 injection e with _ e
 subst e
 exact h
theorem keeps_bind {α β:Type} {pool:List Ko} {p:Rx α} {f:α→Rs→Rx β} (hp:Keeps pool p) (hf: ∀x s,s.pool=pool→Keeps pool (f x s)):Keeps pool (Rx.bind p f):=by
 rcases p with e| ⟨x,s⟩
 ·exact keeps_error _ _
 ·exact hf x s (hp x s rfl)
theorem keeps_ite {α:Type} {pool:List Ko} {c:Prop} [Decidable c] {p q:Rx α} (h1:Keeps pool p) (h2:Keeps pool q):Keeps pool (if c then p else q):=by
 split
 ·exact h1
 ·exact h2
theorem keeps_bytes (l:List UInt8) (n:Nat) (st:Rs):Keeps st.pool (bytesP l n st):=keeps_ite (keeps_error _ _) (keeps_ite (keeps_error _ _) (keeps_ok _ rfl))
theorem keeps_at {α:Type} {f:Rs→Rx α} (hf: ∀st,Keeps st.pool (f st)) {s:Rs} {pool:List Ko} (h:s.pool=pool):Keeps pool (f s):=h▸hf s
theorem keeps_num (l:List UInt8) (n:Nat) (st:Rs):Keeps st.pool (numP l n st):=keeps_bind (keeps_bytes l n st) fun _ _ h=>keeps_ok _ h
theorem keeps_count (l:List UInt8) (m:Nat) (st:Rs):Keeps st.pool (countP l m st):=keeps_bind (keeps_num l 2 st) fun _ _ h=>keeps_ite (keeps_error _ _) (keeps_ok _ h)
theorem keeps_rep {α:Type} {f:Rs→Rx α} (hf: ∀st,Keeps st.pool (f st)): ∀(k:Nat) (st:Rs),Keeps st.pool (repP f k st)
 |0,st=>keeps_ok _ rfl
 |k+1,st=>keeps_bind (hf st) fun _ s h=>keeps_bind (h▸keeps_rep hf k s) fun _ _ h=>keeps_ok _ h
theorem keeps_name (l:List UInt8) (st:Rs):Keeps st.pool (nameP l st):=keeps_bind (keeps_num l 2 st) fun n s h=>by
 split
 ·exact keeps_error _ _
 ·exact keeps_ite (keeps_ok _ h) (keeps_error _ _)
theorem keeps_attr {σ:Type} (l:List UInt8) (want:Option (List UInt8)) {act:σ→Nat→Nat→Rs→Rx σ} (ha: ∀x a n st,Keeps st.pool (act x a n st)): ∀(k:Nat) (seen:Bool) (x:σ) (st:Rs),Keeps st.pool (attrP l want act k seen x st)
 |0,seen,x,st=>keeps_ok _ rfl
 |k+1,seen,x,st=>keeps_bind (keeps_name l st) fun a s1 h1=>keeps_ite (keeps_error _ _) (keeps_bind (keeps_at (keeps_num l 4) h1) fun n s2 h2=>
   keeps_ite (keeps_bind (h2▸ha x a.1 n s2) fun x' s3 h3=>h3▸keeps_attr l want ha k true x' s3) (keeps_bind (keeps_at (keeps_bytes l n) h2) fun _ s3 h3=>h3▸keeps_attr l want ha k seen x s3))
theorem keeps_attrs {σ:Type} (l:List UInt8) (want:Option (List UInt8)) {act:σ→Nat→Nat→Rs→Rx σ} (ha: ∀x a n st,Keeps st.pool (act x a n st)) (x:σ) (st:Rs):Keeps st.pool (attrsP l want act x st):=
 keeps_bind (keeps_num l 2 st) fun k s h=>h▸keeps_attr l want ha k false x s
theorem keeps_skip (l:List UInt8) (st:Rs):Keeps st.pool (skipP l st):=keeps_attrs l none (fun _ _ _ _=>keeps_ok _ rfl) () st
theorem keeps_field (l:List UInt8) (st:Rs):Keeps st.pool (fieldP l st):=keeps_bind (keeps_num l 2 st) fun _ s1 h1=>keeps_bind (keeps_at (keeps_num l 2) h1) fun _ s2 h2=>keeps_bind (keeps_at (keeps_num l 2) h2) fun _ s3 h3=>
 h3▸keeps_attrs l _ (fun _ _ _ s=>keeps_ite (keeps_error _ _) (keeps_bind (keeps_num l 2 s) fun _ _ h=>keeps_ok _ h)) _ s3
theorem keeps_trap (l:List UInt8) (st:Rs):Keeps st.pool (trapP l st):=keeps_bind (keeps_num l 2 st) fun _ s1 h1=>keeps_bind (keeps_at (keeps_num l 2) h1) fun _ s2 h2=>keeps_bind (keeps_at (keeps_num l 2) h2) fun _ s3 h3=>
 keeps_bind (keeps_at (keeps_num l 2) h3) fun _ s4 h4=>keeps_ok _ h4
theorem keeps_code (l:List UInt8) (m:MethV) (a n:Nat) (st:Rs):Keeps st.pool (codeP l m a n st):=
 keeps_bind (keeps_num l 2 { st with most:=st.pos+n,named:=a }) fun _ s1 h1=>keeps_bind (keeps_at (keeps_num l 2) h1) fun _ s2 h2=>keeps_bind (keeps_at (keeps_num l 4) h2) fun k s3 h3=>
  keeps_ite (keeps_error _ _) (keeps_bind (keeps_at (keeps_bytes l k) h3) fun _ s4 h4=>keeps_bind (keeps_at (keeps_count l 64) h4) fun c s5 h5=>keeps_bind (keeps_at (keeps_rep (keeps_trap l) c) h5) fun _ s6 h6=>
   keeps_bind (keeps_at (keeps_skip l) h6) fun _ s7 h7=>keeps_ite (keeps_error _ _) (keeps_ok _ h7))
theorem keeps_meth (l:List UInt8) (st:Rs):Keeps st.pool (methP l st):=keeps_bind (keeps_num l 2 st) fun _ s1 h1=>keeps_bind (keeps_at (keeps_num l 2) h1) fun _ s2 h2=>keeps_bind (keeps_at (keeps_num l 2) h2) fun _ s3 h3=>
 h3▸keeps_attrs l _ (fun m a n s=>keeps_code l m a n s) _ s3
set_option maxHeartbeats 1000000
theorem hb_step {w wp W wk:World} {S:List Nat} (h:But w.heap.size S w wp) (hl:Below w.heap.size wp W) (hb:But W.heap.size S W wk):But w.heap.size S w wk:=
 (h.below_trans hl).trans (hb.mono (Nat.le_trans h.size hl.size) (fun _ _ h=>h))
theorem rdr_pool {w:World} {r:Nat} {A:Option Addr} {cap:Nat} {l:List UInt8} {st:Rs} (h:RdrAt w r A cap l st) (pool:List Ko) (v:Value):RdrAt (w.setCell ⟨r,4,none⟩ v) r A cap l { st with pool:=pool } where
 c0:=(World.cell?_setCell_other _ _ _ _ (by simp)).trans h.c0
 c1:=(World.cell?_setCell_other _ _ _ _ (by simp)).trans h.c1
 c2:=(World.cell?_setCell_other _ _ _ _ (by simp)).trans h.c2
 c3:=(World.cell?_setCell_other _ _ _ _ (by simp)).trans h.c3
 fz:=fun o=>by simp [go_sem,h.fz o]
 rd:=h.rd.but ((But.refl w.heap.size [r] w).set ⟨r,4,none⟩ (.inl (by simp)) _) (fun a ha=>by simpa using h.ne a ha)
 ne:=h.ne
 lt:=by simpa using h.lt
 len:=h.len
 pos:=h.pos
 pm:=h.pm
 most:=h.most
theorem step_lies {P:Program} {w:World} {ops:Array Oper} {o:Oper} {a:Act} {K:Act→World→Prop} {Q:Exit→Act→World→Prop} {E:Prop} (hgd:o.guard=none) (s x:Operand) (t:TypeId)
  (ho:o.op= .call { callee:= .builtin .append,args:= #[s,x],argTypes:= #[t,t] }) {e:TypeId} {z:Value} {size bytes:Nat}
  (ht:P.underlying t=some (.slice e)) (hi:(P.info? e).map (fun i=> (i.zero,i.size,i.bytes))=some (some z,size,bytes)) (hzs:z.cells.size=size) (hsz:0<size)
  (base:Nat) {v:Value} {n:Nat} {xs:List Value} (hs:a.eval s=v) (hown:w.ownsRow base e size v n xs)
  {ad:Addr} {m c:Nat} {news:List Value} (hx:a.eval x= .slice (some ad) m c) (hl:news.length=m*size) (hnews: ∀j u,news[j]?=some u→w.cell? (ad.add j)=some u) (h1: ∀u∈news,u.oneCell'=true)
  (hm:0<m) (h63:n+m≤maxLen) (hbytes:(n+m)*bytes≤140737488355328) (hbase:base≤w.heap.size)
  (h: ∀g cap w',w'.ownsRow base e size (.slice (some ⟨g,0,none⟩) (n+m) cap) (n+m) (xs++news)→w.grownBy w' v.ownBlock→Below base w w'→(v.ownBlock=some g∨g=w.heap.size)→
   K (a.put o.dst (.slice (some ⟨g,0,none⟩) (n+m) cap)) w'):if Region.wanted o (yielded ops a.tmps)=true then Oper.wp P o a w K Q else E:=by
 obtain⟨i,hi,hz,hsize,hby⟩:=info_parts hi
 exact step_append_lies w hgd s x t ho base e i z size bytes ht hi hz hsize hby hzs hsz v n xs hs hown ad m c news hx hl hnews h1 hm h63 hbytes hbase _ rfl fun g cap w' h2 h3 h4 _=>h g cap w' h2 h3 ((Below.refl _ _).grown h3 hbase fun k hk=> (hown.lt k hk).1) h4
theorem info_const:(Tryz.prog.info? 81).map (fun i=> (i.zero,i.size,i.bytes))=some (some (.agg #[.int .i64 0, .string ⟨#[]⟩, .int .i64 0, .int .i64 0, .int .i64 0]),5,48):=by kernel_rfl
theorem info_field:(Tryz.prog.info? 168).map (fun i=> (i.zero,i.size,i.bytes))=some (some (.agg #[.int .i64 0, .int .i64 0, .int .i64 0, .int .i64 0]),4,32):=by kernel_rfl
theorem info_method:(Tryz.prog.info? 172).map (fun i=> (i.zero,i.size,i.bytes))=some (some (.agg #[.int .i64 0, .int .i64 0, .int .i64 0, .bool false, .int .i64 0, .int .i64 0, .slice none 0 0, .slice none 0 0]),8,96):=by kernel_rfl
theorem own_slice {w:World} {base:Nat} {e:TypeId} {size n:Nat} {v:Value} {xs:List Value} (h:w.ownsRow base e size v n xs): ∃A cap,v= .slice A n cap:=by
 rcases h.2 with⟨rfl,rfl⟩ | ⟨g,cap,cur,rfl,_⟩
 ·exact⟨none,0,rfl⟩
 ·exact⟨_,cap,rfl⟩
structure Kp (lo:Nat) (v w:World):Prop where
 kept:Kept (fun g=>lo≤g∧g<v.heap.size) v w
theorem Kp.refl (lo:Nat) (v:World):Kp lo v v:=⟨⟨Nat.le_refl _,fun _ _ _ _=>rfl⟩⟩
theorem Kp.size {lo:Nat} {v w:World} (h:Kp lo v w):v.heap.size≤w.heap.size:=h.kept.size
theorem Kp.set {lo:Nat} {v w:World} (h:Kp lo v w) (p:Addr) (u:Value) (hp:p.block<lo):Kp lo v (w.setCell p u):=
 ⟨⟨by simpa using h.size,fun g hg ho o=> (World.cell?_of_block (w:=w) (Below.heap_setCell w p u g (by omega))).trans (h.kept.cell g hg ho o)⟩⟩
theorem Kp.below {lo:Nat} {v w w':World} (h:Kp lo v w) (hb:Below v.heap.size w w'):Kp lo v w':=
 ⟨⟨Nat.le_trans h.size hb.size,fun g hg ho o=> (hb.cell (p:=⟨g,o,none⟩) ho.2).trans (h.kept.cell g hg ho o)⟩⟩
theorem Kp.alloc {lo:Nat} {v w:World} (h:Kp lo v w) (o:Obj) (_:True):Kp lo v (w.alloc o):=h.below ((Below.refl _ _).alloc h.size o)
theorem Kp.step {lo:Nat} {v w w':World} {r:Nat} (h:Kp lo v w) (hb:But w.heap.size [r] w w') (hr:r<lo) (_:True):Kp lo v w':=
 ⟨⟨Nat.le_trans h.size hb.size,fun g hg ho o=> (hb.cell (p:=⟨g,o,none⟩) (Nat.lt_of_lt_of_le ho.2 h.size) (by simp;omega)).trans (h.kept.cell g hg ho o)⟩⟩
theorem Kp.slat {lo size n:Nat} {v w:World} {cells:List Value} {x:Value} (h:Kp lo v w) (hs:SlAt v (fun g=>lo≤g) size n cells x):SlAt w (fun g=>lo≤g) size n cells x:=
 ((hs.mono (ok':=fun g=>lo≤g∧g<v.heap.size) fun g hg ho=> ⟨ho,hg⟩).keep h.kept).mono fun g _ ho=>ho.1
theorem Kp.meth {lo:Nat} {v w:World} {m:MethV} {c t:Value} (h:Kp lo v w) (hm:MethAt v (fun g=>lo≤g) m c t):MethAt w (fun g=>lo≤g) m c t:=⟨h.slat hm.hcode,h.slat hm.htraps⟩
theorem meth_mono {w:World} {lo:Nat} {c:Nat→Prop} {m:MethV} {code traps:Value} (h:MethAt w (fun g=>lo≤g∧c g) m code traps):MethAt w (fun g=>lo≤g) m code traps:=⟨h.hcode.mono fun _ _ h=>h.1,h.htraps.mono fun _ _ h=>h.1⟩
theorem meths_next {lo base n:Nat} {wr W wq:World} {e:TypeId} {size:Nat} {pv:Value} {xs:List Value} {r:Nat} {ks:List (MethV×Value×Value)} {x:MethV} {code traps:Value} (h: ∀q∈ks,MethAt wr (fun g=>lo≤g∧pv.ownBlock≠some g) q.1 q.2.1 q.2.2)
  (ho:wr.ownsRow base e size pv n xs) (hd:Below wr.heap.size wr W) (hb:But W.heap.size [r] W wq) (hr:r<lo) (hlo:lo≤wr.heap.size) (hm:MethAt wq (fun g=>W.heap.size≤g) x code traps):
  ∀q∈ks++ [(x,code,traps)],MethAt wq (fun g=>lo≤g∧pv.ownBlock≠some g) q.1 q.2.1 q.2.2:=by
 have hk:Kept (fun g=>lo≤g∧pv.ownBlock≠some g) wr wq:=
  ⟨Nat.le_trans hd.size hb.size,fun g hg hok o=> (hb.cell (p:=⟨g,o,none⟩) (Nat.lt_of_lt_of_le hg hd.size) (by simp;omega)).trans (hd.cell (p:=⟨g,o,none⟩) hg)⟩
 intro q hq
 rcases List.mem_append.1 hq with hq|hq
 ·exact⟨(h q hq).hcode.keep hk,(h q hq).htraps.keep hk⟩
 ·obtain rfl:q=(x,code,traps):=by simpa using hq
  have hz:=hd.size
  have hok: ∀g,W.heap.size≤g→lo≤g∧pv.ownBlock≠some g:=fun g hg=> ⟨by omega,fun e=>by have:=(ho.lt g e).2;omega⟩
  exact⟨hm.hcode.mono fun g _ hg=>hok g hg,hm.htraps.mono fun g _ hg=>hok g hg⟩
theorem meths_grown {lo:Nat} {wq W':World} {o:Obj} {pv:Value} {ks:List (MethV×Value×Value)} {g6 n c:Nat} (h: ∀q∈ks,MethAt wq (fun g=>lo≤g∧pv.ownBlock≠some g) q.1 q.2.1 q.2.2)
  (hg:(wq.alloc o).grownBy W' pv.ownBlock) (hl: ∀q,pv.ownBlock=some q→q<wq.heap.size) (hgg:pv.ownBlock=some g6∨g6=(wq.alloc o).heap.size):
  ∀q∈ks,MethAt W' (fun g=>lo≤g∧(Value.slice (some ⟨g6,0,none⟩) n c).ownBlock≠some g) q.1 q.2.1 q.2.2:=by
 have hz:=hg.size
 simp only [World.size_alloc] at hz hgg
 have hk:Kept (fun g=>lo≤g∧pv.ownBlock≠some g) wq W':=⟨by omega,fun g hgl hok off=>by
  rw [World.cell?_of_block (w:=wq.alloc o) (hg.block g (by simp;omega) (fun e=>hok.2 e.symm)),World.cell?_alloc_lt _ _ _ hgl]⟩
 have hs: ∀{size n:Nat} {cells:List Value} {v:Value},SlAt wq (fun g=>lo≤g∧pv.ownBlock≠some g) size n cells v→SlAt W' (fun g=>lo≤g∧(Value.slice (some ⟨g6,0,none⟩) n c).ownBlock≠some g) size n cells v:=by
  intro size n cells v h
  have h2:=(h.mono (ok':=fun g=> (lo≤g∧pv.ownBlock≠some g)∧g<wq.heap.size) fun g hgl hok=> ⟨hok,hgl⟩)
  refine((h2.keep (hk.mono fun g hg=>hg.1)).mono fun g _ hok=> ⟨hok.1.1,fun e=> ?_⟩)
  have e':g6=g:=by simpa [Value.ownBlock] using e
  subst e'
  rcases hgg with hgg|hgg
  ·exact hok.1.2 hgg
  ·have:=hok.2
   omega
 intro q hq
 exact⟨hs (h q hq).hcode,hs (h q hq).htraps⟩
theorem meths_set {lo:Nat} {w:World} {c:Nat→Prop} {ks:List (MethV×Value×Value)} (h: ∀q∈ks,MethAt w (fun g=>lo≤g∧c g) q.1 q.2.1 q.2.2) (p:Addr) (u:Value) (hp:p.block<lo): ∀q∈ks,MethAt (w.setCell p u) (fun g=>lo≤g∧c g) q.1 q.2.1 q.2.2:=by
 have hk:Kept (fun g=>lo≤g∧c g) w (w.setCell p u):=⟨by simp,fun g hg hok o=>World.cell?_of_block (w:=w) (Below.heap_setCell w p u g (by omega))⟩
 exact fun q hq=> ⟨(h q hq).hcode.keep hk,(h q hq).htraps.keep hk⟩
theorem slat_ifs {w:World} {ok:Nat→Prop} {ks:List Nat} {v:Value} (h:SlAt w ok 1 ks.length (ks.map fun n:Nat=>Value.int .i64 n) v):SlAt w ok 1 (ks.map Int.ofNat).length ((ks.map Int.ofNat).map (Value.int .i64)) v:=by
 have e:(ks.map Int.ofNat).map (Value.int .i64)=ks.map fun n:Nat=>Value.int .i64 n:=by rw [List.map_map];rfl
 rw [e,List.length_map]
 exact h
theorem class_at {w w':World} {lo B:Nat} {mi ma a t u:Nat} {ks1:List Ko} {ks2:List Nat} {ks3:List FieldV} {ms:List (MethV×Value×Value)} {p i f m:Value} (hk:Kp lo w w') (hB:B≤lo) (h1:SlAt w (fun g=>lo≤g) 5 ks1.length (ks1.flatMap Ko.cells) p)
  (h2:SlAt w (fun g=>lo≤g) 1 ks2.length (ks2.map fun n:Nat=>Value.int .i64 n) i) (h3:SlAt w (fun g=>lo≤g) 4 ks3.length (ks3.flatMap FieldV.cells) f) (h4:SlAt w (fun g=>lo≤g) 8 ms.length (methCells ms) m) (h5: ∀q∈ms,MethAt w (fun g=>lo≤g) q.1 q.2.1 q.2.2):
  ClassAt w' (fun g=>B≤g) ⟨mi,ma,ks1,a,t,u,ks2.map Int.ofNat,ks3,ms.map (·.1)⟩ p i f m:=by
 refine ClassAt.mono (ok:=fun g=>lo≤g) ⟨hk.slat h1,slat_ifs (hk.slat h2),hk.slat h3,ms,rfl, ?_,fun q hq=>hk.meth (h5 q hq)⟩ fun g _ h=>Nat.le_trans hB h
 rw [List.length_map]
 exact hk.slat h4
theorem Bx.row {w:World} {g:Nat} {vs:List Value} {t:TypeId} (h:Bx w g vs t) (cs:List Value):Bx (w.setRow g cs.toArray) g cs t:=setRow_heap w g _ _ t _ h
theorem Kp.row {lo g:Nat} {v w:World} (h:Kp lo v w) (hg:g<lo) (cs:Array Value):Kp lo v (w.setRow g cs):=
 ⟨⟨by simpa using h.size,fun k hk ho o=> (World.cell?_of_block (w:=w) (setRow_other w g k cs (by omega))).trans (h.kept.cell k hk ho o)⟩⟩
theorem results_row {P:Program} {fn:Func} {tmps:Array Value} {a:Tmp} {T:TypeId} {g:Nat} {vs:List Value} {t:TypeId} {w:World} {d:TypeDesc} (hr:fn.results= #[.cell a T]) (ha:tmps.getD a undef= .pointer (some ⟨g,0,none⟩)) (hb:Bx w g vs t)
  (hu:P.underlying T=some d) (hd:(match d with| .struct _| .array _ _=>true|_=>false)=true) (hi:(P.info? T).map (·.size)=some vs.length):(results fn tmps).run P w= .ok (.agg vs.toArray) w:=by
 have:=run_loadVar_row (P:=P) w g t T vs.toArray (0,0) d hb hu hd (by simpa using hi)
 unfold results
 rw [hr]
 rw [Array.getD_eq_getD_getElem?] at ha
 simp [ha,asAddr,this,Result.andThen]
def CPost (w:World) (r:Nat) (p:Rx ClassV) (e:Ending) (w':World):Prop:=
 But w.heap.size [r] w w'∧match p with
  | .ok (x,_)=> ∃pool ifs flds mths,e= .returned (.agg (x.cells pool ifs flds mths).toArray)∧ClassAt w' (fun g=>w.heap.size≤g) x pool ifs flds mths
  | .error (a,er)=>e= .panicked [{ v:=stopV a er,recovered:=false }]
theorem cpost_error {w w':World} {r:Nat} {p:Rx ClassV} {a er:Nat} (hp:p= .error (a,er)) (hb:But w.heap.size [r] w w'):CPost w r p (.panicked [{ v:=stopV a er,recovered:=false }]) w':=by
 subst hp
 exact⟨hb,rfl⟩
theorem cpost_ok {w w':World} {r:Nat} {p:Rx ClassV} {x:ClassV} {s:Rs} {pool ifs flds mths:Value} (hp:p= .ok (x,s)) (hb:But w.heap.size [r] w w') (hc:ClassAt w' (fun g=>w.heap.size≤g) x pool ifs flds mths):
  CPost w r p (.returned (.agg (x.cells pool ifs flds mths).toArray)) w':=by
 subst hp
 exact⟨hb,pool,ifs,flds,mths,rfl,hc⟩
def fieldV (f:FieldV):Value:= .agg #[.int .i64 f.acc, .int .i64 f.name, .int .i64 f.desc, .int .i64 f.value]
def methV (m:MethV) (code traps:Value):Value:= .agg #[.int .i64 m.acc, .int .i64 m.name, .int .i64 m.desc, .bool m.has, .int .i64 m.stack, .int .i64 m.locals,code,traps]
def FieldC:Prop:= ∀(r:Nat) (A:Option Addr) (cap:Nat) (l:List UInt8) (st:Rs) (w:World) (ok:Nat→Prop),(∀g,ok g→g≠r)→RdrAt w r A cap l st→PlAt w r ok st.pool→
 Calls Tryz.prog 123 #[.pointer (some ⟨r,0,none⟩)] w (RPost w r A cap l (fieldP l st) fun x v w'=>v=fieldV x)
def MethodC:Prop:= ∀(r:Nat) (A:Option Addr) (cap:Nat) (l:List UInt8) (st:Rs) (w:World) (ok:Nat→Prop),(∀g,ok g→g≠r)→RdrAt w r A cap l st→PlAt w r ok st.pool→
 Calls Tryz.prog 124 #[.pointer (some ⟨r,0,none⟩)] w (RPost w r A cap l (methP l st) fun x v w'=> ∃code traps,v=methV x code traps∧MethAt w' (fun g=>w.heap.size≤g) x code traps)
end Go.Proofs.YtpbnjakeielipaaGreatDoor
