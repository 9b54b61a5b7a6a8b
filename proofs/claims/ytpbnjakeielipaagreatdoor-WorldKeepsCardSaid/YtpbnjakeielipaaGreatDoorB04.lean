/-
  What the laws rest on, part 4: walks of the program's functions and plain laws. Conditions: none but those that each theorem names.
-/
import Derived.Test.YtpbnjakeielipaaGreatDoorB03
import Derived.Test.YtpbnjakeielipaaGreatDoorB00
import Derived.Deep.RegionHeld2
set_option linter.unusedSimpArgs false
set_option linter.unusedVariables false
set_option maxRecDepth 100000
set_option maxHeartbeats 2000000
namespace Go.Proofs.YtpbnjakeielipaaGreatDoor
open Go Go.RowKit Lib
structure RS (r:Nat) (S:List Nat) (w w':World):Prop where
 but:But w.heap.size (r::S) w w'
 c4:w'.cell? ⟨r,4,none⟩=w.cell? ⟨r,4,none⟩
theorem RS.refl (r:Nat) (S:List Nat) (w:World):RS r S w w:=⟨But.refl _ _ _,rfl⟩
theorem RS.trans {r:Nat} {S:List Nat} {a b c:World} (h:RS r S a b) (k:RS r S b c):RS r S a c:=⟨h.but.trans (k.but.mono h.but.size fun _ _ h=>h),k.c4.trans h.c4⟩
theorem RS.of_rb {r:Nat} {S:List Nat} {w w':World} (h:RB r w w'):RS r S w w':=⟨h.but.mono (Nat.le_refl _) fun k _ hk=>by simp at hk;simp [hk],h.c4⟩
theorem RS.step {r:Nat} {S:List Nat} {w wp W wk:World} (h:RS r S w wp) (hr:r<w.heap.size) (hl:Below w.heap.size wp W) (hb:RB r W wk):RS r S w wk:=
 ⟨(h.but.below_trans hl).trans (hb.but.mono (Nat.le_trans h.but.size hl.size) fun k _ hk=>by simp at hk;simp [hk]),hb.c4.trans ((hl.cell (p:=⟨r,4,none⟩) hr).trans h.c4)⟩
theorem RS.low {r:Nat} {S:List Nat} {w wp W:World} (h:RS r S w wp) (hr:r<w.heap.size) (hl:Below w.heap.size wp W):RS r S w W:=⟨h.but.below_trans hl,(hl.cell (p:=⟨r,4,none⟩) hr).trans h.c4⟩
theorem PlAt.rs {w w':World} {r:Nat} {S:List Nat} {ok:Nat→Prop} {pool:List Ko} (h:PlAt w r ok pool) (hb:RS r S w w') (hr: ∀g,ok g→g≠r∧g∉S):PlAt w' r ok pool:=by
 obtain⟨pv,h1,h2⟩:=h
 exact⟨pv,hb.c4.trans h1,h2.keep (Kept.of_but hb.but (fun g hg=>by simpa using hr g hg))⟩
def APost {σ:Type} (w:World) (r:Nat) (S:List Nat) (A:Option Addr) (cap:Nat) (l:List UInt8) (p:Rx σ) (T:σ→World→Prop) (e:Ending) (w':World):Prop:=
 RS r S w w'∧match p with
  | .ok (x,st')=>e= .returned (.tuple #[])∧T x w'∧RdrAt w' r A cap l st'
  | .error (a,er)=>e= .panicked [{ v:=stopV a er,recovered:=false }]
theorem apost_error {σ:Type} {w w':World} {r:Nat} {S:List Nat} {A:Option Addr} {cap:Nat} {l:List UInt8} {p:Rx σ} {T:σ→World→Prop} {a er:Nat} (hp:p= .error (a,er)) (hb:RS r S w w'):APost w r S A cap l p T (.panicked [{ v:=stopV a er,recovered:=false }]) w':=by
 subst hp
 exact⟨hb,rfl⟩
theorem apost_ok {σ:Type} {w w':World} {r:Nat} {S:List Nat} {A:Option Addr} {cap:Nat} {l:List UInt8} {p:Rx σ} {T:σ→World→Prop} {x:σ} {st':Rs} (hp:p= .ok (x,st')) (hb:RS r S w w') (ht:T x w') (hs:RdrAt w' r A cap l st'):APost w r S A cap l p T (.returned (.tuple #[])) w':=by
 subst hp
 exact⟨hb,rfl,ht,hs⟩
theorem APost.cases {σ:Type} {w w':World} {r:Nat} {S:List Nat} {A:Option Addr} {cap:Nat} {l:List UInt8} {p:Rx σ} {T:σ→World→Prop} {e:Ending} (h:APost w r S A cap l p T e w'):
  (∃a er,p= .error (a,er)∧RS r S w w'∧e= .panicked [{ v:=stopV a er,recovered:=false }])∨ ∃x st',p= .ok (x,st')∧RS r S w w'∧e= .returned (.tuple #[])∧T x w'∧RdrAt w' r A cap l st':=by
 rcases p with⟨a,er⟩ | ⟨x,st'⟩
 ·exact .inl ⟨a,er,rfl,h.1,h.2⟩
 ·exact .inr ⟨x,st',rfl,h.1,h.2⟩
theorem attrs_field {σ:Type} (c1 c2:Value) (want:ByteArray) (hw:want.toList≠ []) (S:List Nat) (T:σ→World→Prop) (act:σ→Nat→Nat→Rs→Rx σ) (r:Nat) (A:Option Addr) (cap:Nat) (l:List UInt8) (st:Rs) (x:σ) (w:World) (ok:Nat→Prop)
  (hok: ∀g,ok g→g≠r∧g∉S) (hT: ∀x W W',T x W→But W.heap.size [r] W W'→T x W') (hk: ∀x a n s,Keeps s.pool (act x a n s))
  (hact: ∀a n s W,RdrAt W r A cap l s→PlAt W r ok s.pool→T x W→a≤65536→n<4294967296→Calls Tryz.prog 134 #[.int .i64 (a:Nat), .int .i64 (n:Nat),c1,c2] W (APost W r S A cap l (act x a n s) T))
  (h:RdrAt w r A cap l st) (hp:PlAt w r ok st.pool) (hx:T x w):
  Calls Tryz.prog 125 #[.pointer (some ⟨r,0,none⟩), .string want, .func (.func 134) #[] #[c1,c2]] w (APost w r S A cap l (attrsP l (some want.toList) act x st) T):=by
 have d1:=h.c1
 have hr:=h.lt
 have H0:=Lib.hid h
 have HP0:=Lib.hid hp
 have HK:=Lib.hid hok
 have HTK:=Lib.hid hT
 have HKE:=Lib.hid hk
 have HAC:=Lib.hid hact
 have HT0:=Lib.hid hx
 have hwb:(want.toList== [])=false:=by simpa using hw
 have hwe:want.toList.isEmpty=false:=by simpa using hw
 have hwn:(!want.toList.isEmpty)=true:=by simpa using hw
 have HW:=Lib.hid hw
 have HA0:=Lib.hid (RS.refl r S w)
 have HE0:=Lib.hid (show attrsP l (some want.toList) act x st=Rx.bind (numP l 2 st) _ from rfl)
 clear h hp hok hT hk hact hx hw
 go_enter Tryz.func125,Tryz.ntmps125
 go_wp2_with (go_at_call 119;refine(number_any r A cap 2 l st _ (H0.out.keepB H0.out (by repeat' (first|with_reducible exact Below.refl _ _|with_reducible refine below_drewN ?_ _|with_reducible refine Below.drew ?_|with_reducible refine Below.setCell ?_ ?_ _|with_reducible refine Below.alloc ?_ ?_ _|omega| (simp;done) | (simp;omega)))) (by omega)).mono ?_;refine stop_here ?_)
 refine go_on ?_
 intro e w1 hq
 rcases hq.cases with⟨a,er,hp,hb,rfl⟩ | ⟨x1,s1,v,hp,hb,rfl,⟨rfl,hn1⟩,hs⟩
 ·have HP:=Lib.hid (HE0.out.trans (bind_stop hp))
  clear hp
  have HA:=Lib.hid (HA0.out.step hr (by repeat' (first|with_reducible exact Below.refl _ _|with_reducible refine below_drewN ?_ _|with_reducible refine Below.drew ?_|with_reducible refine Below.setCell ?_ ?_ _|with_reducible refine Below.alloc ?_ ?_ _|omega| (simp;done) | (simp;omega))) hb)
  clear hb
  go_wp2_with fail
  exact(show _∧_ from⟨rfl,apost_error HP.out HA.out⟩)
 ·have HE1:=Lib.hid (HE0.out.trans (bind_step hp))
  have hpx:=hp
  clear hp
  have HA1:=Lib.hid (HA0.out.step hr (by repeat' (first|with_reducible exact Below.refl _ _|with_reducible refine below_drewN ?_ _|with_reducible refine Below.drew ?_|with_reducible refine Below.setCell ?_ ?_ _|with_reducible refine Below.alloc ?_ ?_ _|omega| (simp;done) | (simp;omega))) hb)
  have HS1:=Lib.hid hs
  have hz1:=hb.but.size
  try simp at hz1
  have hy1:=HA1.out.but.size
  clear hb hs
  have HPS:=Lib.hid (keeps_num _ _ _ _ _ hpx)
  clear hpx
  have HT1:=Lib.hid (HTK.out x _ _ HT0.out hq.1.but)
  go_wp2_with fail
  go_loopw [6,7,8,9,10,13] (fun seen at' nm is long i wr=> ∃(k:Nat) (sr:Rs) (xr:σ) (sn:Bool),k≤x1∧i= .int .i64 k∧seen= .bool sn∧Hid (RS r S w wr)∧Hid (RdrAt wr r A cap l sr)∧Hid (sr.pool=st.pool)∧Hid (T xr wr)∧Hid (sn=false→xr=x)∧Hid (attrsP l (some want.toList) act x st=attrP l (some want.toList) act (x1 - k) sn xr sr)) (fun seen at' nm is long i _=>x1 - (RowKit.intOf i).toNat)
  case atStart=>exact⟨0,s1,x,false,by omega,rfl,rfl,HA1,HS1,HPS,HT1,Lib.hid (fun _=>rfl),HE1⟩
  case round=>
   obtain⟨k,sr,xr,sn,hk,rfl,rfl,HAr,HSr,HPr,HTr,HXr,HEr⟩:=hrel
   have hyr:=HAr.out.but.size
   by_cases hlt:k<x1
   ·have HEr:=Lib.hid (HEr.out.trans (attr_more l _ act x1 k hlt sn xr sr))
    have HPP:=Lib.hid (show PlAt wr r ok sr.pool by rw [HPr.out];exact HP0.out.rs HAr.out HK.out)
    go_wp2_with (go_at_call 137;refine(name_any r A cap l sr _ ok (fun g hg=> (HK.out g hg).1) (H0.out.keepB HSr.out (by repeat' (first|with_reducible exact Below.refl _ _|with_reducible refine below_drewN ?_ _|with_reducible refine Below.drew ?_|with_reducible refine Below.setCell ?_ ?_ _|with_reducible refine Below.alloc ?_ ?_ _|omega| (simp;done) | (simp;omega)))) (HPP.out.low (by omega) (Below.refl _ _))).mono ?_;refine stop_here ?_)
    refine go_on ?_
    intro e w2 hq
    rcases hq.cases with⟨a,er,hp,hb,rfl⟩ | ⟨x2,s2,v,hp,hb,rfl,⟨rfl,hn2⟩,hs⟩
    ·have HP:=Lib.hid (HEr.out.trans (bind_stop hp))
     clear hp
     have HA:=Lib.hid (HAr.out.step hr (by repeat' (first|with_reducible exact Below.refl _ _|with_reducible refine below_drewN ?_ _|with_reducible refine Below.drew ?_|with_reducible refine Below.setCell ?_ ?_ _|with_reducible refine Below.alloc ?_ ?_ _|omega| (simp;done) | (simp;omega))) hb)
     clear hb
     go_wp2_with fail
     exact(show _∧_ from⟨rfl,apost_error HP.out HA.out⟩)
    ·have HE2:=Lib.hid (HEr.out.trans (bind_step hp))
     have hpx:=hp
     clear hp
     have HA2:=Lib.hid (HAr.out.step hr (by repeat' (first|with_reducible exact Below.refl _ _|with_reducible refine below_drewN ?_ _|with_reducible refine Below.drew ?_|with_reducible refine Below.setCell ?_ ?_ _|with_reducible refine Below.alloc ?_ ?_ _|omega| (simp;done) | (simp;omega))) hb)
     have HS2:=Lib.hid hs
     have hz2:=hb.but.size
     try simp at hz2
     have hy2:=HA2.out.but.size
     clear hb hs
     have HN2:=Lib.hid ((keeps_name _ _ _ _ hpx).trans HPr.out)
     have HT2:=Lib.hid (HTK.out xr _ _ HTr.out hq.1.but)
     clear hpx
     by_cases hnm:x2.2.toList=want.toList
     ·have hnb:(x2.2.toList==want.toList)=true:=by simp [hnm]
      have hso:some want.toList=some x2.2.toList:=by rw [hnm]
      cases sn with
      |true=>
       have HE2t:=Lib.hid (HE2.out.trans (if_pos ⟨hso,rfl⟩))
       clear hnm hso
       go_wp2_with (go_at_call 120;refine(wrong_any _ _ _ _).mono ?_;rintro e w9 ⟨rfl,rfl⟩)
       exact(show _∧_ from⟨rfl,apost_error HE2t.out (HA2.out.low hr (by repeat' (first|with_reducible exact Below.refl _ _|with_reducible refine below_drewN ?_ _|with_reducible refine Below.drew ?_|with_reducible refine Below.setCell ?_ ?_ _|with_reducible refine Below.alloc ?_ ?_ _|omega| (simp;done) | (simp;omega))))⟩)
      |false=>
       have HE2:=Lib.hid (HE2.out.trans (if_neg (by simp)))
       have HSO:=Lib.hid hso
       clear hnm hso
       go_wp2_with (go_at_call 119;refine(number_any r A cap 4 l s2 _ (H0.out.keepB HS2.out (by repeat' (first|with_reducible exact Below.refl _ _|with_reducible refine below_drewN ?_ _|with_reducible refine Below.drew ?_|with_reducible refine Below.setCell ?_ ?_ _|with_reducible refine Below.alloc ?_ ?_ _|omega| (simp;done) | (simp;omega)))) (by omega)).mono ?_;refine stop_here ?_)
       refine go_on ?_
       intro e w3 hq
       rcases hq.cases with⟨a,er,hp,hb,rfl⟩ | ⟨x3,s3,v,hp,hb,rfl,⟨rfl,hn3⟩,hs⟩
       ·have HP:=Lib.hid (HE2.out.trans (bind_stop hp))
        clear hp
        have HA:=Lib.hid (HA2.out.step hr (by repeat' (first|with_reducible exact Below.refl _ _|with_reducible refine below_drewN ?_ _|with_reducible refine Below.drew ?_|with_reducible refine Below.setCell ?_ ?_ _|with_reducible refine Below.alloc ?_ ?_ _|omega| (simp;done) | (simp;omega))) hb)
        clear hb
        go_wp2_with fail
        exact(show _∧_ from⟨rfl,apost_error HP.out HA.out⟩)
       ·have HE3:=Lib.hid (HE2.out.trans (bind_step hp))
        have hpx:=hp
        clear hp
        have HA3:=Lib.hid (HA2.out.step hr (by repeat' (first|with_reducible exact Below.refl _ _|with_reducible refine below_drewN ?_ _|with_reducible refine Below.drew ?_|with_reducible refine Below.setCell ?_ ?_ _|with_reducible refine Below.alloc ?_ ?_ _|omega| (simp;done) | (simp;omega))) hb)
        have HS3:=Lib.hid hs
        have hz3:=hb.but.size
        try simp at hz3
        have hy3:=HA3.out.but.size
        clear hb hs
        have HN3:=Lib.hid ((keeps_num _ _ _ _ _ hpx).trans HN2.out)
        have HT3:=Lib.hid (HTK.out xr _ _ HT2.out hq.1.but)
        clear hpx
        have HE3:=Lib.hid (HE3.out.trans (if_pos HSO.out))
        have HPP3:=Lib.hid (show PlAt w3 r ok s3.pool by rw [HN3.out];exact HP0.out.rs HA3.out HK.out)
        go_wp2_with fail
        obtain rfl:=HXr.out (by trivial)
        refine(HAC.out x2.1 x3 s3 _ HS3.out HPP3.out HT3.out hn2 hn3).mono ?_
        intro e w4 hq
        rcases hq.cases with⟨a,er,hp,hb,rfl⟩ | ⟨x4,s4,hp,hb,rfl,ht,hs⟩
        ·have HP:=Lib.hid (HE3.out.trans (bind_stop hp))
         clear hp
         have HA:=Lib.hid (HA3.out.trans hb)
         clear hb
         go_wp2_with fail
         exact(show _∧_ from⟨rfl,apost_error HP.out HA.out⟩)
        ·have HE4:=Lib.hid (HE3.out.trans (bind_step hp))
         have HN4:=Lib.hid ((HKE.out _ _ _ _ _ _ hp).trans HN3.out)
         have HA4:=Lib.hid (HA3.out.trans hb)
         have HT4:=Lib.hid ht
         have HS4:=Lib.hid hs
         clear hp hb ht hs
         go_wp2_with fail
         go_roundw
         case rel=>exact⟨k+1,s4,x4,true,by omega,by go_num,rfl,HA4,HS4,HN4,HT4,Lib.hid (fun h=>by cases h),HE4⟩
         case measure=>simp [RowKit.intOf];omega
     ·have hnb:(x2.2.toList==want.toList)=false:=by simp [hnm]
      have hso: ¬(some want.toList=some x2.2.toList):=fun e=>hnm (by injection e with e;exact e.symm)
      have HE2:=Lib.hid (HE2.out.trans (if_neg (fun h=>hso h.1)))
      have HSO:=Lib.hid hso
      clear hnm hso
      go_wp2_with (go_at_call 119;refine(number_any r A cap 4 l s2 _ (H0.out.keepB HS2.out (by repeat' (first|with_reducible exact Below.refl _ _|with_reducible refine below_drewN ?_ _|with_reducible refine Below.drew ?_|with_reducible refine Below.setCell ?_ ?_ _|with_reducible refine Below.alloc ?_ ?_ _|omega| (simp;done) | (simp;omega)))) (by omega)).mono ?_;refine stop_here ?_)
      refine go_on ?_
      intro e w3 hq
      rcases hq.cases with⟨a,er,hp,hb,rfl⟩ | ⟨x3,s3,v,hp,hb,rfl,⟨rfl,hn3⟩,hs⟩
      ·have HP:=Lib.hid (HE2.out.trans (bind_stop hp))
       clear hp
       have HA:=Lib.hid (HA2.out.step hr (by repeat' (first|with_reducible exact Below.refl _ _|with_reducible refine below_drewN ?_ _|with_reducible refine Below.drew ?_|with_reducible refine Below.setCell ?_ ?_ _|with_reducible refine Below.alloc ?_ ?_ _|omega| (simp;done) | (simp;omega))) hb)
       clear hb
       go_wp2_with fail
       exact(show _∧_ from⟨rfl,apost_error HP.out HA.out⟩)
      ·have HE3:=Lib.hid (HE2.out.trans (bind_step hp))
       have hpx:=hp
       clear hp
       have HA3:=Lib.hid (HA2.out.step hr (by repeat' (first|with_reducible exact Below.refl _ _|with_reducible refine below_drewN ?_ _|with_reducible refine Below.drew ?_|with_reducible refine Below.setCell ?_ ?_ _|with_reducible refine Below.alloc ?_ ?_ _|omega| (simp;done) | (simp;omega))) hb)
       have HS3:=Lib.hid hs
       have hz3:=hb.but.size
       try simp at hz3
       have hy3:=HA3.out.but.size
       clear hb hs
       have HN3:=Lib.hid ((keeps_num _ _ _ _ _ hpx).trans HN2.out)
       have HT3:=Lib.hid (HTK.out xr _ _ HT2.out hq.1.but)
       clear hpx
       have HE3:=Lib.hid (HE3.out.trans (if_neg HSO.out))
       go_wp2_with (go_at_call 133;refine(bytes_any r A cap _ l s3 _ (H0.out.keepB HS3.out (by repeat' (first|with_reducible exact Below.refl _ _|with_reducible refine below_drewN ?_ _|with_reducible refine Below.drew ?_|with_reducible refine Below.setCell ?_ ?_ _|with_reducible refine Below.alloc ?_ ?_ _|omega| (simp;done) | (simp;omega)))) (by omega)).mono ?_;refine stop_here ?_)
       refine go_on ?_
       intro e w4 hq
       rcases hq.cases with⟨a,er,hp,hb,rfl⟩ | ⟨x4,s4,v,hp,hb,rfl,⟨A',cap',rfl,hrd⟩,hs⟩
       ·have HP:=Lib.hid (HE3.out.trans (bind_stop hp))
        clear hp
        have HA:=Lib.hid (HA3.out.step hr (by repeat' (first|with_reducible exact Below.refl _ _|with_reducible refine below_drewN ?_ _|with_reducible refine Below.drew ?_|with_reducible refine Below.setCell ?_ ?_ _|with_reducible refine Below.alloc ?_ ?_ _|omega| (simp;done) | (simp;omega))) hb)
        clear hb
        go_wp2_with fail
        exact(show _∧_ from⟨rfl,apost_error HP.out HA.out⟩)
       ·have HE4:=Lib.hid (HE3.out.trans (bind_step hp))
        have hpx:=hp
        clear hp
        have HA4:=Lib.hid (HA3.out.step hr (by repeat' (first|with_reducible exact Below.refl _ _|with_reducible refine below_drewN ?_ _|with_reducible refine Below.drew ?_|with_reducible refine Below.setCell ?_ ?_ _|with_reducible refine Below.alloc ?_ ?_ _|omega| (simp;done) | (simp;omega))) hb)
        have HS4:=Lib.hid hs
        have hz4:=hb.but.size
        try simp at hz4
        have hy4:=HA4.out.but.size
        clear hb hs
        have HN4:=Lib.hid ((keeps_bytes _ _ _ _ _ hpx).trans HN3.out)
        have HT4:=Lib.hid (HTK.out xr _ _ HT3.out hq.1.but)
        clear hpx hrd
        go_wp2_with fail
        go_roundw
        case rel=>exact⟨k+1,s4,xr,sn,by omega,by go_num,rfl,HA4,HS4,HN4,HT4,HXr,HE4⟩
        case measure=>simp [RowKit.intOf];omega
   ·have hkk:k=x1:=by omega
    subst hkk
    go_wp2_with fail
    go_end0
    exact apost_ok (HEr.out.trans (attr_done _ _ _ _ _ _ _)) HAr.out HTr.out HSr.out
theorem attrs_method {σ:Type} (c1 c2:Value) (want:ByteArray) (hw:want.toList≠ []) (S:List Nat) (T:σ→World→Prop) (act:σ→Nat→Nat→Rs→Rx σ) (r:Nat) (A:Option Addr) (cap:Nat) (l:List UInt8) (st:Rs) (x:σ) (w:World) (ok:Nat→Prop)
  (hok: ∀g,ok g→g≠r∧g∉S) (hT: ∀x W W',T x W→But W.heap.size [r] W W'→T x W') (hk: ∀x a n s,Keeps s.pool (act x a n s))
  (hact: ∀a n s W,RdrAt W r A cap l s→PlAt W r ok s.pool→T x W→a≤65536→n<4294967296→Calls Tryz.prog 135 #[.int .i64 (a:Nat), .int .i64 (n:Nat),c1,c2] W (APost W r S A cap l (act x a n s) T))
  (h:RdrAt w r A cap l st) (hp:PlAt w r ok st.pool) (hx:T x w):
  Calls Tryz.prog 125 #[.pointer (some ⟨r,0,none⟩), .string want, .func (.func 135) #[] #[c1,c2]] w (APost w r S A cap l (attrsP l (some want.toList) act x st) T):=by
 have d1:=h.c1
 have hr:=h.lt
 have H0:=Lib.hid h
 have HP0:=Lib.hid hp
 have HK:=Lib.hid hok
 have HTK:=Lib.hid hT
 have HKE:=Lib.hid hk
 have HAC:=Lib.hid hact
 have HT0:=Lib.hid hx
 have hwb:(want.toList== [])=false:=by simpa using hw
 have hwe:want.toList.isEmpty=false:=by simpa using hw
 have hwn:(!want.toList.isEmpty)=true:=by simpa using hw
 have HW:=Lib.hid hw
 have HA0:=Lib.hid (RS.refl r S w)
 have HE0:=Lib.hid (show attrsP l (some want.toList) act x st=Rx.bind (numP l 2 st) _ from rfl)
 clear h hp hok hT hk hact hx hw
 go_enter Tryz.func125,Tryz.ntmps125
 go_wp2_with (go_at_call 119;refine(number_any r A cap 2 l st _ (H0.out.keepB H0.out (by repeat' (first|with_reducible exact Below.refl _ _|with_reducible refine below_drewN ?_ _|with_reducible refine Below.drew ?_|with_reducible refine Below.setCell ?_ ?_ _|with_reducible refine Below.alloc ?_ ?_ _|omega| (simp;done) | (simp;omega)))) (by omega)).mono ?_;refine stop_here ?_)
 refine go_on ?_
 intro e w1 hq
 rcases hq.cases with⟨a,er,hp,hb,rfl⟩ | ⟨x1,s1,v,hp,hb,rfl,⟨rfl,hn1⟩,hs⟩
 ·have HP:=Lib.hid (HE0.out.trans (bind_stop hp))
  clear hp
  have HA:=Lib.hid (HA0.out.step hr (by repeat' (first|with_reducible exact Below.refl _ _|with_reducible refine below_drewN ?_ _|with_reducible refine Below.drew ?_|with_reducible refine Below.setCell ?_ ?_ _|with_reducible refine Below.alloc ?_ ?_ _|omega| (simp;done) | (simp;omega))) hb)
  clear hb
  go_wp2_with fail
  exact(show _∧_ from⟨rfl,apost_error HP.out HA.out⟩)
 ·have HE1:=Lib.hid (HE0.out.trans (bind_step hp))
  have hpx:=hp
  clear hp
  have HA1:=Lib.hid (HA0.out.step hr (by repeat' (first|with_reducible exact Below.refl _ _|with_reducible refine below_drewN ?_ _|with_reducible refine Below.drew ?_|with_reducible refine Below.setCell ?_ ?_ _|with_reducible refine Below.alloc ?_ ?_ _|omega| (simp;done) | (simp;omega))) hb)
  have HS1:=Lib.hid hs
  have hz1:=hb.but.size
  try simp at hz1
  have hy1:=HA1.out.but.size
  clear hb hs
  have HPS:=Lib.hid (keeps_num _ _ _ _ _ hpx)
  clear hpx
  have HT1:=Lib.hid (HTK.out x _ _ HT0.out hq.1.but)
  go_wp2_with fail
  go_loopw [6,7,8,9,10,13] (fun seen at' nm is long i wr=> ∃(k:Nat) (sr:Rs) (xr:σ) (sn:Bool),k≤x1∧i= .int .i64 k∧seen= .bool sn∧Hid (RS r S w wr)∧Hid (RdrAt wr r A cap l sr)∧Hid (sr.pool=st.pool)∧Hid (T xr wr)∧Hid (sn=false→xr=x)∧Hid (attrsP l (some want.toList) act x st=attrP l (some want.toList) act (x1 - k) sn xr sr)) (fun seen at' nm is long i _=>x1 - (RowKit.intOf i).toNat)
  case atStart=>exact⟨0,s1,x,false,by omega,rfl,rfl,HA1,HS1,HPS,HT1,Lib.hid (fun _=>rfl),HE1⟩
  case round=>
   obtain⟨k,sr,xr,sn,hk,rfl,rfl,HAr,HSr,HPr,HTr,HXr,HEr⟩:=hrel
   have hyr:=HAr.out.but.size
   by_cases hlt:k<x1
   ·have HEr:=Lib.hid (HEr.out.trans (attr_more l _ act x1 k hlt sn xr sr))
    have HPP:=Lib.hid (show PlAt wr r ok sr.pool by rw [HPr.out];exact HP0.out.rs HAr.out HK.out)
    go_wp2_with (go_at_call 137;refine(name_any r A cap l sr _ ok (fun g hg=> (HK.out g hg).1) (H0.out.keepB HSr.out (by repeat' (first|with_reducible exact Below.refl _ _|with_reducible refine below_drewN ?_ _|with_reducible refine Below.drew ?_|with_reducible refine Below.setCell ?_ ?_ _|with_reducible refine Below.alloc ?_ ?_ _|omega| (simp;done) | (simp;omega)))) (HPP.out.low (by omega) (Below.refl _ _))).mono ?_;refine stop_here ?_)
    refine go_on ?_
    intro e w2 hq
    rcases hq.cases with⟨a,er,hp,hb,rfl⟩ | ⟨x2,s2,v,hp,hb,rfl,⟨rfl,hn2⟩,hs⟩
    ·have HP:=Lib.hid (HEr.out.trans (bind_stop hp))
     clear hp
     have HA:=Lib.hid (HAr.out.step hr (by repeat' (first|with_reducible exact Below.refl _ _|with_reducible refine below_drewN ?_ _|with_reducible refine Below.drew ?_|with_reducible refine Below.setCell ?_ ?_ _|with_reducible refine Below.alloc ?_ ?_ _|omega| (simp;done) | (simp;omega))) hb)
     clear hb
     go_wp2_with fail
     exact(show _∧_ from⟨rfl,apost_error HP.out HA.out⟩)
    ·have HE2:=Lib.hid (HEr.out.trans (bind_step hp))
     have hpx:=hp
     clear hp
     have HA2:=Lib.hid (HAr.out.step hr (by repeat' (first|with_reducible exact Below.refl _ _|with_reducible refine below_drewN ?_ _|with_reducible refine Below.drew ?_|with_reducible refine Below.setCell ?_ ?_ _|with_reducible refine Below.alloc ?_ ?_ _|omega| (simp;done) | (simp;omega))) hb)
     have HS2:=Lib.hid hs
     have hz2:=hb.but.size
     try simp at hz2
     have hy2:=HA2.out.but.size
     clear hb hs
     have HN2:=Lib.hid ((keeps_name _ _ _ _ hpx).trans HPr.out)
     have HT2:=Lib.hid (HTK.out xr _ _ HTr.out hq.1.but)
     clear hpx
     by_cases hnm:x2.2.toList=want.toList
     ·have hnb:(x2.2.toList==want.toList)=true:=by simp [hnm]
      have hso:some want.toList=some x2.2.toList:=by rw [hnm]
      cases sn with
      |true=>
       have HE2t:=Lib.hid (HE2.out.trans (if_pos ⟨hso,rfl⟩))
       clear hnm hso
       go_wp2_with (go_at_call 120;refine(wrong_any _ _ _ _).mono ?_;rintro e w9 ⟨rfl,rfl⟩)
       exact(show _∧_ from⟨rfl,apost_error HE2t.out (HA2.out.low hr (by repeat' (first|with_reducible exact Below.refl _ _|with_reducible refine below_drewN ?_ _|with_reducible refine Below.drew ?_|with_reducible refine Below.setCell ?_ ?_ _|with_reducible refine Below.alloc ?_ ?_ _|omega| (simp;done) | (simp;omega))))⟩)
      |false=>
       have HE2:=Lib.hid (HE2.out.trans (if_neg (by simp)))
       have HSO:=Lib.hid hso
       clear hnm hso
       go_wp2_with (go_at_call 119;refine(number_any r A cap 4 l s2 _ (H0.out.keepB HS2.out (by repeat' (first|with_reducible exact Below.refl _ _|with_reducible refine below_drewN ?_ _|with_reducible refine Below.drew ?_|with_reducible refine Below.setCell ?_ ?_ _|with_reducible refine Below.alloc ?_ ?_ _|omega| (simp;done) | (simp;omega)))) (by omega)).mono ?_;refine stop_here ?_)
       refine go_on ?_
       intro e w3 hq
       rcases hq.cases with⟨a,er,hp,hb,rfl⟩ | ⟨x3,s3,v,hp,hb,rfl,⟨rfl,hn3⟩,hs⟩
       ·have HP:=Lib.hid (HE2.out.trans (bind_stop hp))
        clear hp
        have HA:=Lib.hid (HA2.out.step hr (by repeat' (first|with_reducible exact Below.refl _ _|with_reducible refine below_drewN ?_ _|with_reducible refine Below.drew ?_|with_reducible refine Below.setCell ?_ ?_ _|with_reducible refine Below.alloc ?_ ?_ _|omega| (simp;done) | (simp;omega))) hb)
        clear hb
        go_wp2_with fail
        exact(show _∧_ from⟨rfl,apost_error HP.out HA.out⟩)
       ·have HE3:=Lib.hid (HE2.out.trans (bind_step hp))
        have hpx:=hp
        clear hp
        have HA3:=Lib.hid (HA2.out.step hr (by repeat' (first|with_reducible exact Below.refl _ _|with_reducible refine below_drewN ?_ _|with_reducible refine Below.drew ?_|with_reducible refine Below.setCell ?_ ?_ _|with_reducible refine Below.alloc ?_ ?_ _|omega| (simp;done) | (simp;omega))) hb)
        have HS3:=Lib.hid hs
        have hz3:=hb.but.size
        try simp at hz3
        have hy3:=HA3.out.but.size
        clear hb hs
        have HN3:=Lib.hid ((keeps_num _ _ _ _ _ hpx).trans HN2.out)
        have HT3:=Lib.hid (HTK.out xr _ _ HT2.out hq.1.but)
        clear hpx
        have HE3:=Lib.hid (HE3.out.trans (if_pos HSO.out))
        have HPP3:=Lib.hid (show PlAt w3 r ok s3.pool by rw [HN3.out];exact HP0.out.rs HA3.out HK.out)
        go_wp2_with fail
        obtain rfl:=HXr.out (by trivial)
        refine(HAC.out x2.1 x3 s3 _ HS3.out HPP3.out HT3.out hn2 hn3).mono ?_
        intro e w4 hq
        rcases hq.cases with⟨a,er,hp,hb,rfl⟩ | ⟨x4,s4,hp,hb,rfl,ht,hs⟩
        ·have HP:=Lib.hid (HE3.out.trans (bind_stop hp))
         clear hp
         have HA:=Lib.hid (HA3.out.trans hb)
         clear hb
         go_wp2_with fail
         exact(show _∧_ from⟨rfl,apost_error HP.out HA.out⟩)
        ·have HE4:=Lib.hid (HE3.out.trans (bind_step hp))
         have HN4:=Lib.hid ((HKE.out _ _ _ _ _ _ hp).trans HN3.out)
         have HA4:=Lib.hid (HA3.out.trans hb)
         have HT4:=Lib.hid ht
         have HS4:=Lib.hid hs
         clear hp hb ht hs
         go_wp2_with fail
         go_roundw
         case rel=>exact⟨k+1,s4,x4,true,by omega,by go_num,rfl,HA4,HS4,HN4,HT4,Lib.hid (fun h=>by cases h),HE4⟩
         case measure=>simp [RowKit.intOf];omega
     ·have hnb:(x2.2.toList==want.toList)=false:=by simp [hnm]
      have hso: ¬(some want.toList=some x2.2.toList):=fun e=>hnm (by injection e with e;exact e.symm)
      have HE2:=Lib.hid (HE2.out.trans (if_neg (fun h=>hso h.1)))
      have HSO:=Lib.hid hso
      clear hnm hso
      go_wp2_with (go_at_call 119;refine(number_any r A cap 4 l s2 _ (H0.out.keepB HS2.out (by repeat' (first|with_reducible exact Below.refl _ _|with_reducible refine below_drewN ?_ _|with_reducible refine Below.drew ?_|with_reducible refine Below.setCell ?_ ?_ _|with_reducible refine Below.alloc ?_ ?_ _|omega| (simp;done) | (simp;omega)))) (by omega)).mono ?_;refine stop_here ?_)
      refine go_on ?_
      intro e w3 hq
      rcases hq.cases with⟨a,er,hp,hb,rfl⟩ | ⟨x3,s3,v,hp,hb,rfl,⟨rfl,hn3⟩,hs⟩
      ·have HP:=Lib.hid (HE2.out.trans (bind_stop hp))
       clear hp
       have HA:=Lib.hid (HA2.out.step hr (by repeat' (first|with_reducible exact Below.refl _ _|with_reducible refine below_drewN ?_ _|with_reducible refine Below.drew ?_|with_reducible refine Below.setCell ?_ ?_ _|with_reducible refine Below.alloc ?_ ?_ _|omega| (simp;done) | (simp;omega))) hb)
       clear hb
       go_wp2_with fail
       exact(show _∧_ from⟨rfl,apost_error HP.out HA.out⟩)
      ·have HE3:=Lib.hid (HE2.out.trans (bind_step hp))
       have hpx:=hp
       clear hp
       have HA3:=Lib.hid (HA2.out.step hr (by repeat' (first|with_reducible exact Below.refl _ _|with_reducible refine below_drewN ?_ _|with_reducible refine Below.drew ?_|with_reducible refine Below.setCell ?_ ?_ _|with_reducible refine Below.alloc ?_ ?_ _|omega| (simp;done) | (simp;omega))) hb)
       have HS3:=Lib.hid hs
       have hz3:=hb.but.size
       try simp at hz3
       have hy3:=HA3.out.but.size
       clear hb hs
       have HN3:=Lib.hid ((keeps_num _ _ _ _ _ hpx).trans HN2.out)
       have HT3:=Lib.hid (HTK.out xr _ _ HT2.out hq.1.but)
       clear hpx
       have HE3:=Lib.hid (HE3.out.trans (if_neg HSO.out))
       go_wp2_with (go_at_call 133;refine(bytes_any r A cap _ l s3 _ (H0.out.keepB HS3.out (by repeat' (first|with_reducible exact Below.refl _ _|with_reducible refine below_drewN ?_ _|with_reducible refine Below.drew ?_|with_reducible refine Below.setCell ?_ ?_ _|with_reducible refine Below.alloc ?_ ?_ _|omega| (simp;done) | (simp;omega)))) (by omega)).mono ?_;refine stop_here ?_)
       refine go_on ?_
       intro e w4 hq
       rcases hq.cases with⟨a,er,hp,hb,rfl⟩ | ⟨x4,s4,v,hp,hb,rfl,⟨A',cap',rfl,hrd⟩,hs⟩
       ·have HP:=Lib.hid (HE3.out.trans (bind_stop hp))
        clear hp
        have HA:=Lib.hid (HA3.out.step hr (by repeat' (first|with_reducible exact Below.refl _ _|with_reducible refine below_drewN ?_ _|with_reducible refine Below.drew ?_|with_reducible refine Below.setCell ?_ ?_ _|with_reducible refine Below.alloc ?_ ?_ _|omega| (simp;done) | (simp;omega))) hb)
        clear hb
        go_wp2_with fail
        exact(show _∧_ from⟨rfl,apost_error HP.out HA.out⟩)
       ·have HE4:=Lib.hid (HE3.out.trans (bind_step hp))
        have hpx:=hp
        clear hp
        have HA4:=Lib.hid (HA3.out.step hr (by repeat' (first|with_reducible exact Below.refl _ _|with_reducible refine below_drewN ?_ _|with_reducible refine Below.drew ?_|with_reducible refine Below.setCell ?_ ?_ _|with_reducible refine Below.alloc ?_ ?_ _|omega| (simp;done) | (simp;omega))) hb)
        have HS4:=Lib.hid hs
        have hz4:=hb.but.size
        try simp at hz4
        have hy4:=HA4.out.but.size
        clear hb hs
        have HN4:=Lib.hid ((keeps_bytes _ _ _ _ _ hpx).trans HN3.out)
        have HT4:=Lib.hid (HTK.out xr _ _ HT3.out hq.1.but)
        clear hpx hrd
        go_wp2_with fail
        go_roundw
        case rel=>exact⟨k+1,s4,xr,sn,by omega,by go_num,rfl,HA4,HS4,HN4,HT4,HXr,HE4⟩
        case measure=>simp [RowKit.intOf];omega
   ·have hkk:k=x1:=by omega
    subst hkk
    go_wp2_with fail
    go_end0
    exact apost_ok (HEr.out.trans (attr_done _ _ _ _ _ _ _)) HAr.out HTr.out HSr.out
theorem wpAnyH_states {P:Program} {md:Region.Mode} {ops:Array Oper} {Q:Exit→Act→World→Prop} {S:World→Prop} {σ:Type} (L:σ→Array Bool) (J:σ→Act→World→Prop) (fu:σ→Nat) (rs:σ→List Nat)
  (hr: ∀s a w,J s a w→Region.ready md ops (L s)=rs s)
  (hd: ∀s a w,J s a w→rs s= []→Q .normal a w)
  (hs: ∀s a w,J s a w→ ∀i∈rs s, ∃s',L s'=(L s).setIfInBounds i true∧fu s=fu s'+1∧wpOp P ops Q i (fun a' w'=>S w'∧J s' a' w') a w):
  ∀n s a w,fu s=n→J s a w→wpAnyH P md ops Q S n (L s) a w
 |0,s,a,w,hn,hj=>by
  have h0:rs s= []:=by
   rcases hl:rs s with _| ⟨i,r⟩
   ·rfl
   ·obtain⟨s',_,h2,_⟩:=hs s a w hj i (by rw [hl];simp)
    omega
  exact⟨(hr s a w hj).trans h0,hd s a w hj h0⟩
 |n+1,s,a,w,hn,hj=>by
  refine⟨fun h0=>hd s a w hj ((hr s a w hj).symm.trans h0),fun i hi=> ?_⟩
  rw [hr s a w hj] at hi
  obtain⟨s',h1,h2,h3⟩:=hs s a w hj i hi
  refine wpOp_mono (fun a' w' h=> ⟨h.1, ?_⟩) h3
  rw [←h1]
  exact wpAnyH_states L J fu rs hr hd hs n s' a' w' (by omega) h.2
def threeL (s:Nat×Bool):Array Bool:= #[true,decide (1≤s.1),true,decide (2≤s.1),true,decide (3≤s.1),decide (4≤s.1),s.2,decide (5≤s.1)]
def threeN (s:Nat×Bool):List Nat:=(if s.1=0 then [1] else if s.1=1 then [3] else if s.1=2 then [5] else if s.1=3 then [6] else if s.1=4∧s.2 then [8] else [])++if s.2 then [] else [7]
def threeU (s:Nat×Bool):Nat:=5 - s.1+if s.2 then 0 else 1
theorem three_cases {s:Nat×Bool} (h:s.1≤5) (h5:s.1=5→s.2=true):s=(0,false)∨s=(0,true)∨s=(1,false)∨s=(1,true)∨s=(2,false)∨s=(2,true)∨s=(3,false)∨s=(3,true)∨s=(4,false)∨s=(4,true)∨s=(5,true):=by
 obtain⟨k,b⟩:=s
 simp only at h h5
 have:k=0∨k=1∨k=2∨k=3∨k=4∨k=5:=by omega
 rcases this with rfl|rfl|rfl|rfl|rfl|rfl<;>cases b<;>simp_all
theorem three_mem {s:Nat×Bool} {i:Nat} (h:i∈threeN s):(i=1∧s.1=0)∨(i=3∧s.1=1)∨(i=5∧s.1=2)∨(i=6∧s.1=3)∨(i=8∧s.1=4∧s.2=true)∨(i=7∧s.2=false):=by
 unfold threeN at h
 rw [List.mem_append] at h
 rcases h with h|h
 ·split at h
  ·simp_all
  ·split at h
   ·simp_all
   ·split at h
    ·simp_all
    ·split at h
     ·simp_all
     ·split at h
      ·simp_all
      ·cases h
 ·split at h
  ·cases h
  ·simp_all
theorem wpAnyH_at {P:Program} {md:Region.Mode} {ops:Array Oper} {Q:Exit→Act→World→Prop} {S:World→Prop} {n:Nat} {L L':Array Bool} {a:Act} {w:World} (h:L=L') (h':wpAnyH P md ops Q S n L' a w):wpAnyH P md ops Q S n L a w:=by
 rw [h]
 exact h'
theorem three_next {k:Nat} {b:Bool} (i:Nat) (h:(k=0∧i=1)∨(k=1∧i=3)∨(k=2∧i=5)∨(k=3∧i=6)∨(k=4∧i=8)):threeL (k+1,b)=(threeL (k,b)).setIfInBounds i true∧threeU (k,b)=threeU (k+1,b)+1:=by
 rcases h with⟨rfl,rfl⟩ | ⟨rfl,rfl⟩ | ⟨rfl,rfl⟩ | ⟨rfl,rfl⟩ | ⟨rfl,rfl⟩ <;>cases b<;>exact⟨rfl,rfl⟩
theorem three_made {k:Nat}:threeL (k,true)=(threeL (k,false)).setIfInBounds 7 true∧threeU (k,false)=threeU (k,true)+1:=⟨by simp [threeL],rfl⟩
end Go.Proofs.YtpbnjakeielipaaGreatDoor
