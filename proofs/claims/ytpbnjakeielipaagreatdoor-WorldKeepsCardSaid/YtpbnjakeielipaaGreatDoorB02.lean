/-
  What the laws rest on, part 2: walks of the program's functions and plain laws. Conditions: none but those that each theorem names.
-/
import Derived.Test.YtpbnjakeielipaaGreatDoorB01
set_option linter.unusedSimpArgs false
set_option linter.unusedVariables false
set_option maxRecDepth 100000
set_option maxHeartbeats 2000000
namespace Go.Proofs.YtpbnjakeielipaaGreatDoor
open Go Go.RowKit Lib
theorem int32_wrap (n:Nat) (h:n<4294967296):wrap32 (n:Int)=int32P n:=by
 unfold wrap32 int32P
 split<;>omega
theorem int32_64 (n:Nat) (h:n<4294967296):wrap64 (int32P n)=int32P n:=by
 refine IntWalk.wrap64_in _ ?_
 unfold int32P
 split<;>omega
theorem constant_any (r:Nat) (A:Option Addr) (cap:Nat) (l:List UInt8) (st:Rs) (w:World) (h:RdrAt w r A cap l st):
  Calls Tryz.prog 122 #[.pointer (some ⟨r,0,none⟩)] w (RPost w r A cap l (koP l st) fun x v w'=>v=koV x):=by
 have d1:=h.c1
 have hr:=h.lt
 have H0:=Lib.hid h
 have HA0:=Lib.hid (RB.refl r w)
 have HE0:=Lib.hid (show koP l st=Rx.bind (numP l 1 st) _ from rfl)
 clear h
 go_enter Tryz.func122,Tryz.ntmps122
 go_wp2_with (go_at_call 119;refine(number_any r A cap 1 l st _ (H0.out.keepB H0.out (by repeat' (first|with_reducible exact Below.refl _ _|with_reducible refine below_drewN ?_ _|with_reducible refine Below.drew ?_|with_reducible refine Below.setCell ?_ ?_ _|with_reducible refine Below.alloc ?_ ?_ _|omega| (simp;done) | (simp;omega)))) (by omega)).mono ?_;refine stop_here ?_)
 refine go_on ?_
 intro e w1 hq
 rcases hq.cases with⟨a,er,hp,hb,rfl⟩ | ⟨x1,s1,v,hp,hb,rfl,⟨rfl,hn1⟩,hs⟩
 ·have HP:=Lib.hid (HE0.out.trans (bind_stop hp))
  clear hp
  have HA:=Lib.hid (ha_step HA0.out hr (by repeat' (first|with_reducible exact Below.refl _ _|with_reducible refine below_drewN ?_ _|with_reducible refine Below.drew ?_|with_reducible refine Below.setCell ?_ ?_ _|with_reducible refine Below.alloc ?_ ?_ _|omega| (simp;done) | (simp;omega))) hb)
  clear hb
  go_wp2_with fail
  exact(show _∧_ from⟨rfl,rpost_error HP.out HA.out⟩)
 ·have HE1:=Lib.hid (HE0.out.trans (bind_step hp))
  clear hp
  have HA1:=Lib.hid (ha_step HA0.out hr (by repeat' (first|with_reducible exact Below.refl _ _|with_reducible refine below_drewN ?_ _|with_reducible refine Below.drew ?_|with_reducible refine Below.setCell ?_ ?_ _|with_reducible refine Below.alloc ?_ ?_ _|omega| (simp;done) | (simp;omega))) hb)
  have HS1:=Lib.hid hs
  have hz1:=hb.but.size
  try simp at hz1
  have hy1:=HA1.out.but.size
  have e_br: ¬w.heap.size=r:=by omega
  have e_br': ¬r=w.heap.size:=by omega
  have X1_b:=Lib.hid ((bx_new_at _ [.int .i64 0, .string ⟨#[]⟩, .int .i64 0, .int .i64 0, .int .i64 0] 81 (w.heap.size) (by simp)).but hb.but (ne_one (by omega)))
  clear hb hs
  by_cases t1:x1=1
  ·obtain rfl:x1=1:=t1
   have HE1:=Lib.hid (HE1.out.trans (if_pos rfl))
   go_wp2_with (go_at_call 119;refine(number_any r A cap 2 l s1 _ (H0.out.keepB HS1.out (by repeat' (first|with_reducible exact Below.refl _ _|with_reducible refine below_drewN ?_ _|with_reducible refine Below.drew ?_|with_reducible refine Below.setCell ?_ ?_ _|with_reducible refine Below.alloc ?_ ?_ _|omega| (simp;done) | (simp;omega)))) (by omega)).mono ?_;refine stop_here ?_)
   refine go_on ?_
   intro e w2 hq
   rcases hq.cases with⟨a,er,hp,hb,rfl⟩ | ⟨x2,s2,v,hp,hb,rfl,⟨rfl,hn2⟩,hs⟩
   ·have HP:=Lib.hid (HE1.out.trans (bind_stop hp))
    clear hp
    have HA:=Lib.hid (ha_step HA1.out hr (by repeat' (first|with_reducible exact Below.refl _ _|with_reducible refine below_drewN ?_ _|with_reducible refine Below.drew ?_|with_reducible refine Below.setCell ?_ ?_ _|with_reducible refine Below.alloc ?_ ?_ _|omega| (simp;done) | (simp;omega))) hb)
    clear hb
    go_wp2_with fail
    exact(show _∧_ from⟨rfl,rpost_error HP.out HA.out⟩)
   ·have HE2:=Lib.hid (HE1.out.trans (bind_step hp))
    clear hp
    have HA2:=Lib.hid (ha_step HA1.out hr (by repeat' (first|with_reducible exact Below.refl _ _|with_reducible refine below_drewN ?_ _|with_reducible refine Below.drew ?_|with_reducible refine Below.setCell ?_ ?_ _|with_reducible refine Below.alloc ?_ ?_ _|omega| (simp;done) | (simp;omega))) hb)
    have HS2:=Lib.hid hs
    have hz2:=hb.but.size
    try simp at hz2
    have hy2:=HA2.out.but.size
    have e_kr: ¬w1.heap.size=r:=by omega
    have e_kr': ¬r=w1.heap.size:=by omega
    have e_kb: ¬w1.heap.size=w.heap.size:=by omega
    have e_kb': ¬w.heap.size=w1.heap.size:=by omega
    have X2_b:=Lib.hid ((X1_b.out.below ((Below.refl _ _).alloc (Nat.le_refl _) _) X1_b.out.lt).but hb.but (ne_one (by omega)))
    have X2_k:=Lib.hid ((bx_new_at _ [.int .i64 1, .string ⟨#[]⟩, .int .i64 0, .int .i64 0, .int .i64 0] 81 (w1.heap.size) (by simp)).but hb.but (ne_one (by omega)))
    clear hb hs X1_b
    go_wp2_with (go_at_call 133;refine(bytes_any r A cap _ l s2 _ (H0.out.keepB HS2.out (by repeat' (first|with_reducible exact Below.refl _ _|with_reducible refine below_drewN ?_ _|with_reducible refine Below.drew ?_|with_reducible refine Below.setCell ?_ ?_ _|with_reducible refine Below.alloc ?_ ?_ _|omega| (simp;done) | (simp;omega)))) (by omega)).mono ?_;refine stop_here ?_)
    refine go_on ?_
    intro e w3 hq
    rcases hq.cases with⟨a,er,hp,hb,rfl⟩ | ⟨x3,s3,v,hp,hb,rfl,⟨A',cap',rfl,hrd⟩,hs⟩
    ·have HP:=Lib.hid (HE2.out.trans (bind_stop hp))
     clear hp
     have HA:=Lib.hid (ha_step HA2.out hr (by repeat' (first|with_reducible exact Below.refl _ _|with_reducible refine below_drewN ?_ _|with_reducible refine Below.drew ?_|with_reducible refine Below.setCell ?_ ?_ _|with_reducible refine Below.alloc ?_ ?_ _|omega| (simp;done) | (simp;omega))) hb)
     clear hb
     go_wp2_with fail
     exact(show _∧_ from⟨rfl,rpost_error HP.out HA.out⟩)
    ·have HE3:=Lib.hid (HE2.out.trans (bind_step hp))
     clear hp
     have HA3:=Lib.hid (ha_step HA2.out hr (by repeat' (first|with_reducible exact Below.refl _ _|with_reducible refine below_drewN ?_ _|with_reducible refine Below.drew ?_|with_reducible refine Below.setCell ?_ ?_ _|with_reducible refine Below.alloc ?_ ?_ _|omega| (simp;done) | (simp;omega))) hb)
     have HS3:=Lib.hid hs
     have hz3:=hb.but.size
     try simp at hz3
     have hy3:=HA3.out.but.size
     have X3_b:=Lib.hid (X2_b.out.but hb.but (ne_one (by omega)))
     have X3_k:=Lib.hid (X2_k.out.but hb.but (ne_one (by omega)))
     clear hb hs X2_b X2_k
     have hcv:=hrd.str
     have c_k0:=X3_k.out.cell 0 rfl
     have c_k1:=X3_k.out.cell 1 rfl
     have c_k2:=X3_k.out.cell 2 rfl
     have c_k3:=X3_k.out.cell 3 rfl
     have c_k4:=X3_k.out.cell 4 rfl
     have c_b0:=X3_b.out.cell 0 rfl
     have z_b0:=X3_b.out.frozen 0
     have c_b1:=X3_b.out.cell 1 rfl
     have z_b1:=X3_b.out.frozen 1
     have c_b2:=X3_b.out.cell 2 rfl
     have z_b2:=X3_b.out.frozen 2
     have c_b3:=X3_b.out.cell 3 rfl
     have z_b3:=X3_b.out.frozen 3
     have c_b4:=X3_b.out.cell 4 rfl
     have z_b4:=X3_b.out.frozen 4
     have z_k0:=X3_k.out.frozen 0
     have z_k1:=X3_k.out.frozen 1
     have z_k2:=X3_k.out.frozen 2
     have z_k3:=X3_k.out.frozen 3
     have z_k4:=X3_k.out.frozen 4
     go_wp2_with fail
     refine bodyPost_ret (v:=koV ⟨1,⟨x3.toArray⟩,0,0,0⟩) (by simp [koV,results,Tryz.results122,go_sem,c_b0,z_b0,c_k0,z_k0,c_b1,z_b1,c_k1,z_k1,c_b2,z_b2,c_k2,z_k2,c_b3,z_b3,c_k3,z_k3,c_b4,z_b4,c_k4,z_k4]) rfl ?_
     exact rpost_ok HE3.out (ha_low HA3.out hr (by repeat' (first|with_reducible exact Below.refl _ _|with_reducible refine below_drewN ?_ _|with_reducible refine Below.drew ?_|with_reducible refine Below.setCell ?_ ?_ _|with_reducible refine Below.alloc ?_ ?_ _|omega| (simp;done) | (simp;omega)))) rfl (H0.out.keepB HS3.out (by repeat' (first|with_reducible exact Below.refl _ _|with_reducible refine below_drewN ?_ _|with_reducible refine Below.drew ?_|with_reducible refine Below.setCell ?_ ?_ _|with_reducible refine Below.alloc ?_ ?_ _|omega| (simp;done) | (simp;omega))))
  have T1:((x1:Int)==1)=false:=by simp;omega
  by_cases t3:x1=3
  ·obtain rfl:x1=3:=t3
   have HE1:=Lib.hid (HE1.out.trans (if_neg (by decide)))
   have HE1:=Lib.hid (HE1.out.trans (if_pos rfl))
   go_wp2_with (go_at_call 119;refine(number_any r A cap 4 l s1 _ (H0.out.keepB HS1.out (by repeat' (first|with_reducible exact Below.refl _ _|with_reducible refine below_drewN ?_ _|with_reducible refine Below.drew ?_|with_reducible refine Below.setCell ?_ ?_ _|with_reducible refine Below.alloc ?_ ?_ _|omega| (simp;done) | (simp;omega)))) (by omega)).mono ?_;refine stop_here ?_)
   refine go_on ?_
   intro e w2 hq
   rcases hq.cases with⟨a,er,hp,hb,rfl⟩ | ⟨x2,s2,v,hp,hb,rfl,⟨rfl,hn2⟩,hs⟩
   ·have HP:=Lib.hid (HE1.out.trans (bind_stop hp))
    clear hp
    have HA:=Lib.hid (ha_step HA1.out hr (by repeat' (first|with_reducible exact Below.refl _ _|with_reducible refine below_drewN ?_ _|with_reducible refine Below.drew ?_|with_reducible refine Below.setCell ?_ ?_ _|with_reducible refine Below.alloc ?_ ?_ _|omega| (simp;done) | (simp;omega))) hb)
    clear hb
    go_wp2_with fail
    exact(show _∧_ from⟨rfl,rpost_error HP.out HA.out⟩)
   ·have HE2:=Lib.hid (HE1.out.trans (bind_step hp))
    clear hp
    have HA2:=Lib.hid (ha_step HA1.out hr (by repeat' (first|with_reducible exact Below.refl _ _|with_reducible refine below_drewN ?_ _|with_reducible refine Below.drew ?_|with_reducible refine Below.setCell ?_ ?_ _|with_reducible refine Below.alloc ?_ ?_ _|omega| (simp;done) | (simp;omega))) hb)
    have HS2:=Lib.hid hs
    have hz2:=hb.but.size
    try simp at hz2
    have hy2:=HA2.out.but.size
    have e_kr: ¬w1.heap.size=r:=by omega
    have e_kr': ¬r=w1.heap.size:=by omega
    have e_kb: ¬w1.heap.size=w.heap.size:=by omega
    have e_kb': ¬w.heap.size=w1.heap.size:=by omega
    have X2_b:=Lib.hid ((X1_b.out.below ((Below.refl _ _).alloc (Nat.le_refl _) _) X1_b.out.lt).but hb.but (ne_one (by omega)))
    have X2_k:=Lib.hid ((bx_new_at _ [.int .i64 3, .string ⟨#[]⟩, .int .i64 0, .int .i64 0, .int .i64 0] 81 (w1.heap.size) (by simp)).but hb.but (ne_one (by omega)))
    clear hb hs X1_b
    have hi:=Lib.hid (int32_wrap x2 hn2)
    have c_k0:=X2_k.out.cell 0 rfl
    have z_k0:=X2_k.out.frozen 0
    have c_k1:=X2_k.out.cell 1 rfl
    have z_k1:=X2_k.out.frozen 1
    have c_k2:=X2_k.out.cell 2 rfl
    have z_k2:=X2_k.out.frozen 2
    have c_k3:=X2_k.out.cell 3 rfl
    have z_k3:=X2_k.out.frozen 3
    have c_k4:=X2_k.out.cell 4 rfl
    have z_k4:=X2_k.out.frozen 4
    have c_b0:=X2_b.out.cell 0 rfl
    have z_b0:=X2_b.out.frozen 0
    have c_b1:=X2_b.out.cell 1 rfl
    have z_b1:=X2_b.out.frozen 1
    have c_b2:=X2_b.out.cell 2 rfl
    have z_b2:=X2_b.out.frozen 2
    have c_b3:=X2_b.out.cell 3 rfl
    have z_b3:=X2_b.out.frozen 3
    have c_b4:=X2_b.out.cell 4 rfl
    have z_b4:=X2_b.out.frozen 4
    go_wp2_with fail
    rw [hi.out,int32_64 x2 hn2]
    refine bodyPost_ret (v:=koV ⟨3,⟨#[]⟩,int32P x2,0,0⟩) (by simp [koV,results,Tryz.results122,go_sem,c_b0,z_b0,c_k0,z_k0,c_b1,z_b1,c_k1,z_k1,c_b2,z_b2,c_k2,z_k2,c_b3,z_b3,c_k3,z_k3,c_b4,z_b4,c_k4,z_k4]) rfl ?_
    exact rpost_ok HE2.out (ha_low HA2.out hr (by repeat' (first|with_reducible exact Below.refl _ _|with_reducible refine below_drewN ?_ _|with_reducible refine Below.drew ?_|with_reducible refine Below.setCell ?_ ?_ _|with_reducible refine Below.alloc ?_ ?_ _|omega| (simp;done) | (simp;omega)))) rfl (H0.out.keepB HS2.out (by repeat' (first|with_reducible exact Below.refl _ _|with_reducible refine below_drewN ?_ _|with_reducible refine Below.drew ?_|with_reducible refine Below.setCell ?_ ?_ _|with_reducible refine Below.alloc ?_ ?_ _|omega| (simp;done) | (simp;omega))))
  have T3:((x1:Int)==3)=false:=by simp;omega
  by_cases t7:x1=7
  ·obtain rfl:x1=7:=t7
   have HE1:=Lib.hid (HE1.out.trans (if_neg (by decide)))
   have HE1:=Lib.hid (HE1.out.trans (if_neg (by decide)))
   have HE1:=Lib.hid (HE1.out.trans (if_pos rfl))
   go_wp2_with (go_at_call 119;refine(number_any r A cap 2 l s1 _ (H0.out.keepB HS1.out (by repeat' (first|with_reducible exact Below.refl _ _|with_reducible refine below_drewN ?_ _|with_reducible refine Below.drew ?_|with_reducible refine Below.setCell ?_ ?_ _|with_reducible refine Below.alloc ?_ ?_ _|omega| (simp;done) | (simp;omega)))) (by omega)).mono ?_;refine stop_here ?_)
   refine go_on ?_
   intro e w2 hq
   rcases hq.cases with⟨a,er,hp,hb,rfl⟩ | ⟨x2,s2,v,hp,hb,rfl,⟨rfl,hn2⟩,hs⟩
   ·have HP:=Lib.hid (HE1.out.trans (bind_stop hp))
    clear hp
    have HA:=Lib.hid (ha_step HA1.out hr (by repeat' (first|with_reducible exact Below.refl _ _|with_reducible refine below_drewN ?_ _|with_reducible refine Below.drew ?_|with_reducible refine Below.setCell ?_ ?_ _|with_reducible refine Below.alloc ?_ ?_ _|omega| (simp;done) | (simp;omega))) hb)
    clear hb
    go_wp2_with fail
    exact(show _∧_ from⟨rfl,rpost_error HP.out HA.out⟩)
   ·have HE2:=Lib.hid (HE1.out.trans (bind_step hp))
    clear hp
    have HA2:=Lib.hid (ha_step HA1.out hr (by repeat' (first|with_reducible exact Below.refl _ _|with_reducible refine below_drewN ?_ _|with_reducible refine Below.drew ?_|with_reducible refine Below.setCell ?_ ?_ _|with_reducible refine Below.alloc ?_ ?_ _|omega| (simp;done) | (simp;omega))) hb)
    have HS2:=Lib.hid hs
    have hz2:=hb.but.size
    try simp at hz2
    have hy2:=HA2.out.but.size
    have e_kr: ¬w1.heap.size=r:=by omega
    have e_kr': ¬r=w1.heap.size:=by omega
    have e_kb: ¬w1.heap.size=w.heap.size:=by omega
    have e_kb': ¬w.heap.size=w1.heap.size:=by omega
    have X2_b:=Lib.hid ((X1_b.out.below ((Below.refl _ _).alloc (Nat.le_refl _) _) X1_b.out.lt).but hb.but (ne_one (by omega)))
    have X2_k:=Lib.hid ((bx_new_at _ [.int .i64 7, .string ⟨#[]⟩, .int .i64 0, .int .i64 0, .int .i64 0] 81 (w1.heap.size) (by simp)).but hb.but (ne_one (by omega)))
    clear hb hs X1_b
    have c_k0:=X2_k.out.cell 0 rfl
    have c_k1:=X2_k.out.cell 1 rfl
    have c_k2:=X2_k.out.cell 2 rfl
    have c_k3:=X2_k.out.cell 3 rfl
    have c_k4:=X2_k.out.cell 4 rfl
    have c_b0:=X2_b.out.cell 0 rfl
    have z_b0:=X2_b.out.frozen 0
    have c_b1:=X2_b.out.cell 1 rfl
    have z_b1:=X2_b.out.frozen 1
    have c_b2:=X2_b.out.cell 2 rfl
    have z_b2:=X2_b.out.frozen 2
    have c_b3:=X2_b.out.cell 3 rfl
    have z_b3:=X2_b.out.frozen 3
    have c_b4:=X2_b.out.cell 4 rfl
    have z_b4:=X2_b.out.frozen 4
    have z_k0:=X2_k.out.frozen 0
    have z_k1:=X2_k.out.frozen 1
    have z_k2:=X2_k.out.frozen 2
    have z_k3:=X2_k.out.frozen 3
    have z_k4:=X2_k.out.frozen 4
    go_wp2_with fail
    refine bodyPost_ret (v:=koV ⟨7,⟨#[]⟩,0,x2,0⟩) (by simp [koV,results,Tryz.results122,go_sem,c_b0,z_b0,c_k0,z_k0,c_b1,z_b1,c_k1,z_k1,c_b2,z_b2,c_k2,z_k2,c_b3,z_b3,c_k3,z_k3,c_b4,z_b4,c_k4,z_k4]) rfl ?_
    exact rpost_ok HE2.out (ha_low HA2.out hr (by repeat' (first|with_reducible exact Below.refl _ _|with_reducible refine below_drewN ?_ _|with_reducible refine Below.drew ?_|with_reducible refine Below.setCell ?_ ?_ _|with_reducible refine Below.alloc ?_ ?_ _|omega| (simp;done) | (simp;omega)))) rfl (H0.out.keepB HS2.out (by repeat' (first|with_reducible exact Below.refl _ _|with_reducible refine below_drewN ?_ _|with_reducible refine Below.drew ?_|with_reducible refine Below.setCell ?_ ?_ _|with_reducible refine Below.alloc ?_ ?_ _|omega| (simp;done) | (simp;omega))))
  have T7:((x1:Int)==7)=false:=by simp;omega
  by_cases t9:x1=9
  ·obtain rfl:x1=9:=t9
   have HE1:=Lib.hid (HE1.out.trans (if_neg (by decide)))
   have HE1:=Lib.hid (HE1.out.trans (if_neg (by decide)))
   have HE1:=Lib.hid (HE1.out.trans (if_neg (by decide)))
   have HE1:=Lib.hid (HE1.out.trans (if_pos (by decide)))
   go_wp2_with (go_at_call 119;refine(number_any r A cap 2 l s1 _ (H0.out.keepB HS1.out (by repeat' (first|with_reducible exact Below.refl _ _|with_reducible refine below_drewN ?_ _|with_reducible refine Below.drew ?_|with_reducible refine Below.setCell ?_ ?_ _|with_reducible refine Below.alloc ?_ ?_ _|omega| (simp;done) | (simp;omega)))) (by omega)).mono ?_;refine stop_here ?_)
   refine go_on ?_
   intro e w2 hq
   rcases hq.cases with⟨a,er,hp,hb,rfl⟩ | ⟨x2,s2,v,hp,hb,rfl,⟨rfl,hn2⟩,hs⟩
   ·have HP:=Lib.hid (HE1.out.trans (bind_stop hp))
    clear hp
    have HA:=Lib.hid (ha_step HA1.out hr (by repeat' (first|with_reducible exact Below.refl _ _|with_reducible refine below_drewN ?_ _|with_reducible refine Below.drew ?_|with_reducible refine Below.setCell ?_ ?_ _|with_reducible refine Below.alloc ?_ ?_ _|omega| (simp;done) | (simp;omega))) hb)
    clear hb
    go_wp2_with fail
    exact(show _∧_ from⟨rfl,rpost_error HP.out HA.out⟩)
   ·have HE2:=Lib.hid (HE1.out.trans (bind_step hp))
    clear hp
    have HA2:=Lib.hid (ha_step HA1.out hr (by repeat' (first|with_reducible exact Below.refl _ _|with_reducible refine below_drewN ?_ _|with_reducible refine Below.drew ?_|with_reducible refine Below.setCell ?_ ?_ _|with_reducible refine Below.alloc ?_ ?_ _|omega| (simp;done) | (simp;omega))) hb)
    have HS2:=Lib.hid hs
    have hz2:=hb.but.size
    try simp at hz2
    have hy2:=HA2.out.but.size
    have e_kr: ¬w1.heap.size=r:=by omega
    have e_kr': ¬r=w1.heap.size:=by omega
    have e_kb: ¬w1.heap.size=w.heap.size:=by omega
    have e_kb': ¬w.heap.size=w1.heap.size:=by omega
    have X2_b:=Lib.hid ((X1_b.out.below ((Below.refl _ _).alloc (Nat.le_refl _) _) X1_b.out.lt).but hb.but (ne_one (by omega)))
    have X2_k:=Lib.hid ((bx_new_at _ [.int .i64 9, .string ⟨#[]⟩, .int .i64 0, .int .i64 0, .int .i64 0] 81 (w1.heap.size) (by simp)).but hb.but (ne_one (by omega)))
    clear hb hs X1_b
    have c_k0:=X2_k.out.cell 0 rfl
    have z_k0:=X2_k.out.frozen 0
    have c_k1:=X2_k.out.cell 1 rfl
    have z_k1:=X2_k.out.frozen 1
    have c_k2:=X2_k.out.cell 2 rfl
    have z_k2:=X2_k.out.frozen 2
    have c_k3:=X2_k.out.cell 3 rfl
    have z_k3:=X2_k.out.frozen 3
    have c_k4:=X2_k.out.cell 4 rfl
    have z_k4:=X2_k.out.frozen 4
    go_wp2_with (go_at_call 119;refine(number_any r A cap 2 l s2 _ (H0.out.keepB HS2.out (by repeat' (first|with_reducible exact Below.refl _ _|with_reducible refine below_drewN ?_ _|with_reducible refine Below.drew ?_|with_reducible refine Below.setCell ?_ ?_ _|with_reducible refine Below.alloc ?_ ?_ _|omega| (simp;done) | (simp;omega)))) (by omega)).mono ?_;refine stop_here ?_)
    refine go_on ?_
    intro e w3 hq
    rcases hq.cases with⟨a,er,hp,hb,rfl⟩ | ⟨x3,s3,v,hp,hb,rfl,⟨rfl,hn3⟩,hs⟩
    ·have HP:=Lib.hid (HE2.out.trans (bind_stop hp))
     clear hp
     have HA:=Lib.hid (ha_step HA2.out hr (by repeat' (first|with_reducible exact Below.refl _ _|with_reducible refine below_drewN ?_ _|with_reducible refine Below.drew ?_|with_reducible refine Below.setCell ?_ ?_ _|with_reducible refine Below.alloc ?_ ?_ _|omega| (simp;done) | (simp;omega))) hb)
     clear hb
     go_wp2_with fail
     exact(show _∧_ from⟨rfl,rpost_error HP.out HA.out⟩)
    ·have HE3:=Lib.hid (HE2.out.trans (bind_step hp))
     clear hp
     have HA3:=Lib.hid (ha_step HA2.out hr (by repeat' (first|with_reducible exact Below.refl _ _|with_reducible refine below_drewN ?_ _|with_reducible refine Below.drew ?_|with_reducible refine Below.setCell ?_ ?_ _|with_reducible refine Below.alloc ?_ ?_ _|omega| (simp;done) | (simp;omega))) hb)
     have HS3:=Lib.hid hs
     have hz3:=hb.but.size
     try simp at hz3
     have hy3:=HA3.out.but.size
     have X3_b:=Lib.hid ((X2_b.out.set_other _ _ (by first| (simp;done) | (simp;omega))).but hb.but (ne_one (by omega)))
     have X3_k:=Lib.hid ((X2_k.out.set 3 (.int .i64 x2)).but hb.but (ne_one (by omega)))
     clear hb hs X2_b X2_k
     have c_k0:=X3_k.out.cell 0 rfl
     have c_k1:=X3_k.out.cell 1 rfl
     have c_k2:=X3_k.out.cell 2 rfl
     have c_k3:=X3_k.out.cell 3 rfl
     have c_k4:=X3_k.out.cell 4 rfl
     have c_b0:=X3_b.out.cell 0 rfl
     have z_b0:=X3_b.out.frozen 0
     have c_b1:=X3_b.out.cell 1 rfl
     have z_b1:=X3_b.out.frozen 1
     have c_b2:=X3_b.out.cell 2 rfl
     have z_b2:=X3_b.out.frozen 2
     have c_b3:=X3_b.out.cell 3 rfl
     have z_b3:=X3_b.out.frozen 3
     have c_b4:=X3_b.out.cell 4 rfl
     have z_b4:=X3_b.out.frozen 4
     have z_k0:=X3_k.out.frozen 0
     have z_k1:=X3_k.out.frozen 1
     have z_k2:=X3_k.out.frozen 2
     have z_k3:=X3_k.out.frozen 3
     have z_k4:=X3_k.out.frozen 4
     go_wp2_with fail
     refine bodyPost_ret (v:=koV ⟨9,⟨#[]⟩,0,x2,x3⟩) (by simp [koV,results,Tryz.results122,go_sem,c_b0,z_b0,c_k0,z_k0,c_b1,z_b1,c_k1,z_k1,c_b2,z_b2,c_k2,z_k2,c_b3,z_b3,c_k3,z_k3,c_b4,z_b4,c_k4,z_k4]) rfl ?_
     exact rpost_ok HE3.out (ha_low HA3.out hr (by repeat' (first|with_reducible exact Below.refl _ _|with_reducible refine below_drewN ?_ _|with_reducible refine Below.drew ?_|with_reducible refine Below.setCell ?_ ?_ _|with_reducible refine Below.alloc ?_ ?_ _|omega| (simp;done) | (simp;omega)))) rfl (H0.out.keepB HS3.out (by repeat' (first|with_reducible exact Below.refl _ _|with_reducible refine below_drewN ?_ _|with_reducible refine Below.drew ?_|with_reducible refine Below.setCell ?_ ?_ _|with_reducible refine Below.alloc ?_ ?_ _|omega| (simp;done) | (simp;omega))))
  have T9:((x1:Int)==9)=false:=by simp;omega
  by_cases t10:x1=10
  ·obtain rfl:x1=10:=t10
   have HE1:=Lib.hid (HE1.out.trans (if_neg (by decide)))
   have HE1:=Lib.hid (HE1.out.trans (if_neg (by decide)))
   have HE1:=Lib.hid (HE1.out.trans (if_neg (by decide)))
   have HE1:=Lib.hid (HE1.out.trans (if_pos (by decide)))
   go_wp2_with (go_at_call 119;refine(number_any r A cap 2 l s1 _ (H0.out.keepB HS1.out (by repeat' (first|with_reducible exact Below.refl _ _|with_reducible refine below_drewN ?_ _|with_reducible refine Below.drew ?_|with_reducible refine Below.setCell ?_ ?_ _|with_reducible refine Below.alloc ?_ ?_ _|omega| (simp;done) | (simp;omega)))) (by omega)).mono ?_;refine stop_here ?_)
   refine go_on ?_
   intro e w2 hq
   rcases hq.cases with⟨a,er,hp,hb,rfl⟩ | ⟨x2,s2,v,hp,hb,rfl,⟨rfl,hn2⟩,hs⟩
   ·have HP:=Lib.hid (HE1.out.trans (bind_stop hp))
    clear hp
    have HA:=Lib.hid (ha_step HA1.out hr (by repeat' (first|with_reducible exact Below.refl _ _|with_reducible refine below_drewN ?_ _|with_reducible refine Below.drew ?_|with_reducible refine Below.setCell ?_ ?_ _|with_reducible refine Below.alloc ?_ ?_ _|omega| (simp;done) | (simp;omega))) hb)
    clear hb
    go_wp2_with fail
    exact(show _∧_ from⟨rfl,rpost_error HP.out HA.out⟩)
   ·have HE2:=Lib.hid (HE1.out.trans (bind_step hp))
    clear hp
    have HA2:=Lib.hid (ha_step HA1.out hr (by repeat' (first|with_reducible exact Below.refl _ _|with_reducible refine below_drewN ?_ _|with_reducible refine Below.drew ?_|with_reducible refine Below.setCell ?_ ?_ _|with_reducible refine Below.alloc ?_ ?_ _|omega| (simp;done) | (simp;omega))) hb)
    have HS2:=Lib.hid hs
    have hz2:=hb.but.size
    try simp at hz2
    have hy2:=HA2.out.but.size
    have e_kr: ¬w1.heap.size=r:=by omega
    have e_kr': ¬r=w1.heap.size:=by omega
    have e_kb: ¬w1.heap.size=w.heap.size:=by omega
    have e_kb': ¬w.heap.size=w1.heap.size:=by omega
    have X2_b:=Lib.hid ((X1_b.out.below ((Below.refl _ _).alloc (Nat.le_refl _) _) X1_b.out.lt).but hb.but (ne_one (by omega)))
    have X2_k:=Lib.hid ((bx_new_at _ [.int .i64 10, .string ⟨#[]⟩, .int .i64 0, .int .i64 0, .int .i64 0] 81 (w1.heap.size) (by simp)).but hb.but (ne_one (by omega)))
    clear hb hs X1_b
    have c_k0:=X2_k.out.cell 0 rfl
    have z_k0:=X2_k.out.frozen 0
    have c_k1:=X2_k.out.cell 1 rfl
    have z_k1:=X2_k.out.frozen 1
    have c_k2:=X2_k.out.cell 2 rfl
    have z_k2:=X2_k.out.frozen 2
    have c_k3:=X2_k.out.cell 3 rfl
    have z_k3:=X2_k.out.frozen 3
    have c_k4:=X2_k.out.cell 4 rfl
    have z_k4:=X2_k.out.frozen 4
    go_wp2_with (go_at_call 119;refine(number_any r A cap 2 l s2 _ (H0.out.keepB HS2.out (by repeat' (first|with_reducible exact Below.refl _ _|with_reducible refine below_drewN ?_ _|with_reducible refine Below.drew ?_|with_reducible refine Below.setCell ?_ ?_ _|with_reducible refine Below.alloc ?_ ?_ _|omega| (simp;done) | (simp;omega)))) (by omega)).mono ?_;refine stop_here ?_)
    refine go_on ?_
    intro e w3 hq
    rcases hq.cases with⟨a,er,hp,hb,rfl⟩ | ⟨x3,s3,v,hp,hb,rfl,⟨rfl,hn3⟩,hs⟩
    ·have HP:=Lib.hid (HE2.out.trans (bind_stop hp))
     clear hp
     have HA:=Lib.hid (ha_step HA2.out hr (by repeat' (first|with_reducible exact Below.refl _ _|with_reducible refine below_drewN ?_ _|with_reducible refine Below.drew ?_|with_reducible refine Below.setCell ?_ ?_ _|with_reducible refine Below.alloc ?_ ?_ _|omega| (simp;done) | (simp;omega))) hb)
     clear hb
     go_wp2_with fail
     exact(show _∧_ from⟨rfl,rpost_error HP.out HA.out⟩)
    ·have HE3:=Lib.hid (HE2.out.trans (bind_step hp))
     clear hp
     have HA3:=Lib.hid (ha_step HA2.out hr (by repeat' (first|with_reducible exact Below.refl _ _|with_reducible refine below_drewN ?_ _|with_reducible refine Below.drew ?_|with_reducible refine Below.setCell ?_ ?_ _|with_reducible refine Below.alloc ?_ ?_ _|omega| (simp;done) | (simp;omega))) hb)
     have HS3:=Lib.hid hs
     have hz3:=hb.but.size
     try simp at hz3
     have hy3:=HA3.out.but.size
     have X3_b:=Lib.hid ((X2_b.out.set_other _ _ (by first| (simp;done) | (simp;omega))).but hb.but (ne_one (by omega)))
     have X3_k:=Lib.hid ((X2_k.out.set 3 (.int .i64 x2)).but hb.but (ne_one (by omega)))
     clear hb hs X2_b X2_k
     have c_k0:=X3_k.out.cell 0 rfl
     have c_k1:=X3_k.out.cell 1 rfl
     have c_k2:=X3_k.out.cell 2 rfl
     have c_k3:=X3_k.out.cell 3 rfl
     have c_k4:=X3_k.out.cell 4 rfl
     have c_b0:=X3_b.out.cell 0 rfl
     have z_b0:=X3_b.out.frozen 0
     have c_b1:=X3_b.out.cell 1 rfl
     have z_b1:=X3_b.out.frozen 1
     have c_b2:=X3_b.out.cell 2 rfl
     have z_b2:=X3_b.out.frozen 2
     have c_b3:=X3_b.out.cell 3 rfl
     have z_b3:=X3_b.out.frozen 3
     have c_b4:=X3_b.out.cell 4 rfl
     have z_b4:=X3_b.out.frozen 4
     have z_k0:=X3_k.out.frozen 0
     have z_k1:=X3_k.out.frozen 1
     have z_k2:=X3_k.out.frozen 2
     have z_k3:=X3_k.out.frozen 3
     have z_k4:=X3_k.out.frozen 4
     go_wp2_with fail
     refine bodyPost_ret (v:=koV ⟨10,⟨#[]⟩,0,x2,x3⟩) (by simp [koV,results,Tryz.results122,go_sem,c_b0,z_b0,c_k0,z_k0,c_b1,z_b1,c_k1,z_k1,c_b2,z_b2,c_k2,z_k2,c_b3,z_b3,c_k3,z_k3,c_b4,z_b4,c_k4,z_k4]) rfl ?_
     exact rpost_ok HE3.out (ha_low HA3.out hr (by repeat' (first|with_reducible exact Below.refl _ _|with_reducible refine below_drewN ?_ _|with_reducible refine Below.drew ?_|with_reducible refine Below.setCell ?_ ?_ _|with_reducible refine Below.alloc ?_ ?_ _|omega| (simp;done) | (simp;omega)))) rfl (H0.out.keepB HS3.out (by repeat' (first|with_reducible exact Below.refl _ _|with_reducible refine below_drewN ?_ _|with_reducible refine Below.drew ?_|with_reducible refine Below.setCell ?_ ?_ _|with_reducible refine Below.alloc ?_ ?_ _|omega| (simp;done) | (simp;omega))))
  have T10:((x1:Int)==10)=false:=by simp;omega
  by_cases t11:x1=11
  ·obtain rfl:x1=11:=t11
   have HE1:=Lib.hid (HE1.out.trans (if_neg (by decide)))
   have HE1:=Lib.hid (HE1.out.trans (if_neg (by decide)))
   have HE1:=Lib.hid (HE1.out.trans (if_neg (by decide)))
   have HE1:=Lib.hid (HE1.out.trans (if_pos (by decide)))
   go_wp2_with (go_at_call 119;refine(number_any r A cap 2 l s1 _ (H0.out.keepB HS1.out (by repeat' (first|with_reducible exact Below.refl _ _|with_reducible refine below_drewN ?_ _|with_reducible refine Below.drew ?_|with_reducible refine Below.setCell ?_ ?_ _|with_reducible refine Below.alloc ?_ ?_ _|omega| (simp;done) | (simp;omega)))) (by omega)).mono ?_;refine stop_here ?_)
   refine go_on ?_
   intro e w2 hq
   rcases hq.cases with⟨a,er,hp,hb,rfl⟩ | ⟨x2,s2,v,hp,hb,rfl,⟨rfl,hn2⟩,hs⟩
   ·have HP:=Lib.hid (HE1.out.trans (bind_stop hp))
    clear hp
    have HA:=Lib.hid (ha_step HA1.out hr (by repeat' (first|with_reducible exact Below.refl _ _|with_reducible refine below_drewN ?_ _|with_reducible refine Below.drew ?_|with_reducible refine Below.setCell ?_ ?_ _|with_reducible refine Below.alloc ?_ ?_ _|omega| (simp;done) | (simp;omega))) hb)
    clear hb
    go_wp2_with fail
    exact(show _∧_ from⟨rfl,rpost_error HP.out HA.out⟩)
   ·have HE2:=Lib.hid (HE1.out.trans (bind_step hp))
    clear hp
    have HA2:=Lib.hid (ha_step HA1.out hr (by repeat' (first|with_reducible exact Below.refl _ _|with_reducible refine below_drewN ?_ _|with_reducible refine Below.drew ?_|with_reducible refine Below.setCell ?_ ?_ _|with_reducible refine Below.alloc ?_ ?_ _|omega| (simp;done) | (simp;omega))) hb)
    have HS2:=Lib.hid hs
    have hz2:=hb.but.size
    try simp at hz2
    have hy2:=HA2.out.but.size
    have e_kr: ¬w1.heap.size=r:=by omega
    have e_kr': ¬r=w1.heap.size:=by omega
    have e_kb: ¬w1.heap.size=w.heap.size:=by omega
    have e_kb': ¬w.heap.size=w1.heap.size:=by omega
    have X2_b:=Lib.hid ((X1_b.out.below ((Below.refl _ _).alloc (Nat.le_refl _) _) X1_b.out.lt).but hb.but (ne_one (by omega)))
    have X2_k:=Lib.hid ((bx_new_at _ [.int .i64 11, .string ⟨#[]⟩, .int .i64 0, .int .i64 0, .int .i64 0] 81 (w1.heap.size) (by simp)).but hb.but (ne_one (by omega)))
    clear hb hs X1_b
    have c_k0:=X2_k.out.cell 0 rfl
    have z_k0:=X2_k.out.frozen 0
    have c_k1:=X2_k.out.cell 1 rfl
    have z_k1:=X2_k.out.frozen 1
    have c_k2:=X2_k.out.cell 2 rfl
    have z_k2:=X2_k.out.frozen 2
    have c_k3:=X2_k.out.cell 3 rfl
    have z_k3:=X2_k.out.frozen 3
    have c_k4:=X2_k.out.cell 4 rfl
    have z_k4:=X2_k.out.frozen 4
    go_wp2_with (go_at_call 119;refine(number_any r A cap 2 l s2 _ (H0.out.keepB HS2.out (by repeat' (first|with_reducible exact Below.refl _ _|with_reducible refine below_drewN ?_ _|with_reducible refine Below.drew ?_|with_reducible refine Below.setCell ?_ ?_ _|with_reducible refine Below.alloc ?_ ?_ _|omega| (simp;done) | (simp;omega)))) (by omega)).mono ?_;refine stop_here ?_)
    refine go_on ?_
    intro e w3 hq
    rcases hq.cases with⟨a,er,hp,hb,rfl⟩ | ⟨x3,s3,v,hp,hb,rfl,⟨rfl,hn3⟩,hs⟩
    ·have HP:=Lib.hid (HE2.out.trans (bind_stop hp))
     clear hp
     have HA:=Lib.hid (ha_step HA2.out hr (by repeat' (first|with_reducible exact Below.refl _ _|with_reducible refine below_drewN ?_ _|with_reducible refine Below.drew ?_|with_reducible refine Below.setCell ?_ ?_ _|with_reducible refine Below.alloc ?_ ?_ _|omega| (simp;done) | (simp;omega))) hb)
     clear hb
     go_wp2_with fail
     exact(show _∧_ from⟨rfl,rpost_error HP.out HA.out⟩)
    ·have HE3:=Lib.hid (HE2.out.trans (bind_step hp))
     clear hp
     have HA3:=Lib.hid (ha_step HA2.out hr (by repeat' (first|with_reducible exact Below.refl _ _|with_reducible refine below_drewN ?_ _|with_reducible refine Below.drew ?_|with_reducible refine Below.setCell ?_ ?_ _|with_reducible refine Below.alloc ?_ ?_ _|omega| (simp;done) | (simp;omega))) hb)
     have HS3:=Lib.hid hs
     have hz3:=hb.but.size
     try simp at hz3
     have hy3:=HA3.out.but.size
     have X3_b:=Lib.hid ((X2_b.out.set_other _ _ (by first| (simp;done) | (simp;omega))).but hb.but (ne_one (by omega)))
     have X3_k:=Lib.hid ((X2_k.out.set 3 (.int .i64 x2)).but hb.but (ne_one (by omega)))
     clear hb hs X2_b X2_k
     have c_k0:=X3_k.out.cell 0 rfl
     have c_k1:=X3_k.out.cell 1 rfl
     have c_k2:=X3_k.out.cell 2 rfl
     have c_k3:=X3_k.out.cell 3 rfl
     have c_k4:=X3_k.out.cell 4 rfl
     have c_b0:=X3_b.out.cell 0 rfl
     have z_b0:=X3_b.out.frozen 0
     have c_b1:=X3_b.out.cell 1 rfl
     have z_b1:=X3_b.out.frozen 1
     have c_b2:=X3_b.out.cell 2 rfl
     have z_b2:=X3_b.out.frozen 2
     have c_b3:=X3_b.out.cell 3 rfl
     have z_b3:=X3_b.out.frozen 3
     have c_b4:=X3_b.out.cell 4 rfl
     have z_b4:=X3_b.out.frozen 4
     have z_k0:=X3_k.out.frozen 0
     have z_k1:=X3_k.out.frozen 1
     have z_k2:=X3_k.out.frozen 2
     have z_k3:=X3_k.out.frozen 3
     have z_k4:=X3_k.out.frozen 4
     go_wp2_with fail
     refine bodyPost_ret (v:=koV ⟨11,⟨#[]⟩,0,x2,x3⟩) (by simp [koV,results,Tryz.results122,go_sem,c_b0,z_b0,c_k0,z_k0,c_b1,z_b1,c_k1,z_k1,c_b2,z_b2,c_k2,z_k2,c_b3,z_b3,c_k3,z_k3,c_b4,z_b4,c_k4,z_k4]) rfl ?_
     exact rpost_ok HE3.out (ha_low HA3.out hr (by repeat' (first|with_reducible exact Below.refl _ _|with_reducible refine below_drewN ?_ _|with_reducible refine Below.drew ?_|with_reducible refine Below.setCell ?_ ?_ _|with_reducible refine Below.alloc ?_ ?_ _|omega| (simp;done) | (simp;omega)))) rfl (H0.out.keepB HS3.out (by repeat' (first|with_reducible exact Below.refl _ _|with_reducible refine below_drewN ?_ _|with_reducible refine Below.drew ?_|with_reducible refine Below.setCell ?_ ?_ _|with_reducible refine Below.alloc ?_ ?_ _|omega| (simp;done) | (simp;omega))))
  have T11:((x1:Int)==11)=false:=by simp;omega
  by_cases t12:x1=12
  ·obtain rfl:x1=12:=t12
   have HE1:=Lib.hid (HE1.out.trans (if_neg (by decide)))
   have HE1:=Lib.hid (HE1.out.trans (if_neg (by decide)))
   have HE1:=Lib.hid (HE1.out.trans (if_neg (by decide)))
   have HE1:=Lib.hid (HE1.out.trans (if_pos (by decide)))
   go_wp2_with (go_at_call 119;refine(number_any r A cap 2 l s1 _ (H0.out.keepB HS1.out (by repeat' (first|with_reducible exact Below.refl _ _|with_reducible refine below_drewN ?_ _|with_reducible refine Below.drew ?_|with_reducible refine Below.setCell ?_ ?_ _|with_reducible refine Below.alloc ?_ ?_ _|omega| (simp;done) | (simp;omega)))) (by omega)).mono ?_;refine stop_here ?_)
   refine go_on ?_
   intro e w2 hq
   rcases hq.cases with⟨a,er,hp,hb,rfl⟩ | ⟨x2,s2,v,hp,hb,rfl,⟨rfl,hn2⟩,hs⟩
   ·have HP:=Lib.hid (HE1.out.trans (bind_stop hp))
    clear hp
    have HA:=Lib.hid (ha_step HA1.out hr (by repeat' (first|with_reducible exact Below.refl _ _|with_reducible refine below_drewN ?_ _|with_reducible refine Below.drew ?_|with_reducible refine Below.setCell ?_ ?_ _|with_reducible refine Below.alloc ?_ ?_ _|omega| (simp;done) | (simp;omega))) hb)
    clear hb
    go_wp2_with fail
    exact(show _∧_ from⟨rfl,rpost_error HP.out HA.out⟩)
   ·have HE2:=Lib.hid (HE1.out.trans (bind_step hp))
    clear hp
    have HA2:=Lib.hid (ha_step HA1.out hr (by repeat' (first|with_reducible exact Below.refl _ _|with_reducible refine below_drewN ?_ _|with_reducible refine Below.drew ?_|with_reducible refine Below.setCell ?_ ?_ _|with_reducible refine Below.alloc ?_ ?_ _|omega| (simp;done) | (simp;omega))) hb)
    have HS2:=Lib.hid hs
    have hz2:=hb.but.size
    try simp at hz2
    have hy2:=HA2.out.but.size
    have e_kr: ¬w1.heap.size=r:=by omega
    have e_kr': ¬r=w1.heap.size:=by omega
    have e_kb: ¬w1.heap.size=w.heap.size:=by omega
    have e_kb': ¬w.heap.size=w1.heap.size:=by omega
    have X2_b:=Lib.hid ((X1_b.out.below ((Below.refl _ _).alloc (Nat.le_refl _) _) X1_b.out.lt).but hb.but (ne_one (by omega)))
    have X2_k:=Lib.hid ((bx_new_at _ [.int .i64 12, .string ⟨#[]⟩, .int .i64 0, .int .i64 0, .int .i64 0] 81 (w1.heap.size) (by simp)).but hb.but (ne_one (by omega)))
    clear hb hs X1_b
    have c_k0:=X2_k.out.cell 0 rfl
    have z_k0:=X2_k.out.frozen 0
    have c_k1:=X2_k.out.cell 1 rfl
    have z_k1:=X2_k.out.frozen 1
    have c_k2:=X2_k.out.cell 2 rfl
    have z_k2:=X2_k.out.frozen 2
    have c_k3:=X2_k.out.cell 3 rfl
    have z_k3:=X2_k.out.frozen 3
    have c_k4:=X2_k.out.cell 4 rfl
    have z_k4:=X2_k.out.frozen 4
    go_wp2_with (go_at_call 119;refine(number_any r A cap 2 l s2 _ (H0.out.keepB HS2.out (by repeat' (first|with_reducible exact Below.refl _ _|with_reducible refine below_drewN ?_ _|with_reducible refine Below.drew ?_|with_reducible refine Below.setCell ?_ ?_ _|with_reducible refine Below.alloc ?_ ?_ _|omega| (simp;done) | (simp;omega)))) (by omega)).mono ?_;refine stop_here ?_)
    refine go_on ?_
    intro e w3 hq
    rcases hq.cases with⟨a,er,hp,hb,rfl⟩ | ⟨x3,s3,v,hp,hb,rfl,⟨rfl,hn3⟩,hs⟩
    ·have HP:=Lib.hid (HE2.out.trans (bind_stop hp))
     clear hp
     have HA:=Lib.hid (ha_step HA2.out hr (by repeat' (first|with_reducible exact Below.refl _ _|with_reducible refine below_drewN ?_ _|with_reducible refine Below.drew ?_|with_reducible refine Below.setCell ?_ ?_ _|with_reducible refine Below.alloc ?_ ?_ _|omega| (simp;done) | (simp;omega))) hb)
     clear hb
     go_wp2_with fail
     exact(show _∧_ from⟨rfl,rpost_error HP.out HA.out⟩)
    ·have HE3:=Lib.hid (HE2.out.trans (bind_step hp))
     clear hp
     have HA3:=Lib.hid (ha_step HA2.out hr (by repeat' (first|with_reducible exact Below.refl _ _|with_reducible refine below_drewN ?_ _|with_reducible refine Below.drew ?_|with_reducible refine Below.setCell ?_ ?_ _|with_reducible refine Below.alloc ?_ ?_ _|omega| (simp;done) | (simp;omega))) hb)
     have HS3:=Lib.hid hs
     have hz3:=hb.but.size
     try simp at hz3
     have hy3:=HA3.out.but.size
     have X3_b:=Lib.hid ((X2_b.out.set_other _ _ (by first| (simp;done) | (simp;omega))).but hb.but (ne_one (by omega)))
     have X3_k:=Lib.hid ((X2_k.out.set 3 (.int .i64 x2)).but hb.but (ne_one (by omega)))
     clear hb hs X2_b X2_k
     have c_k0:=X3_k.out.cell 0 rfl
     have c_k1:=X3_k.out.cell 1 rfl
     have c_k2:=X3_k.out.cell 2 rfl
     have c_k3:=X3_k.out.cell 3 rfl
     have c_k4:=X3_k.out.cell 4 rfl
     have c_b0:=X3_b.out.cell 0 rfl
     have z_b0:=X3_b.out.frozen 0
     have c_b1:=X3_b.out.cell 1 rfl
     have z_b1:=X3_b.out.frozen 1
     have c_b2:=X3_b.out.cell 2 rfl
     have z_b2:=X3_b.out.frozen 2
     have c_b3:=X3_b.out.cell 3 rfl
     have z_b3:=X3_b.out.frozen 3
     have c_b4:=X3_b.out.cell 4 rfl
     have z_b4:=X3_b.out.frozen 4
     have z_k0:=X3_k.out.frozen 0
     have z_k1:=X3_k.out.frozen 1
     have z_k2:=X3_k.out.frozen 2
     have z_k3:=X3_k.out.frozen 3
     have z_k4:=X3_k.out.frozen 4
     go_wp2_with fail
     refine bodyPost_ret (v:=koV ⟨12,⟨#[]⟩,0,x2,x3⟩) (by simp [koV,results,Tryz.results122,go_sem,c_b0,z_b0,c_k0,z_k0,c_b1,z_b1,c_k1,z_k1,c_b2,z_b2,c_k2,z_k2,c_b3,z_b3,c_k3,z_k3,c_b4,z_b4,c_k4,z_k4]) rfl ?_
     exact rpost_ok HE3.out (ha_low HA3.out hr (by repeat' (first|with_reducible exact Below.refl _ _|with_reducible refine below_drewN ?_ _|with_reducible refine Below.drew ?_|with_reducible refine Below.setCell ?_ ?_ _|with_reducible refine Below.alloc ?_ ?_ _|omega| (simp;done) | (simp;omega)))) rfl (H0.out.keepB HS3.out (by repeat' (first|with_reducible exact Below.refl _ _|with_reducible refine below_drewN ?_ _|with_reducible refine Below.drew ?_|with_reducible refine Below.setCell ?_ ?_ _|with_reducible refine Below.alloc ?_ ?_ _|omega| (simp;done) | (simp;omega))))
  have T12:((x1:Int)==12)=false:=by simp;omega
  have HE1:=Lib.hid (HE1.out.trans (if_neg t1))
  have HE1:=Lib.hid (HE1.out.trans (if_neg t3))
  have HE1:=Lib.hid (HE1.out.trans (if_neg t7))
  have HE1:=Lib.hid (HE1.out.trans (if_neg (by omega)))
  go_wp2_with (go_at_call 120;refine(wrong_any _ _ _ _).mono ?_;rintro e w2 ⟨rfl,rfl⟩)
  exact⟨rfl,rpost_error HE1.out (ha_low HA1.out hr (by repeat' (first|with_reducible exact Below.refl _ _|with_reducible refine below_drewN ?_ _|with_reducible refine Below.drew ?_|with_reducible refine Below.setCell ?_ ?_ _|with_reducible refine Below.alloc ?_ ?_ _|omega| (simp;done) | (simp;omega))))⟩
theorem rows_at {α:Type} (f:α→List Value) (s:Nat) (hs: ∀x,(f x).length=s): ∀(l:List α) (j:Nat) (x:α),l[j]?=some x→ ∀q,q<s→(l.flatMap f)[j*s+q]?=(f x)[q]?
 | [],j,x,h,q,hq=>by simp at h
 |y::l,0,x,h,q,hq=>by
  simp at h
  subst h
  rw [List.flatMap_cons,Nat.zero_mul,Nat.zero_add,List.getElem?_append_left (by rw [hs];exact hq)]
 |y::l,j+1,x,h,q,hq=>by
  have e:(j+1)*s+q=s+(j*s+q):=by rw [Nat.succ_mul];omega
  rw [List.flatMap_cons,List.getElem?_append_right (by rw [hs,e];omega),hs,e,Nat.add_sub_cancel_left]
  exact rows_at f s hs l j x (by simpa using h) q hq
def PlAt (w:World) (r:Nat) (ok:Nat→Prop) (pool:List Ko):Prop:= ∃pv,w.cell? ⟨r,4,none⟩=some pv∧SlAt w ok 5 pool.length (pool.flatMap Ko.cells) pv
theorem PlAt.step {w w':World} {r:Nat} {ok:Nat→Prop} {pool:List Ko} (h:PlAt w r ok pool) (hb:RB r w w') (hr: ∀g,ok g→g≠r):PlAt w' r ok pool:=by
 obtain⟨pv,h1,h2⟩:=h
 exact⟨pv,hb.c4.trans h1,h2.keep (Kept.of_but hb.but (fun g hg=>by simpa using hr g hg))⟩
theorem PlAt.low {w w':World} {r:Nat} {ok:Nat→Prop} {pool:List Ko} (h:PlAt w r ok pool) (hr:r<w.heap.size) (hb:Below w.heap.size w w'):PlAt w' r ok pool:=by
 obtain⟨pv,h1,h2⟩:=h
 exact⟨pv,(hb.cell (p:=⟨r,4,none⟩) hr).trans h1,h2.keep (Kept.of_below hb)⟩
theorem pl_cells {w:World} {r:Nat} {ok:Nat→Prop} {pool:List Ko} (h:PlAt w r ok pool): ∃A cap,w.cell? ⟨r,4,none⟩=some (.slice A pool.length cap)∧pool.length≤cap∧pool.length≤1048576∧
  ∀k x,pool[k]?=some x→ ∃b off,A=some ⟨b,off,none⟩∧w.cell? ⟨b,off+k*5,none⟩=some (.int .i64 x.tag)∧w.cell? ⟨b,off+k*5+1,none⟩=some (.string x.text):=by
 obtain⟨pv,h1,A,cap,rfl,h2,h3,h4,h5⟩:=h
 refine⟨A,cap,h1,h2,h3,fun k x hk=> ?_⟩
 obtain⟨b,off,e,_,_,hc⟩:=h5 (by have:=(List.getElem?_eq_some_iff.1 hk).1;omega)
 have hr:=rows_at Ko.cells 5 (fun _=>rfl) pool k x hk
 exact⟨b,off,e,hc _ _ ((hr 0 (by omega)).trans rfl),hc _ _ ((hr 1 (by omega)).trans rfl)⟩
theorem name_any (r:Nat) (A:Option Addr) (cap:Nat) (l:List UInt8) (st:Rs) (w:World) (ok:Nat→Prop) (hok: ∀g,ok g→g≠r) (h:RdrAt w r A cap l st) (hp:PlAt w r ok st.pool):
  Calls Tryz.prog 137 #[.pointer (some ⟨r,0,none⟩)] w (RPost w r A cap l (nameP l st) fun x v w'=>v= .tuple #[.int .i64 x.1, .string x.2]∧x.1≤65536):=by
 have d1:=h.c1
 have hr:=h.lt
 have H0:=Lib.hid h
 have HP0:=Lib.hid hp
 have HK:=Lib.hid hok
 have hpos:=h.pos
 have hlen:=h.len
 have HA0:=Lib.hid (RB.refl r w)
 have HE0:=Lib.hid (show nameP l st=Rx.bind (numP l 2 st) _ from rfl)
 clear h hp hok
 go_enter Tryz.func137,Tryz.ntmps137
 go_wp2_with (go_at_call 119;refine(number_any r A cap 2 l st _ (H0.out.keepB H0.out (by repeat' (first|with_reducible exact Below.refl _ _|with_reducible refine below_drewN ?_ _|with_reducible refine Below.drew ?_|with_reducible refine Below.setCell ?_ ?_ _|with_reducible refine Below.alloc ?_ ?_ _|omega| (simp;done) | (simp;omega)))) (by omega)).mono ?_;refine stop_here ?_)
 refine go_on ?_
 intro e w1 hq
 rcases hq.cases with⟨a,er,hp,hb,rfl⟩ | ⟨x1,s1,v,hp,hb,rfl,⟨rfl,hn1⟩,hs⟩
 ·have HP:=Lib.hid (HE0.out.trans (bind_stop hp))
  clear hp
  have HA:=Lib.hid (ha_step HA0.out hr (by repeat' (first|with_reducible exact Below.refl _ _|with_reducible refine below_drewN ?_ _|with_reducible refine Below.drew ?_|with_reducible refine Below.setCell ?_ ?_ _|with_reducible refine Below.alloc ?_ ?_ _|omega| (simp;done) | (simp;omega))) hb)
  clear hb
  go_wp2_with fail
  exact(show _∧_ from⟨rfl,rpost_error HP.out HA.out⟩)
 ·have HE1:=Lib.hid (HE0.out.trans (bind_step hp))
  clear hp
  have HA1:=Lib.hid (ha_step HA0.out hr (by repeat' (first|with_reducible exact Below.refl _ _|with_reducible refine below_drewN ?_ _|with_reducible refine Below.drew ?_|with_reducible refine Below.setCell ?_ ?_ _|with_reducible refine Below.alloc ?_ ?_ _|omega| (simp;done) | (simp;omega))) hb)
  have HS1:=Lib.hid hs
  have hz1:=hb.but.size
  try simp at hz1
  have hy1:=HA1.out.but.size
  clear hb hs
  have HP1:=Lib.hid (HP0.out.step HA1.out HK.out)
  clear HP0
  obtain⟨Ap,capp,c4,hcap,hmax,hcell⟩:=pl_cells HP1.out
  have HC:=Lib.hid hcell
  clear hcell
  rcases Nat.eq_zero_or_pos x1 with h0|h0
  ·subst h0
   have HE1:=Lib.hid (HE1.out.trans (show _= .error (st.pos,20) by simp only [if_true]))
   go_wp2_with (go_at_call 120;refine(wrong_any _ _ _ _).mono ?_;rintro e w2 ⟨rfl,rfl⟩)
   exact⟨rfl,rpost_error HE1.out (ha_low HA1.out hr (by repeat' (first|with_reducible exact Below.refl _ _|with_reducible refine below_drewN ?_ _|with_reducible refine Below.drew ?_|with_reducible refine Below.setCell ?_ ?_ _|with_reducible refine Below.alloc ?_ ?_ _|omega| (simp;done) | (simp;omega))))⟩
  ·obtain⟨k,rfl⟩: ∃k,x1=k+1:=⟨x1 - 1,by omega⟩
   have hk1: ¬(((k+1:Nat):Int) <1):=by omega
   have hk2:decide (((k+1:Nat):Int) <1)=false:=by simp;omega
   rcases hx:st.pool[k]? with _|x
   ·have hge:st.pool.length≤k:=by simpa using hx
    have hgt:st.pool.length<k+1:=by omega
    have HX:=Lib.hid hx
    have HE1:=Lib.hid (HE1.out.trans (show _= .error (st.pos,20) by simp only [Nat.succ_ne_zero,if_false,Nat.add_sub_cancel,hx]))
    clear hx
    go_wp2_with (go_at_call 120;refine(wrong_any _ _ _ _).mono ?_;rintro e w2 ⟨rfl,rfl⟩)
    exact⟨rfl,rpost_error HE1.out (ha_low HA1.out hr (by repeat' (first|with_reducible exact Below.refl _ _|with_reducible refine below_drewN ?_ _|with_reducible refine Below.drew ?_|with_reducible refine Below.setCell ?_ ?_ _|with_reducible refine Below.alloc ?_ ?_ _|omega| (simp;done) | (simp;omega))))⟩
   ·have hlt:k<st.pool.length:=(List.getElem?_eq_some_iff.1 hx).1
    have hngt: ¬st.pool.length<k+1:=by omega
    have hngt2:decide (((st.pool.length:Nat):Int) < ((k+1:Nat):Int))=false:=by simp;omega
    obtain⟨b,off,rfl,c5,c6⟩:=HC.out k x hx
    by_cases ht:x.tag=1
    ·have HE1:=Lib.hid (HE1.out.trans (show _= .ok ((st.pos,x.text),s1) by simp only [Nat.succ_ne_zero,if_false,Nat.add_sub_cancel,hx,ht,if_true]))
     rw [ht] at c5
     clear hx ht
     go_wp2_with fail
     go_quiet (fail)
     go_wp2_with fail
     go_ret2
     exact rpost_ok HE1.out (ha_low HA1.out hr (by repeat' (first|with_reducible exact Below.refl _ _|with_reducible refine below_drewN ?_ _|with_reducible refine Below.drew ?_|with_reducible refine Below.setCell ?_ ?_ _|with_reducible refine Below.alloc ?_ ?_ _|omega| (simp;done) | (simp;omega)))) ⟨rfl,by simp;omega⟩ (H0.out.keepB HS1.out (by repeat' (first|with_reducible exact Below.refl _ _|with_reducible refine below_drewN ?_ _|with_reducible refine Below.drew ?_|with_reducible refine Below.setCell ?_ ?_ _|with_reducible refine Below.alloc ?_ ?_ _|omega| (simp;done) | (simp;omega))))
    ·have HE1:=Lib.hid (HE1.out.trans (show _= .error (st.pos,20) by simp only [Nat.succ_ne_zero,if_false,Nat.add_sub_cancel,hx,ht]))
     have htb:(x.tag !=1)=true:=by simp [ht]
     clear hx ht
     go_wp2_with (go_at_call 120;refine(wrong_any _ _ _ _).mono ?_;rintro e w2 ⟨rfl,rfl⟩)
     exact⟨rfl,rpost_error HE1.out (ha_low HA1.out hr (by repeat' (first|with_reducible exact Below.refl _ _|with_reducible refine below_drewN ?_ _|with_reducible refine Below.drew ?_|with_reducible refine Below.setCell ?_ ?_ _|with_reducible refine Below.alloc ?_ ?_ _|omega| (simp;done) | (simp;omega))))⟩
end Go.Proofs.YtpbnjakeielipaaGreatDoor
