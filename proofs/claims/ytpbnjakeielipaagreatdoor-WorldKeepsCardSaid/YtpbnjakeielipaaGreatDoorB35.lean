/-
  What the laws rest on, part 35: walks of the program's functions and plain laws. Conditions: none but those that each theorem names.
-/
import Derived.Test.YtpbnjakeielipaaGreatDoorB34
import Derived.Deep.MidRow
import Derived.Deep.Cut
import Derived.Deep.CutBlock
import Derived.Deep.CutRange
import Derived.Deep.DeepCutAuto
import Derived.Test.YtpbnjakeielipaaGreatDoorB29
import Derived.Test.YtpbnjakeielipaaGreatDoorRows
import Derived.ChangeSame
import Derived.ChangeVars
import Derived.JoinedOf
import Derived.RowKit
import Derived.RowKitTokens
import Derived.LaidLaws
import Derived.LaidHandle
import Derived.Stop.Joined
set_option linter.unusedSimpArgs false
set_option linter.unusedVariables false
set_option maxRecDepth 100000
set_option maxHeartbeats 8000000
namespace Go.Proofs.YtpbnjakeielipaaGreatDoor
open Go Go.RowKit Lib Go.Maps
def zeroOp:List Value:= [.int .i64 0, .string ⟨#[]⟩, .slice none 0 0, .int .i64 0, .int .i64 0, .string ⟨#[]⟩, .int .i64 0, .bool false, .int .i64 0]
theorem info_entry:(Tryz.prog.info? 54).map (fun i=> (i.zero,i.size,i.bytes))=some (some (.agg #[.int .i64 0, .string ⟨#[]⟩]),2,24):=by kernel_rfl
theorem keeps_any (A:Option Addr) (len cap:Nat) (l:List OpD) (w:World) (h:RdOp w A len cap l) (hs: ∀q∈l,q.name.size≤140737488351232∧q.bytes.length≤140737488351232) (hgl:GlW w):
  Calls Tryz.prog 3 #[.slice A len cap] w fun e w'=>e= .returned (.bool true)∧Below w.heap.size w w':=by
 have hB:=glW_pos hgl
 have HA:=Lib.hid (alive_w w hgl)
 have HMu:=Lib.hid (fun w1 (hb:Below w.heap.size w w1)=>wmuch_any A len cap l w1 (h.below hb) hs)
 have HN:=Lib.hid (fun w1 (hb:Below w.heap.size w w1)=>wnew_any 10 (by decide) w1 ((hb.cell (p:=⟨0,0,none⟩) hB).trans hgl) (by have:=hb.size;omega))
 have HD:=Lib.hid h
 have hmx:=h.hmax
 have hle:=h.hle
 have HLN:=Lib.hid h.hlen
 have HGL:=Lib.hid hgl
 clear h hs hgl
 go_enter Tryz.func3,Tryz.ntmps3
 go_wp2_with (first
  | (go_at_call 4;refine HA.out.mono ?_;rintro e w1 ⟨rfl,hb1⟩;have HB1:=Lib.hid hb1;clear hb1)
  | (go_at_call 5;refine(HMu.out _ HB1.out).mono ?_;rintro e w2 ⟨b,rfl,hb2,hfew⟩;refine stop_here ?_))
 have HB2:=Lib.hid (HB1.out.trans (hb2.mono HB1.out.size))
 have HFew:=Lib.hid hfew
 clear hb2 hfew
 refine go_on ?_
 cases b
 rotate_left
 ·go_wp2_with fail
  go_ret
  exact⟨rfl,HB2.out⟩
 have HN2:=Lib.hid (HN.out _ HB2.out)
 clear HN HMu HA
 go_wp2_with (go_at_call 6;refine HN2.out.mono ?_;rintro e w3 ⟨p,L0,v0,rb,rv,o,rfl,hK,_,_,hb3⟩;refine stop_here ?_)
 have HB3:=Lib.hid (HB2.out.trans (hb3.mono HB2.out.size))
 have HLo:=Lib.hid HB2.out.size
 have HK0:=Lib.hid (show KpI w2.heap.size p L0 v0 WSt.new (4*0) w3 (.slice none 0 0) (.slice none 0 0) (.slice none 0 0) (.slice none 0 0) [] from⟨⟨0,Nat.zero_le _,hK⟩,RwI.nil,RwI.nil,RwI.nil,RwI.nil,fun r hr=>by cases hr⟩)
 obtain⟨B,hBB⟩: ∃B,w2.heap.size=B:=⟨_,rfl⟩
 rw [hBB] at HK0 HLo
 clear hb3 hK hBB
 refine go_on ?_
 go_wp2_with fail
 go_loopw [7,8,9,10,11] (fun r7 r8 r9 r10 iv wr=> ∃(k:Nat) (L:LPos) (v:Value) (x:WSt) (rem:List RemV),iv= .int .i64 k∧k≤len∧rem.length≤k∧Hid (KpI B p L v x (4*k) wr r7 r8 r9 r10 rem)∧Hid (Below w.heap.size w wr)) (fun _ _ _ _ iv _=>len - (RowKit.intOf iv).toNat)
 case atStart=>exact⟨0,L0,v0,WSt.new, [],rfl,by omega,by simp,HK0,HB3⟩
 case round=>
  obtain⟨k,L,v,x,rem,rfl,hk,hrk,HI,HBr⟩:=hrel
  have hzr:=HBr.out.size
  by_cases hlt:k<len
  ·obtain⟨bb,off,rfl,hbl,hat⟩:=(HD.out.below HBr.out).hat (by omega)
   have ha:=hat k hlt
   have hf:=HFew.out trivial
   have hmem:l.getD k op0∈l:=by
    rw [List.getD_eq_getElem?_getD,List.getElem?_eq_getElem (by rw [←HLN.out];exact hlt)]
    exact List.getElem_mem _
   have hlen150:len≤150:=by rw [HLN.out];exact hf.1
   have hsz:=hf.2 _ hmem
   obtain⟨A7,c7,A8,c8,A9,c9,A10,c10,rfl,rfl,rfl,rfl,hc7,hc8,hc9,hc10⟩:=HI.out.rows (by omega)
   generalize l.getD k op0=d at*
   obtain⟨A',n',c',ac2,hrb⟩:=ha.c2
   obtain⟨kd,nm,by',n,id,fc,fa,vr,vn⟩:=d
   have HRng:=Lib.hid (show wr.rangeAt bb (off+k*9) [.int .i64 kd, .string nm, .slice A' n' c', .int .i64 n, .int .i64 id, .string fc, .int .i64 fa, .bool vr, .int .i64 vn] from fun j y hj=>by
    match j,hj with
    |0,hj=>cases hj;exact ha.c0
    |1,hj=>cases hj;exact ha.c1
    |2,hj=>cases hj;exact ac2
    |3,hj=>cases hj;exact ha.c3
    |4,hj=>cases hj;exact ha.c4
    |5,hj=>cases hj;exact ha.c5
    |6,hj=>cases hj;exact ha.c6
    |7,hj=>cases hj;exact ha.c7
    |8,hj=>cases hj;exact ha.c8
    |j+9,hj=>cases hj)
   have HRB:=Lib.hid hrb
   have HSZ:=Lib.hid hsz
   have HNN:=Lib.hid ha.nn
   have HKN:=Lib.hid ha.kn
   have hi1:(0:Int)≤(k:Int):=by omega
   have hi2:(k:Int) < (len:Int):=by omega
   have Z:=Lib.hid (bx_new wr zeroOp 41)
   have Bz:=Lib.hid ((Below.refl wr.heap.size wr).alloc (Nat.le_refl _) (.cells zeroOp.toArray 41))
   clear ha ac2 hrb hsz hat hf hmem
   unfold zeroOp at Z Bz
   go_wp2_with (first
    | (refine wpList_load_mid rfl _ _ rfl bb (off+k*9) rfl _ _ HRng.out Tryz.underlying41 rfl (by kernel_rfl) ?_;refine stop_here ?_))
   have HON:=Lib.hid (show(#[.int .i64 kd, .string nm, .slice A' n' c', .int .i64 n, .int .i64 id, .string fc, .int .i64 fa, .bool vr, .int .i64 vn]:Array Value).all (·.oneCell')=true by simp [Value.oneCell'])
   refine go_on ?_
   go_wp2_with (first
    | (refine wpList_store_row rfl _ _ _ rfl wr.heap.size _ rfl rfl _ _ Z.out (by kernel_rfl) rfl HON.out ?_;refine stop_here ?_))
   have B4:=Lib.hid (below_row Bz.out wr.heap.size #[.int .i64 kd, .string nm, .slice A' n' c', .int .i64 n, .int .i64 id, .string fc, .int .i64 fa, .bool vr, .int .i64 vn] (Nat.le_refl _))
   have X4:=Lib.hid ((show Bx _ wr.heap.size [.int .i64 0, .string ⟨#[]⟩, .slice none 0 0, .int .i64 0, .int .i64 0, .string ⟨#[]⟩, .int .i64 0, .bool false, .int .i64 0] 41 from Z.out).row [.int .i64 kd, .string nm, .slice A' n' c', .int .i64 n, .int .i64 id, .string fc, .int .i64 fa, .bool vr, .int .i64 vn])
   generalize (wr.alloc (.cells #[.int .i64 0, .string ⟨#[]⟩, .slice none 0 0, .int .i64 0, .int .i64 0, .string ⟨#[]⟩, .int .i64 0, .bool false, .int .i64 0] 41)).setRow wr.heap.size #[.int .i64 kd, .string nm, .slice A' n' c', .int .i64 n, .int .i64 id, .string fc, .int .i64 fa, .bool vr, .int .i64 vn]=w4 at*
   have H4:=Lib.hid (HI.out.below B4.out)
   have HRB4:=Lib.hid (HRB.out.below B4.out)
   have x0:=X4.out.cell 0 rfl
   have x1:=X4.out.cell 1 rfl
   have x2:=X4.out.cell 2 rfl
   have x3:=X4.out.cell 3 rfl
   have hz4:=B4.out.size
   have hl4:=X4.out.lt
   clear Z Bz HON HRng
   obtain⟨kw,hkw,hK4⟩:=H4.out.wd
   have c0:=hK4.bx.cell 0 rfl
   have hwl:=hK4.wlt
   have HLL:=Lib.hid (fun(hnm:nm.size≤1048576)=>wload_any H4.out.wd nm (by omega))
   clear hkw hK4
   refine go_on ?_
   have hnm:nm.size≤60000:=HSZ.out.1
   have hnn':n'≤60000:=by have h1:n'=by'.length:=HRB.out.hlen;have h2:by'.length≤60000:=HSZ.out.2;omega
   have HO12:=Lib.hid (HI.out.wd.outNew (Nat.le_refl wr.heap.size))
   by_cases e0:kd.tmod 3=0
   ·have e0':(kd.tmod 3==0)=true:=by rw [e0];rfl
    clear e0
    have BD:=Lib.hid ((Below.refl w4.heap.size w4).drew)
    have CN:=Lib.hid (fun W' (hb:Below w4.heap.size w4 W')=> (⟨(hb.cell (p:=⟨p.wb,0,none⟩) hwl).trans c0,(hb.cell (p:=⟨wr.heap.size,1,none⟩) hl4).trans x1,(hb.cell (p:=⟨wr.heap.size,2,none⟩) hl4).trans x2⟩:W'.cell? ⟨p.wb,0,none⟩=some (.pointer (some ⟨L.lb,0,none⟩))∧W'.cell? ⟨wr.heap.size,1,none⟩=some (.string nm)∧W'.cell? ⟨wr.heap.size,2,none⟩=some (.slice A' n' c')))
    have HDf:=Lib.hid ((H4.out.wd.below BD.out).ldef nm A' n' c' by' (by omega) (HRB4.out.below BD.out) (by omega))
    go_wp2_with fail
    go_region_held2 (fun w'=>w'.cell? ⟨p.wb,0,none⟩=some (.pointer (some ⟨L.lb,0,none⟩))∧w'.cell? ⟨wr.heap.size,1,none⟩=some (.string nm)∧w'.cell? ⟨wr.heap.size,2,none⟩=some (.slice A' n' c')) (first|exact CE.out|exact CN.out _ BD.out) (first
     | (go_simp;go_at_call 7;refine HDf.out.mono ?_;rintro e w5 ⟨rfl,h5,hf5⟩;have D5:=Lib.hid h5;have F5:=Lib.hid hf5;have XX5:=Lib.hid (hf5.bx (X4.out.below BD.out hl4) HO12.out);have CE:=Lib.hid (show w5.cell? ⟨p.wb,0,none⟩=some (.pointer (some ⟨L.lb,0,none⟩))∧w5.cell? ⟨wr.heap.size,1,none⟩=some (.string nm)∧w5.cell? ⟨wr.heap.size,2,none⟩=some (.slice A' n' c') from⟨by(obtain⟨_,_,h6⟩:=h5;exact h6.bx.cell 0 rfl),XX5.out.cell 1 rfl,XX5.out.cell 2 rfl⟩);clear h5 hf5;dsimp only))
    have HK5:=Lib.hid (((H4.out.below BD.out).call D5.out F5.out (LLe.refl L) (keep_define x nm by')).moreT (T':=4*(k+1)) (by omega))
    have HB5:=Lib.hid (HBr.out.trans ((B4.out.mono hzr).trans ((BD.out.mono (by omega)).trans (F5.out.bel.mono HLo.out))))
    clear CN BD HDf
    go_wp2_with fail
    go_loopw [18] (fun jv w6=> ∃j:Nat,jv= .int .i64 j∧j≤rem.length∧Hid (Below w5.heap.size w5 w6)) (fun jv _=>rem.length - (RowKit.intOf jv).toNat)
    case atStart=>exact⟨0,rfl,by omega,Lib.hid (Below.refl _ _)⟩
    case round=>
     obtain⟨j,rfl,hj,HBj⟩:=hrel
     have hzj:=HBj.out.size
     by_cases hjl:j<rem.length
     ·obtain⟨⟨rs,rn,⟨st,er,⟨tc,ta⟩⟩⟩,hr⟩: ∃r,rem[j]?=some r:=⟨_,List.getElem?_eq_getElem hjl⟩
      have HKj:=Lib.hid (HK5.out.below HBj.out)
      obtain⟨b7,o7,b8,o8,b9,o9,b10,o10,rfl,rfl,rfl,rfl,q7,q8,q9,q9',q10,q10'⟩:=HKj.out.cell (by omega) j _ hr
      obtain⟨hrs,hrn,hre⟩:=HK5.out.en _ (List.mem_of_getElem? hr)
      obtain⟨kq,_,hKq⟩:=HKj.out.wd
      simp only at q7 q8 q9 q9' q10 q10' hrs hrn hre
      have BDj:=Lib.hid ((Below.refl wr.heap.size wr).drew)
      have HTg:=Lib.hid (fun W' (hb:Below wr.heap.size wr W')=>wtarget_any (hKq.below hb) rs (by unfold maxLen;omega) rn hrn)
      have HEn:=Lib.hid (fun W' (hb:Below wr.heap.size wr W')=>wentry_any (hKq.below hb) rs (by unfold maxLen;omega) rn hrn)
      rw [entAt_of hre] at HTg HEn
      have CN:=Lib.hid (fun W' (hb:Below wr.heap.size wr W')=> (⟨(hb.cell (p:=⟨b7,o7+j,none⟩) (cells_lt q7)).trans q7,(hb.cell (p:=⟨b8,o8+j,none⟩) (cells_lt q8)).trans q8⟩:W'.cell? ⟨b7,o7+j,none⟩=some (.string rs)∧W'.cell? ⟨b8,o8+j,none⟩=some (.int .i64 rn)))
      have CM:=Lib.hid (fun W' (hb:Below wr.heap.size wr W')=> (⟨(hb.cell (p:=⟨b9,o9+j*2,none⟩) (cells_lt q9)).trans q9,(hb.cell (p:=⟨b9,o9+j*2+1,none⟩) (cells_lt q9')).trans q9',(hb.cell (p:=⟨b10,o10+j*2,none⟩) (cells_lt q10)).trans q10,(hb.cell (p:=⟨b10,o10+j*2+1,none⟩) (cells_lt q10')).trans q10'⟩:W'.cell? ⟨b9,o9+j*2,none⟩=some (.int .i64 st)∧W'.cell? ⟨b9,o9+j*2+1,none⟩=some (.string er)∧W'.cell? ⟨b10,o10+j*2,none⟩=some (.string tc)∧W'.cell? ⟨b10,o10+j*2+1,none⟩=some (.int .i64 ta)))
      have hj0:(0:Int)≤j:=by omega
      have hj1:(j:Int) <rem.length:=by omega
      clear q7 q8 q9 q9' q10 q10' hrs hrn hre hKq hr
      obtain⟨sb,hsb⟩: ∃sb,(st==1)=sb:=⟨_,rfl⟩
      simp only at HTg HEn
      rw [hsb] at HTg
      go_wp2_with fail
      have BDa:=Lib.hid (((Below.refl wr.heap.size wr).alloc (Nat.le_refl _) (.cells #[.string ⟨#[]⟩, .int .i64 0] 37)).drew)
      have Xa:=Lib.hid ((bx_new wr [.string ⟨#[]⟩, .int .i64 0] 37).below ((Below.refl (wr.heap.size+1) (wr.alloc (.cells #[.string ⟨#[]⟩, .int .i64 0] 37))).drew) (by omega))
      go_cut [19] (fun v19 wc=>Hid (∃g,v19= .pointer (some ⟨g,0,none⟩)∧wr.heap.size≤g∧Bx wc g [.string tc, .int .i64 ta] 37∧Below wr.heap.size wr wc))
      case first=>
       go_region_held2 (fun w'=>w'.cell? ⟨b7,o7+j,none⟩=some (.string rs)∧w'.cell? ⟨b8,o8+j,none⟩=some (.int .i64 rn)) (first|exact CN.out _ B9.out|exact CN.out _ B10.out|exact CN.out _ B8.out|exact CN.out _ B7.out|exact CN.out _ BDa.out|exact CN.out _ BDj.out) (first
        | (go_simp;go_at_call 12;refine(HTg.out _ BDj.out).mono ?_;rintro e w7 ⟨rfl,hb7⟩;have B7:=Lib.hid (BDj.out.trans (show Below wr.heap.size wr.drew w7 from hb7));have B8:=Lib.hid (B7.out.alloc B7.out.size (.cells #[.string ⟨#[]⟩, .int .i64 0] 37));have B10:=Lib.hid (B7.out.alloc B7.out.size (.cells #[.string tc, .int .i64 ta] 37));clear hb7;dsimp only)
        | (go_simp;go_at_call 12;refine(HTg.out _ BDa.out).mono ?_;rintro e w7 ⟨rfl,hb7⟩;have B7:=Lib.hid (BDa.out.trans (hb7.mono BDa.out.size));have X7:=Lib.hid (Xa.out.below hb7 Xa.out.lt);have B9:=Lib.hid (below_two B7.out (Nat.le_refl _) (.string tc) (.int .i64 ta));have y0:=X7.out.cell 0 rfl;have y1:=X7.out.cell 1 rfl;have z0:=X7.out.frozen 0;have z1:=X7.out.frozen 1;clear hb7;dsimp only))
       ·go_wp2_with fail
        go_meet
        exact Lib.hid ⟨w7.heap.size,rfl,B7.out.size,bx_new w7 _ _,B10.out⟩
       ·go_wp2_with fail
        go_meet
        exact Lib.hid ⟨wr.heap.size,rfl,Nat.le_refl _,bx_two X7.out _ _,B9.out⟩
      case rest=>
       obtain⟨g19,rfl,hg19,hX19,hBC⟩:=hcut.out
       have X19:=Lib.hid hX19
       have BC:=Lib.hid hBC
       have hzc:=BC.out.size
       have BDc:=Lib.hid ((Below.refl wc.heap.size wc).drew)
       have HEc:=Lib.hid (HEn.out _ (BC.out.trans (BDc.out.mono hzc)))
       have CK:=Lib.hid (fun W' (hb:Below wc.heap.size wc W')=> (⟨(CN.out W' (BC.out.trans (hb.mono hzc))).1,(CN.out W' (BC.out.trans (hb.mono hzc))).2,(CM.out W' (BC.out.trans (hb.mono hzc))).1,(CM.out W' (BC.out.trans (hb.mono hzc))).2.1,(CM.out W' (BC.out.trans (hb.mono hzc))).2.2.1,(CM.out W' (BC.out.trans (hb.mono hzc))).2.2.2,(X19.out.below hb X19.out.lt).cell 0 rfl,(X19.out.below hb X19.out.lt).cell 1 rfl⟩:W'.cell? ⟨b7,o7+j,none⟩=some (.string rs)∧W'.cell? ⟨b8,o8+j,none⟩=some (.int .i64 rn)∧W'.cell? ⟨b9,o9+j*2,none⟩=some (.int .i64 st)∧W'.cell? ⟨b9,o9+j*2+1,none⟩=some (.string er)∧W'.cell? ⟨b10,o10+j*2,none⟩=some (.string tc)∧W'.cell? ⟨b10,o10+j*2+1,none⟩=some (.int .i64 ta)∧W'.cell? ⟨g19,0,none⟩=some (.string tc)∧W'.cell? ⟨g19,1,none⟩=some (.int .i64 ta)))
       clear hcut hX19 hBC
       go_wp2_with fail
       go_region_held2 (fun w'=>w'.cell? ⟨b7,o7+j,none⟩=some (.string rs)∧w'.cell? ⟨b8,o8+j,none⟩=some (.int .i64 rn)∧w'.cell? ⟨b9,o9+j*2,none⟩=some (.int .i64 st)∧w'.cell? ⟨b9,o9+j*2+1,none⟩=some (.string er)∧w'.cell? ⟨b10,o10+j*2,none⟩=some (.string tc)∧w'.cell? ⟨b10,o10+j*2+1,none⟩=some (.int .i64 ta)∧w'.cell? ⟨g19,0,none⟩=some (.string tc)∧w'.cell? ⟨g19,1,none⟩=some (.int .i64 ta)) (first|exact CK.out _ B11.out|exact CK.out _ BDc.out) (first
        | (go_simp;go_at_call 11;refine HEc.out.mono ?_;rintro e w9 ⟨rfl,hb9⟩;have B11:=Lib.hid (BDc.out.trans (show Below wc.heap.size wc.drew w9 from hb9));clear hb9;dsimp only))
       go_wp2_with fail
       go_roundw
       case rel=>exact⟨j+1,by go_num,by omega,Lib.hid (HBj.out.trans ((BC.out.trans (B11.out.mono hzc)).mono hzj))⟩
       case measure=>simp [RowKit.intOf];omega
     ·obtain rfl:j=rem.length:=by omega
      go_wp2_with fail
      go_roundw
      case rel=>exact⟨k+1,L,v,(x.define nm by'),rem,by go_num,by omega,by omega,Lib.hid (HK5.out.below HBj.out),Lib.hid (HB5.out.trans (HBj.out.mono (by have:=HB5.out.size;omega)))⟩
      case measure=>simp [RowKit.intOf];omega
   ·have e0f:(kd.tmod 3==0)=false:=beq_eq_false_iff_ne.2 e0
    clear e0
    by_cases e1:kd.tmod 3=1
    ·have e1':(kd.tmod 3==1)=true:=by rw [e1];rfl
     clear e1
     have HL5:=Lib.hid (HLL.out (by omega))
     go_wp2_with (go_at_call 8;refine HL5.out.mono ?_;rintro e w5 ⟨rfl,v5,h5,hf5⟩;refine stop_here ?_)
     have HK5:=Lib.hid ((H4.out.call h5 hf5 (LLe.refl L) (WKeep.load x nm)).moreT (T':=4*(k+1)) (by omega))
     have HB5:=Lib.hid (HBr.out.trans ((B4.out.mono hzr).trans (hf5.bel.mono HLo.out)))
     clear h5 hf5 HL5
     refine go_on ?_
     go_wp2_with fail
     go_loopw [18] (fun jv w6=> ∃j:Nat,jv= .int .i64 j∧j≤rem.length∧Hid (Below w5.heap.size w5 w6)) (fun jv _=>rem.length - (RowKit.intOf jv).toNat)
     case atStart=>exact⟨0,rfl,by omega,Lib.hid (Below.refl _ _)⟩
     case round=>
      obtain⟨j,rfl,hj,HBj⟩:=hrel
      have hzj:=HBj.out.size
      by_cases hjl:j<rem.length
      ·obtain⟨⟨rs,rn,⟨st,er,⟨tc,ta⟩⟩⟩,hr⟩: ∃r,rem[j]?=some r:=⟨_,List.getElem?_eq_getElem hjl⟩
       have HKj:=Lib.hid (HK5.out.below HBj.out)
       obtain⟨b7,o7,b8,o8,b9,o9,b10,o10,rfl,rfl,rfl,rfl,q7,q8,q9,q9',q10,q10'⟩:=HKj.out.cell (by omega) j _ hr
       obtain⟨hrs,hrn,hre⟩:=HK5.out.en _ (List.mem_of_getElem? hr)
       obtain⟨kq,_,hKq⟩:=HKj.out.wd
       simp only at q7 q8 q9 q9' q10 q10' hrs hrn hre
       have BDj:=Lib.hid ((Below.refl wr.heap.size wr).drew)
       have HTg:=Lib.hid (fun W' (hb:Below wr.heap.size wr W')=>wtarget_any (hKq.below hb) rs (by unfold maxLen;omega) rn hrn)
       have HEn:=Lib.hid (fun W' (hb:Below wr.heap.size wr W')=>wentry_any (hKq.below hb) rs (by unfold maxLen;omega) rn hrn)
       rw [entAt_of hre] at HTg HEn
       have CN:=Lib.hid (fun W' (hb:Below wr.heap.size wr W')=> (⟨(hb.cell (p:=⟨b7,o7+j,none⟩) (cells_lt q7)).trans q7,(hb.cell (p:=⟨b8,o8+j,none⟩) (cells_lt q8)).trans q8⟩:W'.cell? ⟨b7,o7+j,none⟩=some (.string rs)∧W'.cell? ⟨b8,o8+j,none⟩=some (.int .i64 rn)))
       have CM:=Lib.hid (fun W' (hb:Below wr.heap.size wr W')=> (⟨(hb.cell (p:=⟨b9,o9+j*2,none⟩) (cells_lt q9)).trans q9,(hb.cell (p:=⟨b9,o9+j*2+1,none⟩) (cells_lt q9')).trans q9',(hb.cell (p:=⟨b10,o10+j*2,none⟩) (cells_lt q10)).trans q10,(hb.cell (p:=⟨b10,o10+j*2+1,none⟩) (cells_lt q10')).trans q10'⟩:W'.cell? ⟨b9,o9+j*2,none⟩=some (.int .i64 st)∧W'.cell? ⟨b9,o9+j*2+1,none⟩=some (.string er)∧W'.cell? ⟨b10,o10+j*2,none⟩=some (.string tc)∧W'.cell? ⟨b10,o10+j*2+1,none⟩=some (.int .i64 ta)))
       have hj0:(0:Int)≤j:=by omega
       have hj1:(j:Int) <rem.length:=by omega
       clear q7 q8 q9 q9' q10 q10' hrs hrn hre hKq hr
       obtain⟨sb,hsb⟩: ∃sb,(st==1)=sb:=⟨_,rfl⟩
       simp only at HTg HEn
       rw [hsb] at HTg
       go_wp2_with fail
       have BDa:=Lib.hid (((Below.refl wr.heap.size wr).alloc (Nat.le_refl _) (.cells #[.string ⟨#[]⟩, .int .i64 0] 37)).drew)
       have Xa:=Lib.hid ((bx_new wr [.string ⟨#[]⟩, .int .i64 0] 37).below ((Below.refl (wr.heap.size+1) (wr.alloc (.cells #[.string ⟨#[]⟩, .int .i64 0] 37))).drew) (by omega))
       go_cut [19] (fun v19 wc=>Hid (∃g,v19= .pointer (some ⟨g,0,none⟩)∧wr.heap.size≤g∧Bx wc g [.string tc, .int .i64 ta] 37∧Below wr.heap.size wr wc))
       case first=>
        go_region_held2 (fun w'=>w'.cell? ⟨b7,o7+j,none⟩=some (.string rs)∧w'.cell? ⟨b8,o8+j,none⟩=some (.int .i64 rn)) (first|exact CN.out _ B9.out|exact CN.out _ B10.out|exact CN.out _ B8.out|exact CN.out _ B7.out|exact CN.out _ BDa.out|exact CN.out _ BDj.out) (first
         | (go_simp;go_at_call 12;refine(HTg.out _ BDj.out).mono ?_;rintro e w7 ⟨rfl,hb7⟩;have B7:=Lib.hid (BDj.out.trans (show Below wr.heap.size wr.drew w7 from hb7));have B8:=Lib.hid (B7.out.alloc B7.out.size (.cells #[.string ⟨#[]⟩, .int .i64 0] 37));have B10:=Lib.hid (B7.out.alloc B7.out.size (.cells #[.string tc, .int .i64 ta] 37));clear hb7;dsimp only)
         | (go_simp;go_at_call 12;refine(HTg.out _ BDa.out).mono ?_;rintro e w7 ⟨rfl,hb7⟩;have B7:=Lib.hid (BDa.out.trans (hb7.mono BDa.out.size));have X7:=Lib.hid (Xa.out.below hb7 Xa.out.lt);have B9:=Lib.hid (below_two B7.out (Nat.le_refl _) (.string tc) (.int .i64 ta));have y0:=X7.out.cell 0 rfl;have y1:=X7.out.cell 1 rfl;have z0:=X7.out.frozen 0;have z1:=X7.out.frozen 1;clear hb7;dsimp only))
        ·go_wp2_with fail
         go_meet
         exact Lib.hid ⟨w7.heap.size,rfl,B7.out.size,bx_new w7 _ _,B10.out⟩
        ·go_wp2_with fail
         go_meet
         exact Lib.hid ⟨wr.heap.size,rfl,Nat.le_refl _,bx_two X7.out _ _,B9.out⟩
       case rest=>
        obtain⟨g19,rfl,hg19,hX19,hBC⟩:=hcut.out
        have X19:=Lib.hid hX19
        have BC:=Lib.hid hBC
        have hzc:=BC.out.size
        have BDc:=Lib.hid ((Below.refl wc.heap.size wc).drew)
        have HEc:=Lib.hid (HEn.out _ (BC.out.trans (BDc.out.mono hzc)))
        have CK:=Lib.hid (fun W' (hb:Below wc.heap.size wc W')=> (⟨(CN.out W' (BC.out.trans (hb.mono hzc))).1,(CN.out W' (BC.out.trans (hb.mono hzc))).2,(CM.out W' (BC.out.trans (hb.mono hzc))).1,(CM.out W' (BC.out.trans (hb.mono hzc))).2.1,(CM.out W' (BC.out.trans (hb.mono hzc))).2.2.1,(CM.out W' (BC.out.trans (hb.mono hzc))).2.2.2,(X19.out.below hb X19.out.lt).cell 0 rfl,(X19.out.below hb X19.out.lt).cell 1 rfl⟩:W'.cell? ⟨b7,o7+j,none⟩=some (.string rs)∧W'.cell? ⟨b8,o8+j,none⟩=some (.int .i64 rn)∧W'.cell? ⟨b9,o9+j*2,none⟩=some (.int .i64 st)∧W'.cell? ⟨b9,o9+j*2+1,none⟩=some (.string er)∧W'.cell? ⟨b10,o10+j*2,none⟩=some (.string tc)∧W'.cell? ⟨b10,o10+j*2+1,none⟩=some (.int .i64 ta)∧W'.cell? ⟨g19,0,none⟩=some (.string tc)∧W'.cell? ⟨g19,1,none⟩=some (.int .i64 ta)))
        clear hcut hX19 hBC
        go_wp2_with fail
        go_region_held2 (fun w'=>w'.cell? ⟨b7,o7+j,none⟩=some (.string rs)∧w'.cell? ⟨b8,o8+j,none⟩=some (.int .i64 rn)∧w'.cell? ⟨b9,o9+j*2,none⟩=some (.int .i64 st)∧w'.cell? ⟨b9,o9+j*2+1,none⟩=some (.string er)∧w'.cell? ⟨b10,o10+j*2,none⟩=some (.string tc)∧w'.cell? ⟨b10,o10+j*2+1,none⟩=some (.int .i64 ta)∧w'.cell? ⟨g19,0,none⟩=some (.string tc)∧w'.cell? ⟨g19,1,none⟩=some (.int .i64 ta)) (first|exact CK.out _ B11.out|exact CK.out _ BDc.out) (first
         | (go_simp;go_at_call 11;refine HEc.out.mono ?_;rintro e w9 ⟨rfl,hb9⟩;have B11:=Lib.hid (BDc.out.trans (show Below wc.heap.size wc.drew w9 from hb9));clear hb9;dsimp only))
        go_wp2_with fail
        go_roundw
        case rel=>exact⟨j+1,by go_num,by omega,Lib.hid (HBj.out.trans ((BC.out.trans (B11.out.mono hzc)).mono hzj))⟩
        case measure=>simp [RowKit.intOf];omega
      ·obtain rfl:j=rem.length:=by omega
       go_wp2_with fail
       go_roundw
       case rel=>exact⟨k+1,L,v5,(x.load nm),rem,by go_num,by omega,by omega,Lib.hid (HK5.out.below HBj.out),Lib.hid (HB5.out.trans (HBj.out.mono (by have:=HB5.out.size;omega)))⟩
       case measure=>simp [RowKit.intOf];omega
    ·have e1f:(kd.tmod 3==1)=false:=beq_eq_false_iff_ne.2 e1
     clear e1
     have HR5:=Lib.hid (resolve_any H4.out.wd nm (by omega) n HNN.out (by omega))
     go_wp2_with (go_at_call 9;refine HR5.out.mono ?_;rintro e w5 ⟨L5,v5,x5,er,en,rfl,hle5,h5,hf5,hk5,hres⟩;refine stop_here ?_)
     have HK5:=Lib.hid ((H4.out.call h5 hf5 hle5 hk5).moreT (T':=4*(k+1)) (by omega))
     have HB5:=Lib.hid (HBr.out.trans ((B4.out.mono hzr).trans (hf5.bel.mono HLo.out)))
     have X5:=Lib.hid (hf5.bx X4.out HO12.out)
     have HRes:=Lib.hid hres
     clear h5 hf5 hle5 hk5 hres HR5 x0 x1 x2 x3 c0
     refine go_on ?_
     have u1:=X5.out.cell 1 rfl
     have u3:=X5.out.cell 3 rfl
     by_cases hen:(en==0)=true
     rotate_left
     ·have hen':(en !=0)=true:=by simpa [bne] using hen
      clear hen
      go_wp2_with (go_at_call 10;refine(wnum_any _ _).mono ?_;rintro e w' ⟨rfl,rfl⟩)
      go_roundw
      case rel=>exact⟨k+1,L5,v5,x5,rem,by go_num,by omega,by omega,HK5,HB5⟩
      case measure=>simp [RowKit.intOf];omega
     ·obtain⟨⟨st,eer,⟨tc,ta⟩⟩,heer,hok,hent⟩:=HRes.out hen
      simp only at heer
      subst heer
      obtain rfl:en=0:=by simpa using hen
      obtain⟨kq,_,hKq⟩:=HK5.out.wd
      have HE5:=Lib.hid (wentry_any hKq nm (by unfold maxLen;omega) n HNN.out)
      have HT5:=Lib.hid (fun W' (hb:Below w5.heap.size w5 W')=>wtarget_any (hKq.below hb) nm (by unfold maxLen;omega) n HNN.out)
      rw [entAt_of hent] at HE5 HT5
      simp only at HE5 HT5
      have HENT:=Lib.hid hent
      have hl5':=hKq.wlt
      clear hKq hen hent HRes
      have hok2:(st=1∧er=⟨#[]⟩)∨(st=2∧(er.toList== [])=false):=by
       rcases hok with⟨h1,h2⟩ | ⟨h1,h2⟩
       ·exact .inl ⟨h1,h2⟩
       ·refine .inr ⟨h1, ?_⟩
        rw [ByteArray.toList_eq,beq_eq_false_iff_ne]
        intro e
        exact h2 (ByteArray.ext (Array.toList_inj.1 e))
      clear hok
      go_wp2_with (first
       | (go_at_call 10;refine(wnum_any _ _).mono ?_;rintro e w' ⟨rfl,rfl⟩)
       | (go_at_call 11;refine HE5.out.mono ?_;rintro e w6 ⟨rfl,hb6⟩;refine stop_here ?_))
      have HB6:=Lib.hid hb6
      have X6:=Lib.hid (X5.out.below hb6 X5.out.lt)
      have B7:=Lib.hid (hb6.alloc hb6.size (.cells #[.int .i64 st, .string er] 54))
      have X7:=Lib.hid (X6.out.below ((Below.refl w6.heap.size w6).alloc (Nat.le_refl _) (.cells #[.int .i64 st, .string er] 54)) X6.out.lt)
      have E7:=Lib.hid (bx_new w6 [.int .i64 st, .string er] 54)
      have HT7:=Lib.hid (HT5.out _ B7.out)
      have hz6:=hb6.size
      have v1:=X7.out.cell 1 rfl
      have v3:=X7.out.cell 3 rfl
      have w1:=E7.out.cell 0 rfl
      have w2:=E7.out.cell 1 rfl
      have h12:=X7.out.lt
      clear hb6 u1 u3 HE5 HT5
      obtain⟨sb,hsb⟩: ∃sb,(st==1)=sb:=⟨_,rfl⟩
      rw [hsb] at HT7
      have HSB:=Lib.hid hsb
      clear hsb
      rcases hok2 with⟨rfl,rfl⟩ | ⟨rfl,he2⟩
      all_goals
       refine go_on ?_
       go_wp2_with (first
        | (go_at_call 12;refine HT7.out.mono ?_;rintro e w8 ⟨rfl,hb8⟩;refine stop_here ?_))
       have HB8:=Lib.hid (B7.out.trans (hb8.mono B7.out.size))
       have X9:=Lib.hid ((X7.out.below hb8 X7.out.lt).below ((Below.refl w8.heap.size w8).alloc (Nat.le_refl _) (.cells #[.string tc, .int .i64 ta] 37)) (X7.out.below hb8 X7.out.lt).lt)
       have E9:=Lib.hid ((E7.out.below hb8 E7.out.lt).below ((Below.refl w8.heap.size w8).alloc (Nat.le_refl _) (.cells #[.string tc, .int .i64 ta] 37)) (E7.out.below hb8 E7.out.lt).lt)
       have F9:=Lib.hid (bx_new w8 [.string tc, .int .i64 ta] 37)
       have B9:=Lib.hid (HB8.out.alloc HB8.out.size (.cells #[.string tc, .int .i64 ta] 37))
       clear hb8 v1 v3 w1 w2 h12 X7 E7 X6 X5 B7 HB6 HT7
       have a1:=X9.out.cell 1 rfl
       refine go_on ?_
       go_wp2_with (at_builtin;refine stop_here ?_)
       have hz89:(w8.alloc (.cells #[.string tc, .int .i64 ta] 37)).heap.size=w8.heap.size+1:=by simp
       generalize w8.alloc (.cells #[.string tc, .int .i64 ta] 37)=w9 at*
       have hz9:=B9.out.size
       have HK9:=Lib.hid (HK5.out.below B9.out)
       have BB9:=Lib.hid HK9.out.wd.Ble
       have Q9:=Lib.hid (fun o=> (Below.refl w9.heap.size w9).alloc (Nat.le_refl _) o)
       refine go_on ?_
       refine wpl_lies rfl _ _ 31 rfl Tryz.underlying31 info_string rfl (by omega) B rfl (HK9.out.o7.own.alloc _) rfl rfl (fun _=> ⟨_,rfl,cells_new_at _ _ _ _ (by first|rfl|omega| (simp<;>omega))⟩) (by simp [Value.oneCell']) (by omega) (by simp only [maxLen];omega) (by omega) (by have:=BB9.out;first| (simp;done) | (simp;omega) |omega) ?_
       intro g7 k7 w10 ho hg hb hgg hgl
       obtain⟨L10,hle10,hw10,hr10,hot10⟩:=WdAt.push (HK9.out.below (Q9.out _)).wd (HK9.out.below (Q9.out _)).o7 ho hg hgg hgl
       have HW10:=Lib.hid hw10
       have S7:=Lib.hid hr10
       have S8:=Lib.hid (hot10 _ _ _ _ _ (by decide) (HK9.out.below (Q9.out _)).o8)
       have S9:=Lib.hid (hot10 _ _ _ _ _ (by decide) (HK9.out.below (Q9.out _)).o9)
       have S10:=Lib.hid (hot10 _ _ _ _ _ (by decide) (HK9.out.below (Q9.out _)).o10)
       have X10:=Lib.hid (bx_push (HK9.out.below (Q9.out _)).o7.own (X9.out.below (Q9.out _) X9.out.lt) (by decide) hg)
       have E10:=Lib.hid (bx_push (HK9.out.below (Q9.out _)).o7.own (E9.out.below (Q9.out _) E9.out.lt) (by decide) hg)
       have F10:=Lib.hid (bx_push (HK9.out.below (Q9.out _)).o7.own (F9.out.below (Q9.out _) F9.out.lt) (by decide) hg)
       have HB10:=Lib.hid (((Q9.out _).mono BB9.out).trans hb)
       have BB10:=Lib.hid hw10.Ble
       have Q10:=Lib.hid (fun o=> (Below.refl w10.heap.size w10).alloc (Nat.le_refl _) o)
       have a3:=X10.out.cell 3 rfl
       have hx10:=X10.out.lt
       clear ho hg hb hgg hgl hle10 hw10 hr10 hot10 a1 hz89
       go_wp2_with (at_builtin;refine stop_here ?_)
       refine go_on ?_
       refine wpl_lies rfl _ _ 32 rfl Tryz.underlying32 info_int rfl (by omega) B rfl (S8.out.own.alloc _) rfl rfl (fun _=> ⟨_,rfl,cells_new_at _ _ _ _ (by first|rfl|omega| (simp<;>omega))⟩) (by simp [Value.oneCell']) (by omega) (by simp only [maxLen];omega) (by omega) (by have:=BB10.out;first| (simp;done) | (simp;omega) |omega) ?_
       intro g8 k8 w11 ho hg hb hgg hgl
       obtain⟨L11,hle11,hw11,hr11,hot11⟩:=WdAt.push (HW10.out.below (Q10.out _)) (S8.out.below (Q10.out _)) ho hg hgg hgl
       have HW11:=Lib.hid hw11
       have U7:=Lib.hid (hot11 _ _ _ _ _ (by decide) (S7.out.below (Q10.out _)))
       have U8:=Lib.hid hr11
       have U9:=Lib.hid (hot11 _ _ _ _ _ (by decide) (S9.out.below (Q10.out _)))
       have U10:=Lib.hid (hot11 _ _ _ _ _ (by decide) (S10.out.below (Q10.out _)))
       have E11:=Lib.hid (bx_push (S8.out.below (Q10.out _)).own (E10.out.below (Q10.out _) E10.out.lt) (by decide) hg)
       have F11:=Lib.hid (bx_push (S8.out.below (Q10.out _)).own (F10.out.below (Q10.out _) F10.out.lt) (by decide) hg)
       have HB11:=Lib.hid (HB10.out.trans (((Q10.out _).mono BB10.out).trans hb))
       have BB11:=Lib.hid hw11.Ble
       have Q11:=Lib.hid (fun o=> (Below.refl w11.heap.size w11).alloc (Nat.le_refl _) o)
       have b0:=E11.out.cell 0 rfl
       have b1:=E11.out.cell 1 rfl
       have hx11:=E11.out.lt
       clear ho hg hb hgg hgl hle11 hw11 hr11 hot11 a3 hx10
       go_wp2_with (at_builtin;refine stop_here ?_)
       refine go_on ?_
       refine wpl_lies rfl _ _ 33 rfl Tryz.underlying33 info_entry rfl (by omega) B rfl (U9.out.own.alloc _) rfl rfl (fun _=> ⟨_,rfl,cells_new_at _ _ _ _ (by first|rfl|omega| (simp<;>omega))⟩) (by simp [Value.oneCell']) (by omega) (by simp only [maxLen];omega) (by omega) (by have:=BB11.out;first| (simp;done) | (simp;omega) |omega) ?_
       intro g9 k9 w12 ho hg hb hgg hgl
       obtain⟨L12,hle12,hw12,hr12,hot12⟩:=WdAt.push (HW11.out.below (Q11.out _)) (U9.out.below (Q11.out _)) ho hg hgg hgl
       have HW12:=Lib.hid hw12
       have T7:=Lib.hid (hot12 _ _ _ _ _ (by decide) (U7.out.below (Q11.out _)))
       have T8:=Lib.hid (hot12 _ _ _ _ _ (by decide) (U8.out.below (Q11.out _)))
       have T9:=Lib.hid hr12
       have T10:=Lib.hid (hot12 _ _ _ _ _ (by decide) (U10.out.below (Q11.out _)))
       have F12:=Lib.hid (bx_push (U9.out.below (Q11.out _)).own (F11.out.below (Q11.out _) F11.out.lt) (by decide) hg)
       have HB12:=Lib.hid (HB11.out.trans (((Q11.out _).mono BB11.out).trans hb))
       have BB12:=Lib.hid hw12.Ble
       have Q12:=Lib.hid (fun o=> (Below.refl w12.heap.size w12).alloc (Nat.le_refl _) o)
       have d0:=F12.out.cell 0 rfl
       have d1:=F12.out.cell 1 rfl
       have hx12:=F12.out.lt
       clear ho hg hb hgg hgl hle12 hw12 hr12 hot12 b0 b1 hx11
       go_wp2_with (at_builtin;refine stop_here ?_)
       refine go_on ?_
       refine wpl_lies rfl _ _ 34 rfl Tryz.underlying34 info_found rfl (by omega) B rfl (T10.out.own.alloc _) rfl rfl (fun _=> ⟨_,rfl,cells_new_at _ _ _ _ (by first|rfl|omega| (simp<;>omega))⟩) (by simp [Value.oneCell']) (by omega) (by simp only [maxLen];omega) (by omega) (by have:=BB12.out;first| (simp;done) | (simp;omega) |omega) ?_
       intro g10 k10 w13 ho hg hb hgg hgl
       obtain⟨L13,hle13,hw13,hr13,hot13⟩:=WdAt.push (HW12.out.below (Q12.out _)) (T10.out.below (Q12.out _)) ho hg hgg hgl
       have HK13':=KpI.snoc ⟨nm,n,⟨_,_,⟨tc,ta⟩⟩⟩ hw13 (hot13 _ _ _ _ _ (by decide) (T7.out.below (Q12.out _))) (hot13 _ _ _ _ _ (by decide) (T8.out.below (Q12.out _))) (hot13 _ _ _ _ _ (by decide) (T9.out.below (Q12.out _))) hr13 HK5.out.en ⟨hnm,HNN.out,HENT.out⟩
       have HB13:=Lib.hid (HB5.out.trans ((B9.out.mono (by have:=HB5.out.size;omega)).trans ((HB12.out.trans (((Q12.out _).mono BB12.out).trans hb)).mono HLo.out)))
       clear ho hg hb hgg hgl hle13 hw13 hr13 hot13 d0 d1 hx12
       obtain⟨rem5,hl5,HK13''⟩: ∃r5,rem.length+1=List.length r5∧KpI B p L13 v5 x5 (4*(k+1)) w13 (.slice (some ⟨g7,0,none⟩) (rem.length+1) k7) (.slice (some ⟨g8,0,none⟩) (rem.length+1) k8) (.slice (some ⟨g9,0,none⟩) (rem.length+1) k9) (.slice (some ⟨g10,0,none⟩) (rem.length+1) k10) r5:=⟨_,by simp,HK13'⟩
       clear HK13'
       have hrk5:rem5.length≤k+1:=by omega
       rw [hl5] at HK13''
       rw [hl5]
       have HK13:=Lib.hid HK13''
       clear HK13'' hl5 HK9 HK5 S7 S8 S9 S10 U7 U8 U9 U10 T7 T8 T9 T10 HW10 HW11 HW12 X9 E9 F9 X10 E10 F10 E11 F11 F12 Q9 Q10 Q11 Q12
       generalize (some (⟨g7,0,none⟩:Addr))=A7' at*
       generalize (some (⟨g8,0,none⟩:Addr))=A8' at*
       generalize (some (⟨g9,0,none⟩:Addr))=A9' at*
       generalize (some (⟨g10,0,none⟩:Addr))=A10' at*
       go_wp2_with fail
       go_loopw [18] (fun jv w6=> ∃j:Nat,jv= .int .i64 j∧j≤rem5.length∧Hid (Below w13.heap.size w13 w6)) (fun jv _=>rem5.length - (RowKit.intOf jv).toNat)
       case atStart=>exact⟨0,rfl,by omega,Lib.hid (Below.refl _ _)⟩
       case round=>
        obtain⟨j,rfl,hj,HBj⟩:=hrel
        have hzj:=HBj.out.size
        by_cases hjl:j<rem5.length
        ·obtain⟨⟨rs,rn,⟨st,er,⟨tc,ta⟩⟩⟩,hr⟩: ∃r,rem5[j]?=some r:=⟨_,List.getElem?_eq_getElem hjl⟩
         have HKj:=Lib.hid (HK13.out.below HBj.out)
         obtain⟨b7,o7,b8,o8,b9,o9,b10,o10,rfl,rfl,rfl,rfl,q7,q8,q9,q9',q10,q10'⟩:=HKj.out.cell (by omega) j _ hr
         obtain⟨hrs,hrn,hre⟩:=HK13.out.en _ (List.mem_of_getElem? hr)
         obtain⟨kq,_,hKq⟩:=HKj.out.wd
         simp only at q7 q8 q9 q9' q10 q10' hrs hrn hre
         have BDj:=Lib.hid ((Below.refl wr.heap.size wr).drew)
         have HTg:=Lib.hid (fun W' (hb:Below wr.heap.size wr W')=>wtarget_any (hKq.below hb) rs (by unfold maxLen;omega) rn hrn)
         have HEn:=Lib.hid (fun W' (hb:Below wr.heap.size wr W')=>wentry_any (hKq.below hb) rs (by unfold maxLen;omega) rn hrn)
         rw [entAt_of hre] at HTg HEn
         have CN:=Lib.hid (fun W' (hb:Below wr.heap.size wr W')=> (⟨(hb.cell (p:=⟨b7,o7+j,none⟩) (cells_lt q7)).trans q7,(hb.cell (p:=⟨b8,o8+j,none⟩) (cells_lt q8)).trans q8⟩:W'.cell? ⟨b7,o7+j,none⟩=some (.string rs)∧W'.cell? ⟨b8,o8+j,none⟩=some (.int .i64 rn)))
         have CM:=Lib.hid (fun W' (hb:Below wr.heap.size wr W')=> (⟨(hb.cell (p:=⟨b9,o9+j*2,none⟩) (cells_lt q9)).trans q9,(hb.cell (p:=⟨b9,o9+j*2+1,none⟩) (cells_lt q9')).trans q9',(hb.cell (p:=⟨b10,o10+j*2,none⟩) (cells_lt q10)).trans q10,(hb.cell (p:=⟨b10,o10+j*2+1,none⟩) (cells_lt q10')).trans q10'⟩:W'.cell? ⟨b9,o9+j*2,none⟩=some (.int .i64 st)∧W'.cell? ⟨b9,o9+j*2+1,none⟩=some (.string er)∧W'.cell? ⟨b10,o10+j*2,none⟩=some (.string tc)∧W'.cell? ⟨b10,o10+j*2+1,none⟩=some (.int .i64 ta)))
         have hj0:(0:Int)≤j:=by omega
         have hj1:(j:Int) <rem5.length:=by omega
         clear q7 q8 q9 q9' q10 q10' hrs hrn hre hKq hr
         obtain⟨sb,hsb⟩: ∃sb,(st==1)=sb:=⟨_,rfl⟩
         simp only at HTg HEn
         rw [hsb] at HTg
         go_wp2_with fail
         have BDa:=Lib.hid (((Below.refl wr.heap.size wr).alloc (Nat.le_refl _) (.cells #[.string ⟨#[]⟩, .int .i64 0] 37)).drew)
         have Xa:=Lib.hid ((bx_new wr [.string ⟨#[]⟩, .int .i64 0] 37).below ((Below.refl (wr.heap.size+1) (wr.alloc (.cells #[.string ⟨#[]⟩, .int .i64 0] 37))).drew) (by omega))
         go_cut [19] (fun v19 wc=>Hid (∃g,v19= .pointer (some ⟨g,0,none⟩)∧wr.heap.size≤g∧Bx wc g [.string tc, .int .i64 ta] 37∧Below wr.heap.size wr wc))
         case first=>
          go_region_held2 (fun w'=>w'.cell? ⟨b7,o7+j,none⟩=some (.string rs)∧w'.cell? ⟨b8,o8+j,none⟩=some (.int .i64 rn)) (first|exact CN.out _ B9.out|exact CN.out _ B10.out|exact CN.out _ B8.out|exact CN.out _ B7.out|exact CN.out _ BDa.out|exact CN.out _ BDj.out) (first
           | (go_simp;go_at_call 12;refine(HTg.out _ BDj.out).mono ?_;rintro e w7 ⟨rfl,hb7⟩;have B7:=Lib.hid (BDj.out.trans (show Below wr.heap.size wr.drew w7 from hb7));have B8:=Lib.hid (B7.out.alloc B7.out.size (.cells #[.string ⟨#[]⟩, .int .i64 0] 37));have B10:=Lib.hid (B7.out.alloc B7.out.size (.cells #[.string tc, .int .i64 ta] 37));clear hb7;dsimp only)
           | (go_simp;go_at_call 12;refine(HTg.out _ BDa.out).mono ?_;rintro e w7 ⟨rfl,hb7⟩;have B7:=Lib.hid (BDa.out.trans (hb7.mono BDa.out.size));have X7:=Lib.hid (Xa.out.below hb7 Xa.out.lt);have B9:=Lib.hid (below_two B7.out (Nat.le_refl _) (.string tc) (.int .i64 ta));have y0:=X7.out.cell 0 rfl;have y1:=X7.out.cell 1 rfl;have z0:=X7.out.frozen 0;have z1:=X7.out.frozen 1;clear hb7;dsimp only))
          ·go_wp2_with fail
           go_meet
           exact Lib.hid ⟨w7.heap.size,rfl,B7.out.size,bx_new w7 _ _,B10.out⟩
          ·go_wp2_with fail
           go_meet
           exact Lib.hid ⟨wr.heap.size,rfl,Nat.le_refl _,bx_two X7.out _ _,B9.out⟩
         case rest=>
          obtain⟨g19,rfl,hg19,hX19,hBC⟩:=hcut.out
          have X19:=Lib.hid hX19
          have BC:=Lib.hid hBC
          have hzc:=BC.out.size
          have BDc:=Lib.hid ((Below.refl wc.heap.size wc).drew)
          have HEc:=Lib.hid (HEn.out _ (BC.out.trans (BDc.out.mono hzc)))
          have CK:=Lib.hid (fun W' (hb:Below wc.heap.size wc W')=> (⟨(CN.out W' (BC.out.trans (hb.mono hzc))).1,(CN.out W' (BC.out.trans (hb.mono hzc))).2,(CM.out W' (BC.out.trans (hb.mono hzc))).1,(CM.out W' (BC.out.trans (hb.mono hzc))).2.1,(CM.out W' (BC.out.trans (hb.mono hzc))).2.2.1,(CM.out W' (BC.out.trans (hb.mono hzc))).2.2.2,(X19.out.below hb X19.out.lt).cell 0 rfl,(X19.out.below hb X19.out.lt).cell 1 rfl⟩:W'.cell? ⟨b7,o7+j,none⟩=some (.string rs)∧W'.cell? ⟨b8,o8+j,none⟩=some (.int .i64 rn)∧W'.cell? ⟨b9,o9+j*2,none⟩=some (.int .i64 st)∧W'.cell? ⟨b9,o9+j*2+1,none⟩=some (.string er)∧W'.cell? ⟨b10,o10+j*2,none⟩=some (.string tc)∧W'.cell? ⟨b10,o10+j*2+1,none⟩=some (.int .i64 ta)∧W'.cell? ⟨g19,0,none⟩=some (.string tc)∧W'.cell? ⟨g19,1,none⟩=some (.int .i64 ta)))
          clear hcut hX19 hBC
          go_wp2_with fail
          go_region_held2 (fun w'=>w'.cell? ⟨b7,o7+j,none⟩=some (.string rs)∧w'.cell? ⟨b8,o8+j,none⟩=some (.int .i64 rn)∧w'.cell? ⟨b9,o9+j*2,none⟩=some (.int .i64 st)∧w'.cell? ⟨b9,o9+j*2+1,none⟩=some (.string er)∧w'.cell? ⟨b10,o10+j*2,none⟩=some (.string tc)∧w'.cell? ⟨b10,o10+j*2+1,none⟩=some (.int .i64 ta)∧w'.cell? ⟨g19,0,none⟩=some (.string tc)∧w'.cell? ⟨g19,1,none⟩=some (.int .i64 ta)) (first|exact CK.out _ B11.out|exact CK.out _ BDc.out) (first
           | (go_simp;go_at_call 11;refine HEc.out.mono ?_;rintro e w9 ⟨rfl,hb9⟩;have B11:=Lib.hid (BDc.out.trans (show Below wc.heap.size wc.drew w9 from hb9));clear hb9;dsimp only))
          go_wp2_with fail
          go_roundw
          case rel=>exact⟨j+1,by go_num,by omega,Lib.hid (HBj.out.trans ((BC.out.trans (B11.out.mono hzc)).mono hzj))⟩
          case measure=>simp [RowKit.intOf];omega
        ·obtain rfl:j=rem5.length:=by omega
         go_wp2_with fail
         go_roundw
         case rel=>exact⟨k+1,L13,v5,x5,rem5,by go_num,by omega,by omega,Lib.hid (HK13.out.below HBj.out),Lib.hid (HB13.out.trans (HBj.out.mono (by have:=HB13.out.size;omega)))⟩
         case measure=>simp [RowKit.intOf];omega
  ·obtain rfl:k=len:=by omega
   go_wp2_with fail
   go_ret
   exact⟨rfl,HBr.out⟩
end Go.Proofs.YtpbnjakeielipaaGreatDoor
namespace Go.Proofs.YtpbnjakeielipaaGreatDoor
open Go.ChangeShapes Go.WideShapes Go.RowKit
theorem l_own:ownKnob Tryz.prog.godebug=none:=by kernel_rfl
theorem l_et:Tryz.prog.globalNamed "errors.errorType" =some 0:=by kernel_rfl
theorem l_rt:(Tryz.prog.cutTypes.find? (·.1== "internal/reflectlite.rtype")).map (·.2)=some 194:=by kernel_rfl
theorem l_size: ∃n,Tryz.prog.types.size=n∧((List.range n).filter fun t=>Tryz.prog.rowNamed t [101,114,114,111,114])= [87]:=⟨_,rfl,by kernel_rfl⟩
theorem gl_of_laid {W:World} (h:laidMetH Tryz.prog [("errors.errorType",Rows.laid_errors_errorType)] W):GlW W:=by
 have h':laidMet Tryz.prog [] W∧handlesMet Tryz.prog [("errors.errorType",Rows.laid_errors_errorType)] W:=h
 obtain⟨name,u,ty,e1,e2,e3,e4,e5⟩:=h'.2 _ (List.mem_singleton.2 rfl)
 have en:name= [101,114,114,111,114]:=(Option.some.inj e1).symm
 subst en
 obtain rfl:=Option.some.inj (l_rt.symm.trans e2)
 obtain⟨n,hn,hone⟩:=l_size
 have hm:ty∈(List.range n).filter fun t=>Tryz.prog.rowNamed t [101,114,114,111,114]:=List.mem_filter.2 ⟨List.mem_range.2 (by rw [←hn];exact e3),e4⟩
 rw [hone] at hm
 obtain rfl:=List.mem_singleton.1 hm
 have hh:typeHandle Tryz.prog 87= .pointer (some ⟨2,87,none⟩):=by kernel_rfl
 rw [hh] at e5
 simpa using World.var?_cell l_et e5 0
noncomputable def laidWorld (os:Os):World:=
 let w0:=World.holding Tryz.prog os ⟨#[],#[], []⟩
 { w0 with heap:=w0.heap.modify 0 fun
   | .cells _ t frozen=> .cells #[.iface 194 (.agg #[.pointer (some ⟨2,87,none⟩)])] t frozen
   |o=>o }
theorem laidWorld_met (os:Os) (args:Array Value):laidMetH Tryz.prog [("errors.errorType",Rows.laid_errors_errorType)] ((laidWorld os).forCall (fun _ _=>0) ⟨#[],args, []⟩).memory:=
 laidMetH_of_parts (laidMet_nil _ _) (by kernel_rfl)
end Go.Proofs.YtpbnjakeielipaaGreatDoor
