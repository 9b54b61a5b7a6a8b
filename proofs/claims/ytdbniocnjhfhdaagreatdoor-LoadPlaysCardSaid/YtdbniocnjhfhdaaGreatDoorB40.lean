/- Part 40 of what the laws rest on: walks. Conditions: those that each theorem names. -/
import Derived.Test.YtdbniocnjhfhdaaGreatDoorB39
import Derived.LaidHandle
import Derived.Stop.Joined
set_option linter.unusedSimpArgs false
set_option linter.unusedVariables false
set_option maxRecDepth 100000
set_option maxHeartbeats 4000000
namespace Go.Proofs.YtdbniocnjhfhdaaGreatDoor
open Go Go.RowKit Lib
theorem oqG (A:Option Addr) (len cap:Nat) (l:List DfD) (w:World) (hgl:GlB w) (h:oqF w A len cap l) (hsz: ∀d∈l,d.name.size≤140737488351232∧d.bytes.length≤140737488351232):
  Calls Tryz.prog 8 #[.slice A len cap] w fun e w'=>e= .returned (.bool true)∧Below w.heap.size w w':=by
 have hB:=mqn hgl
 have HA:=Hq (mqo w hgl)
 have HG:=Hq hgl
 have HD:=Hq h
 have HSZ:=Hq hsz
 have hmx:=h.hmax
 have hle:=h.hle
 have HLN:=Hq h.hlen
 clear hgl h hsz
 go_enter Tryz.func8,Tryz.ntmps8
 go_wp2_with (first
  | (go_at_call 10;refine HA.out.mono ?_;rintro e w1 ⟨rfl,hb1⟩;have B1:=Hq hb1;clear hb1)
  | (go_at_call 11;refine aqa ?_))
 refine aqb ?_
 refine(mqu A len cap l _ (HD.out.below B1.out) HSZ.out).mono ?_
 rintro e w2 ⟨b0,rfl,hb0,hb⟩
 have B2:=Hq (B1.out.trans (hb.mono B1.out.size))
 have HSM:=Hq hb0
 clear hb hb0 HSZ
 cases b0 with
 |true=>
  go_wp2_with fail
  go_ret
  exact⟨rfl,B2.out⟩
 |false=>
  replace HSM:=Hq (HSM.out rfl)
  have hz2:=B2.out.size
  go_wp2_with (go_at_call 12;refine aqa ?_)
  refine aqb ?_
  refine(At1.new w2 [] Sp).mono ?_
  rintro e w3 ⟨Lx,vx,rfl,_,h3,hb3⟩
  have H3:=Hq h3
  have B3:=Hq (B2.out.trans (hb3.mono hz2))
  clear h3 hb3
  go_wp2_with (go_at_call 20;refine aqa ?_)
  refine aqb ?_
  refine(Duo.new H3.out).mono ?_
  rintro e w4 ⟨r,rfl,hd,hb4⟩
  obtain⟨lb,hlb⟩: ∃lb,Lx.lb=lb:=⟨_,rfl⟩
  rw [hlb] at hd⊢
  have HDU:=Hq hd
  have B4:=Hq (B3.out.trans (hb4.mono B3.out.size))
  clear hd hb4 hlb H3 B3
  have hB2:0<w2.heap.size:=by omega
  go_wp2_with fail
  go_loopw [7] (fun i wr=> ∃(k:Nat) (σ:St),k≤len∧i= .int .i64 k∧Hid (Below w.heap.size w wr)∧Hid (Duo w2.heap.size lb r σ σ [] wr)∧Hid (Inv σ)) (fun i _=>len - (RowKit.intOf i).toNat)
  case atStart=>exact⟨0,_,by omega,rfl,B4,HDU,Hq oqC⟩
  case round=>
   obtain⟨k,σ,hk,rfl,HBr,HDr,HIN⟩:=hrel
   by_cases hlt:k<len
   ·obtain⟨b,off,hA,hbl,hat⟩:=HD.out.hat Om
    subst hA
    have hatk:=hat k hlt
    have hmem:l.getD k df0∈l:=by
     rw [List.getD_eq_getElem?_getD,List.getElem?_eq_getElem (by have:=HLN.out;omega)]
     exact List.getElem_mem _
    obtain⟨z1,z2⟩:=HSM.out _ hmem
    obtain⟨d,hd⟩: ∃d,l.getD k df0=d:=⟨_,rfl⟩
    rw [hd] at hatk z1 z2
    have CN:=Hq (fun W (hb:Below w.heap.size w W)=> (hb.cell (p:=⟨b,off+k*3,none⟩) hbl).trans hatk.nm)
    obtain⟨A',m,c',hby,hrb⟩:=hatk.by'
    have hm:=hrb.hlen
    subst hm
    have CB:=Hq (fun W (hb:Below w.heap.size w W)=> (hb.cell (p:=⟨b,off+k*3+1,none⟩) hbl).trans hby)
    have RB:=Hq (fun W (hb:Below w.heap.size w W)=>hrb.below hb)
    have cl:=(HBr.out.cell (p:=⟨b,off+k*3+2,none⟩) hbl).trans hatk.ld
    have cn:=CN.out _ HBr.out
    have cb:=CB.out _ HBr.out
    have hi1:(0:Int)≤(k:Int):=by omega
    have hi2:(k:Int) < (len:Int):=by omega
    obtain⟨nm,bs,ld⟩:=d
    simp only at z1 z2 cl cn cb CN CB RB
    clear hat hatk hmem hd hby hrb
    cases ld
    case true=>
     have DD:=Hq (HDr.out.below ((Below.refl wr.heap.size wr).drew))
     have BD:=Hq (HBr.out.trans (((Below.refl wr.heap.size wr).drew).mono HBr.out.size))
     have HL1:=Hq (DD.out.loadL nm Om hB2 (by
      show wr.cell? _=_
      exact(HBr.out.cell (p:=⟨0,0,none⟩) hB).trans HG.out))
     obtain⟨x,hx⟩: ∃x,σ.says nm=x:=⟨_,rfl⟩
     rw [hx] at HL1
     have HX:=Hq hx
     clear hx
     go_wp2_with fail
     go_region_held2 (fun w'=>w'.cell? ⟨b,off+k*3,none⟩=some (.string nm)) (first|exact CN.out _ BD.out|exact CN.out _ B5.out|exact CN.out _ B6.out) (first
      | (go_simp;go_at_call 21
         refine(H5.out.loadR nm Om).mono ?_
         rw [HX.out]
         rintro e w6 ⟨rfl,⟨hd6,_⟩,hb6⟩
         have B6:=Hq (B5.out.trans (hb6.mono hz2))
         have H6:=Hq hd6
         clear hd6 hb6)
      | (go_simp;go_at_call 13
         refine HL1.out.mono ?_
         rintro e w5 ⟨rfl,⟨hd5,_⟩,hb5⟩
         have B5:=Hq (BD.out.trans (hb5.mono hz2))
         have H5:=Hq hd5
         clear hd5 hb5))
     all_goals
      go_wp2_with fail
      go_roundw
      case rel=>exact⟨k+1,σ.load nm,by omega,by go_num,B6,H6,Hq (HIN.out.load nm)⟩
      case measure=>simp [RowKit.intOf];omega
    case false=>
     obtain⟨m,hm⟩: ∃m,bs.length=m:=⟨_,rfl⟩
     rw [hm] at z2 cb CB RB
     have HM:=Hq hm
     have SR:=Hq (RB.out _ HBr.out).src
     have LR:=Hq (show(bs.map bV).length=m*1 by rw [List.length_map,hm];omega)
     clear hm
     go_wp2_with (at_builtin;refine cq4 rfl _ _ 27 rfl Tryz.underlying27 bq5 rfl Om wr.heap.size rfl (World.ownsRow_nil _ _ _ _) rfl LR.out SR.out (fun u hu=>by obtain⟨_,_,rfl⟩:=List.mem_map.1 hu;rfl) Mz Om Nr ?_;intro v5 w5 ho5 hg5 hb5;refine aqa ?_)
     have ho5':=aqF ho5 (Nat.zero_add _) (List.nil_append _)
     obtain⟨A5,c5,rfl,hrd5,_⟩:=gq0 (by rw [←HM.out] at ho5';exact ho5')
     rw [HM.out] at hrd5 ho5'⊢
     obtain⟨X,hX⟩: ∃X,(Value.slice A5 m c5).ownBlock.toList=X:=⟨_,rfl⟩
     have hXl: ∀x∈X,wr.heap.size≤x∧x<w5.heap.size:=fun x hx=>by
      rw [←hX] at hx
      exact ho5'.lt x (by simpa using hx)
     have B5:=Hq (HBr.out.trans (hb5.mono HBr.out.size))
     have D5:=Hq (HDr.out.fresh hb5 X (fun x hx=> (hXl x hx).1) (fun x hx=> (hXl x hx).2))
     rw [List.append_nil] at D5
     have HO5:=Hq ho5'
     have HX:=Hq hX
     have R5:=Hq hrd5
     have c5n:=CN.out _ B5.out
     have hz5:=B5.out.size
     clear ho5 hg5 hb5 ho5' hrd5 hX hXl cl cn cb SR LR
     refine aqb ?_
     obtain⟨E,hE⟩: ∃E,σ.defE nm bs=E:=⟨_,rfl⟩
     have HE:=Hq hE
     have HDL:=Hq (D5.out.defL nm A5 m c5 bs Om R5.out Om)
     rw [hE] at HDL
     clear hE
     go_wp2_with (go_at_call 15;refine aqa ?_)
     refine aqb ?_
     refine HDL.out.mono ?_
     clear HDL
     rintro e w6 ⟨rfl,⟨hd6,hx6⟩,hb6⟩
     have B6:=Hq (B5.out.trans (hb6.mono hz2))
     have D6:=Hq hd6
     have HO6:=Hq (aqj HO5.out fun q hq=>hx6 q (by rw [←HX.out];simpa using hq))
     have cn6:=CN.out _ B6.out
     have cb6:=CB.out _ B6.out
     clear hd6 hx6 hb6 c5n
     have hst: ∀W,Below w.heap.size w W→W.ownsRow wr.heap.size 5 1 (.slice A5 m c5) m (bs.map bV)→(fun w'=>w'.cell? ⟨b,off+k*3,none⟩=some (.string nm)∧w'.cell? ⟨b,off+k*3+1,none⟩=some (.slice A' m c')∧(convert 27 9 (.slice A5 m c5)).run Tryz.prog w'= .ok (.string ⟨bs.toArray⟩) w'∧(convert 27 9 (.slice A' m c')).run Tryz.prog w'= .ok (.string ⟨bs.toArray⟩) w') W:=fun W hb ho=>by
      refine⟨CN.out W hb,CB.out W hb,RdB.str ?_,RdB.str (RB.out W hb)⟩
      rw [←HM.out] at ho
      obtain⟨A9,c9,e9,h9,_⟩:=gq0 ho
      rw [HM.out] at e9 h9
      injection e9 with e1 _ e3
      subst e1
      subst e3
      exact h9
     have HST:=Hq hst
     have B6d:=Hq (B6.out.trans (((Below.refl w6.heap.size w6).drew).mono B6.out.size))
     have D6d:=Hq (D6.out.below ((Below.refl w6.heap.size w6).drew))
     have HO6d:=Hq (show w6.drew.ownsRow wr.heap.size 5 1 (.slice A5 m c5) m (bs.map bV) from aqj HO6.out fun q hq=>rfl)
     clear hst cn6 cb6
     go_wp2_with fail
     go_region_held2 (fun w'=>w'.cell? ⟨b,off+k*3,none⟩=some (.string nm)∧w'.cell? ⟨b,off+k*3+1,none⟩=some (.slice A' m c')∧(convert 27 9 (.slice A5 m c5)).run Tryz.prog w'= .ok (.string ⟨bs.toArray⟩) w'∧(convert 27 9 (.slice A' m c')).run Tryz.prog w'= .ok (.string ⟨bs.toArray⟩) w') (first|exact HST.out _ B6d.out HO6d.out|exact HST.out _ B7.out HO7.out) (first
      | (go_simp;go_at_call 19
         refine(mqm _ _).mono ?_
         rintro e w7 ⟨rfl,rfl⟩)
      | (go_simp;go_at_call 22
         refine(D6d.out.defR nm A' m c' bs Om (RB.out _ B6d.out) Om).mono ?_
         rw [HE.out]
         rintro e w7 ⟨rfl,⟨hd7,hx7⟩,hb7⟩
         have B7:=Hq (B6d.out.trans (hb7.mono hz2))
         have D7:=Hq hd7
         have HO7:=Hq (aqj HO6d.out fun q hq=>hx7 q (by rw [←HX.out];simpa using hq))
         clear hd7 hx7 hb7))
     all_goals
      clear D6d HO6d B6d D6 HO6 B6 HST R5 D5 HO5 B5
      go_wp2_with fail
      obtain⟨wo,hwo⟩: ∃X,X=wr:=⟨_,rfl⟩
      subst hwo
      go_loopw [10] (fun i wz=> ∃(j:Nat) (xs:List Value),j≤m∧i= .int .i64 j∧Hid (Below w.heap.size w wz)∧Hid (Duo w2.heap.size lb r (σ.define nm bs) (σ.define nm bs) X wz)∧Hid (wz.ownsRow wo.heap.size 5 1 (.slice A5 m c5) m xs)∧Hid (∀u∈xs, ∃z,u= .int .u8 z)) (fun i _=>m - (RowKit.intOf i).toNat)
      case atStart=>exact⟨0,_,by omega,rfl,B7,D7,HO7,Hq fun u hu=>by obtain⟨x,_,rfl⟩:=List.mem_map.1 hu;exact⟨_,rfl⟩⟩
      case round=>
       obtain⟨j,xs,hj,rfl,Bz,Dz,HOz,HXS⟩:=hrel
       by_cases hjm:j<m
       ·obtain⟨g,rfl,hgz,hxl⟩: ∃g,A5=some ⟨g,0,none⟩∧g<wr.heap.size∧xs.length=m:=by
         have ho:=HOz.out
         have hxl:=ho.1
         rcases id ho.2 with⟨_,h0⟩ | ⟨g,cap',cur,e,hb,hg,hnc,hcm,hcs,hx⟩
         ·omega
         injection e with e1 _ _
         subst e1
         exact⟨g,rfl,(ho.lt g rfl).2,by omega⟩
        obtain⟨z,hz⟩:=HXS.out _ (List.getElem_mem (show j<xs.length by omega))
        have hcj:wr.cell? ⟨g,j,none⟩=some (.int .u8 z):=by
         rw [←hz]
         exact(HOz.out.cellAt j Om).trans (List.getElem?_eq_getElem Om)
        have hfj:wr.frozen? ⟨g,j,none⟩=false:=(jqo.cell ⟨_,HOz.out⟩ Om).2
        have hj0:(0:Int)≤(j:Int):=by omega
        have hj1:(j:Int) < (m:Int):=by omega
        have hgX:g∈X:=by rw [←HX.out];simp [Value.ownBlock]
        have hgl:=(HOz.out.lt g rfl).1
        have ST:=Hq (fun u=> (HOz.out.stored j u).1)
        have DB:=Hq (fun u=>Dz.out.but ((But.refl wr.heap.size X wr).set ⟨g,j,none⟩ (.inl hgX) u))
        have BZ:=Hq (fun u=>Bz.out.setCell (p:=⟨g,j,none⟩) (show w.heap.size≤g by have:=HBr.out.size;omega) u)
        clear hz hgX
        go_wp2_with fail
        go_roundw
        case rel=>
         refine⟨j+1,_,by omega,by go_num,Hq (BZ.out _),Hq (DB.out _),Hq (ST.out _),Hq fun u hu=> ?_⟩
         rcases List.mem_or_eq_of_mem_set hu with hu|hu
         ·exact HXS.out u hu
         exact⟨_,hu⟩
        case measure=>simp [RowKit.intOf];omega
       have hjm2:j=m:=by omega
       subst hjm2
       go_wp2_with fail
       go_roundw
       case rel=>exact⟨k+1,σ.define nm bs,by omega,by go_num,Bz,Hq Dz.out.drop,Hq (HIN.out.define nm bs Om)⟩
       case measure=>simp [RowKit.intOf];omega
   have hke:k=len:=by omega
   subst hke
   have HAK:=Hq (iqi HDr.out HIN.out.fok HIN.out.nms)
   have hzr:=HBr.out.size
   go_wp2_with (go_at_call 23;refine HAK.out.mono ?_;rintro e w8 ⟨rfl,hb8⟩;refine aqa ?_)
   have B8:=Hq (HBr.out.trans (hb8.mono hzr))
   have D8:=Hq (HDr.out.below hb8)
   have hz8:=hb8.size
   clear hb8 HAK HDr HBr
   refine aqb ?_
   go_wp2_with (go_at_call 14;refine aqa ?_)
   refine aqb ?_
   refine(D8.out.types).mono ?_
   rintro e w9 ⟨g,cp,n,us,rfl,hul,hnc,hn1,htw,hb9⟩
   obtain⟨M,hM⟩: ∃M,w8.heap.size=M:=⟨_,rfl⟩
   rw [hM] at htw hb9
   have hMw:w.heap.size≤M:=by omega
   have HMM:=Hq hM
   have HTW:=Hq htw
   have B9:=Hq hb9
   clear htw hb9 hM
   go_wp2_with fail
   go_loopw [13] (fun i wr=> ∃q:Nat,q≤n∧i= .int .i64 q∧Hid (Below M w8 wr)∧Hid (TyW wr M g cp n us)) (fun i _=>n - (RowKit.intOf i).toNat)
   case atStart=>exact⟨0,by omega,rfl,B9,HTW⟩
   case round=>
    obtain⟨q,hq,rfl,Bq,Tq⟩:=hrel
    by_cases hqn:q<n
    ·obtain⟨t,ht⟩: ∃t,us[q]?=some t:=⟨_,List.getElem?_eq_getElem Om⟩
     have HT:=Hq ht
     have HTM:=Hq (List.mem_of_getElem? ht)
     obtain⟨⟨u0,hc0⟩,hf0⟩:=Tq.out.row.cell (j:=q*6) Om
     have hgM:=(Tq.out.row.lt g rfl).1
     have hq0:(0:Int)≤(q:Int):=by omega
     have hq1:(q:Int) < (n:Int):=by omega
     clear ht
     go_wp2_with fail
     have Ba:=Hq (Bq.out.setCell (p:=⟨g,q*6,none⟩) (show M≤g by omega) (.string ⟨#[63]⟩))
     have Ta:=Hq (Tq.out.nm q (.string ⟨#[63]⟩))
     clear hc0 hf0 Bq Tq
     obtain⟨Am,cm,hAm⟩: ∃A c,t.mths= .slice A t.ml.length c:=by
      obtain⟨xs,hx⟩:=Ta.out.mem t HTM.out
      exact aq7 hx
     obtain⟨nm,hnm⟩: ∃n,t.ml.length=n:=⟨_,rfl⟩
     rw [hnm] at hAm
     have HAM:=Hq hAm
     have HNM:=Hq hnm
     have hnm1:nm≤9223372036854775807:=by rw [←hnm];exact(Ta.out.mem t HTM.out).len
     obtain⟨wo,hwo⟩: ∃X,X=wr:=⟨_,rfl⟩
     subst hwo
     have c5:=Ta.out.ms q t HT.out
     rw [hAm] at c5
     clear hAm hnm
     generalize wo.setCell ⟨g,q*6,none⟩ (.string ⟨#[63]⟩)=wa at*
     clear c5
     go_loopw [14] (fun i wr=> ∃j:Nat,j≤nm∧i= .int .i64 j∧Hid (Below M w8 wr)∧Hid (TyW wr M g cp n us)) (fun i _=>nm - (RowKit.intOf i).toNat)
     case atStart=>exact⟨0,by omega,rfl,Ba,Ta⟩
     case round=>
      obtain⟨j,hj,rfl,Bj,Tj⟩:=hrel
      have c5:=Tj.out.ms q t HT.out
      rw [HAM.out] at c5
      by_cases hjn:j<nm
      ·have hmo:=Tj.out.mem t HTM.out
       rw [HAM.out,HNM.out] at hmo
       obtain⟨gm,rfl⟩: ∃gm,Am=some ⟨gm,0,none⟩:=by
        obtain⟨xs,hx⟩:=hmo
        rcases hx.2 with⟨_,h0⟩ | ⟨gm,_,_,e,_⟩
        ·omega
        injection e with e1
        exact⟨gm,e1⟩
       obtain⟨⟨u0,hc0⟩,hf0⟩:=hmo.cell (j:=j*5+1) Om
       have hgmM:=(hmo.lt gm rfl).1
       have hgne:gm≠g:=fun e=> (hmo.apart Tj.out.row Dd9 (g:=gm) rfl) (by rw [e];rfl)
       have BB:=Hq (Bj.out.setCell (p:=⟨gm,j*5+1,none⟩) (show M≤gm by omega) (.string ⟨#[63]⟩))
       have TB:=Hq (Tj.out.mm ⟨gm,j*5+1,none⟩ hgne (.string ⟨#[63]⟩))
       have hj0:(0:Int)≤(j:Int):=by omega
       have hj1:(j:Int) < (nm:Int):=by omega
       clear hmo hgne
       go_wp2_with fail
       go_roundw
       case rel=>exact⟨j+1,by omega,by go_num,BB,TB⟩
       case measure=>simp [RowKit.intOf];omega
      have hjn2:j=nm:=by omega
      subst hjn2
      go_wp2_with fail
      go_roundw
      case rel=>exact⟨q+1,by omega,by go_num,Bj,Tj⟩
      case measure=>simp [RowKit.intOf];omega
    have hqn2:q=n:=by omega
    subst hqn2
    have Dq:=Hq (D8.out.below (by rw [HMM.out];exact Bq.out))
    have HAK:=Hq (iqi Dq.out HIN.out.fok HIN.out.nms)
    have Bw:=Hq (B8.out.trans (Bq.out.mono hMw))
    go_wp2_with (go_at_call 23;refine HAK.out.mono ?_;rintro e wz ⟨rfl,hbz⟩;refine aqa ?_)
    have Bz:=Hq (Bw.out.trans (hbz.mono Bw.out.size))
    clear hbz
    refine aqb ?_
    go_wp2_with fail
    go_ret
    exact⟨rfl,Bz.out⟩
end Go.Proofs.YtdbniocnjhfhdaaGreatDoor
namespace Go.Proofs.YtdbniocnjhfhdaaGreatDoor
open Go.ChangeShapes Go.WideShapes Go.RowKit
theorem l_own:ownKnob Tryz.prog.godebug=none:=by kernel_rfl
theorem l_et:Tryz.prog.globalNamed "errors.errorType" =some 0:=by kernel_rfl
theorem l_rt:(Tryz.prog.cutTypes.find? (·.1== "internal/reflectlite.rtype")).map (·.2)=some 132:=by kernel_rfl
theorem oq4: ∃n,Tryz.prog.types.size=n∧((List.range n).filter fun t=>Tryz.prog.rowNamed t [101,114,114,111,114])= [69]:=⟨_,rfl,by kernel_rfl⟩
theorem oqH {W:World} (h:laidMetH Tryz.prog [("errors.errorType",Rows.laid_errors_errorType)] W):GlB W:=by
 have h':laidMet Tryz.prog [] W∧handlesMet Tryz.prog [("errors.errorType",Rows.laid_errors_errorType)] W:=h
 obtain⟨name,u,ty,e1,e2,e3,e4,e5⟩:=h'.2 _ (List.mem_singleton.2 rfl)
 have en:name= [101,114,114,111,114]:=(Option.some.inj e1).symm
 subst en
 obtain rfl:=Option.some.inj (l_rt.symm.trans e2)
 obtain⟨n,hn,hone⟩:=oq4
 have hm:ty∈(List.range n).filter fun t=>Tryz.prog.rowNamed t [101,114,114,111,114]:=List.mem_filter.2 ⟨List.mem_range.2 (by rw [←hn];exact e3),e4⟩
 rw [hone] at hm
 obtain rfl:=List.mem_singleton.1 hm
 have hh:typeHandle Tryz.prog 69= .pointer (some ⟨2,69,none⟩):=by kernel_rfl
 rw [hh] at e5
 simpa using World.var?_cell l_et e5 0
noncomputable def laidWorld (os:Os):World:=
 let w0:=World.holding Tryz.prog os ⟨#[],#[], []⟩
 { w0 with heap:=w0.heap.modify 0 fun
   | .cells _ t frozen=> .cells #[.iface 132 (.agg #[.pointer (some ⟨2,69,none⟩)])] t frozen
   |o=>o }
theorem nqM (os:Os) (args:Array Value):laidMetH Tryz.prog [("errors.errorType",Rows.laid_errors_errorType)] ((laidWorld os).forCall (fun _ _=>0) ⟨#[],args, []⟩).memory:=
 laidMetH_of_parts (laidMet_nil _ _) Kq9
end Go.Proofs.YtdbniocnjhfhdaaGreatDoor
