/-
  turnstileref4.Refused at a class that fits: it answers a number.
-/
import Derived.Test.YtlcidkiplidamaaGreatDoorEm8
set_option linter.unusedSimpArgs false
set_option linter.unusedVariables false
set_option maxRecDepth 100000
set_option maxHeartbeats 8000000
namespace Go.Proofs.YtlcidkiplidamaaGreatDoor
open Go Go.RowKit Lib
theorem refused_some (c:ClassV) (hf:ClsFit c) (p i f m:Value) (ok:Nat→Prop) (w:World) (h:ClassAt w ok c p i f m):
    Calls Tryz.prog 19 #[bookV c p i f m] w fun e w'=> (∃r:Int,r≠2∧e= .returned (.int .i64 r))∧Below w.heap.size w w':=by
  obtain⟨A1,k1,rfl,q1,z1⟩:=sl_len h.hpool
  obtain⟨A2,k2,rfl,q2,z2⟩:=sl_len h.hifs
  obtain⟨A3,k3,rfl,q3,z3⟩:=sl_len h.hflds
  obtain⟨ms,hms,h4,h5⟩:=h.hmths
  obtain⟨A4,k4,rfl,q4,z4⟩:=sl_len h4
  have HP:=Lib.hid h.hpool
  have HI:=Lib.hid h.hifs
  have HL:=Lib.hid h.hflds
  have H4:=Lib.hid h4
  have H5:=Lib.hid h5
  have HMS:=Lib.hid hms
  have HF:=Lib.hid hf
  have HK1:=Lib.hid (fun W (hb:Below w.heap.size w W)=>rlong4_fit c hf _ _ _ _ _ W (h.keep (Kept.of_below hb)))
  have HK2:=Lib.hid (fun s W (hb:Below w.heap.size w W)=>rnamed_some c _ _ _ _ s _ W (h.keep (Kept.of_below hb)))
  unfold bookV at HK1 HK2
  obtain⟨cs,hcs⟩: ∃x,x= [Value.int .i64 c.minor, .int .i64 c.major, .slice A1 c.pool.length k1, .int .i64 c.acc, .int .i64 c.this, .int .i64 c.sup, .slice A2 c.ifs.length k2, .slice A3 c.flds.length k3, .slice A4 c.mths.length k4]:=⟨_,rfl⟩
  have HW:=Lib.hid (show UnoW w cs (w.alloc (.cells #[.int .i64 c.minor, .int .i64 c.major, .slice A1 c.pool.length k1, .int .i64 c.acc, .int .i64 c.this, .int .i64 c.sup, .slice A2 c.ifs.length k2, .slice A3 c.flds.length k3, .slice A4 c.mths.length k4] 28)) from⟨below_box _ _ _,by rw [hcs];exact bx_new w _ _⟩)
  have HC:=Lib.hid hcs
  clear h h4 h5 hms hf hcs
  rw [bookV_open]
  go_enter Tryz.func19,Tryz.ntmps19
  go_wp2_with (go_at_call 45;refine(HK1.out _ HW.out.bel).mono ?_;rintro e w1 ⟨rfl,hb1⟩;have HW1:=Lib.hid (HW.out.below hb1);clear hb1)
  go_loopw [4] (fun i wr=> ∃k:Nat,k≤c.pool.length∧i= .int .i64 k∧Hid (UnoW w cs wr)) (fun i _=>c.pool.length - (RowKit.intOf i).toNat)
  case atStart=>exact⟨0,by omega,rfl,HW1⟩
  case round=>
    obtain⟨k,hk,rfl,HR⟩:=hrel
    have c2:=HR.out.cls.cell (j:=2) (u:= .slice A1 c.pool.length k1) (by rw [HC.out];rfl)
    by_cases hlt:k<c.pool.length
    · obtain⟨x,hx⟩: ∃x,c.pool[k]?=some x:=⟨_,List.getElem?_eq_getElem hlt⟩
      obtain⟨b1,o1,rfl,_,x0,x1,x2,x3,x4⟩:=pool_cells (HP.out.keep (Kept.of_below HR.out.bel)) k x hx
      have HX:=Lib.hid (HF.out.pool x (List.mem_of_getElem? hx))
      have HK:=Lib.hid (fun W=>rkind_fit x HX.out W)
      clear hx
      go_wp2_with (go_at_call 46;refine(HK.out _).mono ?_;rintro e w2 ⟨rfl,rfl⟩)
      go_roundw
      case rel=>exact⟨k+1,by omega,by go_num,HR⟩
      case measure=>simp [RowKit.intOf];omega
    have c0:=HR.out.cls.cell (j:=0) (u:= .int .i64 c.minor) (by rw [HC.out];rfl)
    have c1:=HR.out.cls.cell (j:=1) (u:= .int .i64 c.major) (by rw [HC.out];rfl)
    have c3:=HR.out.cls.cell (j:=3) (u:= .int .i64 c.acc) (by rw [HC.out];rfl)
    have c4:=HR.out.cls.cell (j:=4) (u:= .int .i64 c.this) (by rw [HC.out];rfl)
    have c5:=HR.out.cls.cell (j:=5) (u:= .int .i64 c.sup) (by rw [HC.out];rfl)
    have c6:=HR.out.cls.cell (j:=6) (u:= .slice A2 c.ifs.length k2) (by rw [HC.out];rfl)
    go_wp2_with (go_at_call 47;refine(rtwos_fit _ 5 5 [c.minor,c.major,c.acc,c.this,c.sup] (fun _=>True) _ (sl_ints _ [c.minor,c.major,c.acc,c.this,c.sup] 5 _ ⟨rfl,by omega⟩ (by simp) _ trivial) (inl_cons HF.out.minor (inl_cons HF.out.major (inl_cons HF.out.acc (inl_cons HF.out.this (inl_cons HF.out.sup inl_nil)))))).mono ?_;rintro e w2 ⟨rfl,rfl⟩;refine stop_here ?_)
    refine go_on ?_
    have HR2:=Lib.hid (HR.out.box #[.int .i64 c.minor, .int .i64 c.major, .int .i64 c.acc, .int .i64 c.this, .int .i64 c.sup] 3)
    have HI2:=Lib.hid (HI.out.keep (Kept.of_below HR2.out.bel))
    clear c0 c1 c2 c3 c4 c5 c6
    obtain⟨W3,hW3⟩: ∃W,W=wr.alloc (.cells #[.int .i64 c.minor, .int .i64 c.major, .int .i64 c.acc, .int .i64 c.this, .int .i64 c.sup] 3):=⟨_,rfl⟩
    rw [←hW3] at HR2 HI2⊢
    clear hW3
    have c6:=HR2.out.cls.cell (j:=6) (u:= .slice A2 c.ifs.length k2) (by rw [HC.out];rfl)
    go_wp2_with (go_at_call 47;refine(rtwos_fit _ _ _ c.ifs _ _ HI2.out HF.out.ifs).mono ?_;rintro e w2 ⟨rfl,rfl⟩)
    clear c6
    go_loopw [6,7] (fun o i wr=> ∃(k:Nat) (b:Bool),k≤c.pool.length∧i= .int .i64 k∧o= .bool b∧Hid (UnoW w cs wr)) (fun _ i _=>c.pool.length - (RowKit.intOf i).toNat)
    case atStart=>exact⟨0,true,by omega,rfl,rfl,HR2⟩
    case round=>
      obtain⟨k,b,hk,rfl,rfl,HR⟩:=hrel
      have c2:=HR.out.cls.cell (j:=2) (u:= .slice A1 c.pool.length k1) (by rw [HC.out];rfl)
      by_cases hlt:k<c.pool.length
      · obtain⟨x,hx⟩: ∃x,c.pool[k]?=some x:=⟨_,List.getElem?_eq_getElem hlt⟩
        obtain⟨b1,o1,rfl,_,x0,x1,x2,x3,x4⟩:=pool_cells (HP.out.keep (Kept.of_below HR.out.bel)) k x hx
        have HX:=Lib.hid (HF.out.pool x (List.mem_of_getElem? hx))
        have HK:=Lib.hid (fun W=>rfair_some x HX.out W)
        unfold koV at HK
        clear hx
        go_wp2_with (go_at_call 48;refine(HK.out _).mono ?_;rintro e w2 ⟨⟨b2,rfl⟩,hb2⟩;have HR3:=Lib.hid (HR.out.below hb2);clear hb2;refine stop_here ?_)
        refine go_on ?_
        cases b
        all_goals
          go_wp2_with fail
          go_roundw
          case rel=>exact⟨k+1,_,by omega,by go_num,rfl,HR3⟩
          case measure=>simp [RowKit.intOf];omega
      go_wp2_with fail
      clear c2
      go_loopw [6,9] (fun o i wr=> ∃(k:Nat) (b:Bool),k≤c.flds.length∧i= .int .i64 k∧o= .bool b∧Hid (UnoW w cs wr)) (fun _ i _=>c.flds.length - (RowKit.intOf i).toNat)
      case atStart=>exact⟨0,b,by omega,rfl,rfl,HR⟩
      case round=>
        obtain⟨k,b,hk,rfl,rfl,HR⟩:=hrel
        have c7:=HR.out.cls.cell (j:=7) (u:= .slice A3 c.flds.length k3) (by rw [HC.out];rfl)
        by_cases hlt:k<c.flds.length
        · obtain⟨x,hx⟩: ∃x,c.flds[k]?=some x:=⟨_,List.getElem?_eq_getElem hlt⟩
          obtain⟨b1,o1,rfl,_,x0,x1,x2,x3⟩:=fld_cells (HL.out.keep (Kept.of_below HR.out.bel)) k x hx
          have HX:=Lib.hid (HF.out.flds x (List.mem_of_getElem? hx))
          have HR1:=Lib.hid ((HR.out.box #[.int .i64 x.acc, .int .i64 x.name, .int .i64 x.desc, .int .i64 x.value] 83).box #[.int .i64 x.acc, .int .i64 x.name, .int .i64 x.desc, .int .i64 x.value] 3)
          clear hx
          go_wp2_with (go_at_call 47;refine(rtwos_fit _ 4 4 [x.acc,x.name,x.desc,x.value] (fun _=>True) _ (sl_ints _ [x.acc,x.name,x.desc,x.value] 4 _ ⟨rfl,by omega⟩ (by simp) _ trivial) (inl_cons HX.out.1 (inl_cons HX.out.2.1 (inl_cons HX.out.2.2.1 (inl_cons HX.out.2.2.2.1 inl_nil))))).mono ?_;rintro e w1 ⟨rfl,rfl⟩;refine stop_here ?_)
          refine go_on ?_
          cases b
          all_goals
            go_wp2_with fail
            go_roundw
            case rel=>exact⟨k+1,_,by omega,by go_num,rfl,HR1⟩
            case measure=>simp [RowKit.intOf];omega
        go_wp2_with fail
        clear c7
        go_loopw [12,14] (fun o i wr=> ∃(k:Nat) (b:Bool),k≤c.flds.length∧i= .int .i64 k∧o= .bool b∧Hid (UnoW w cs wr)) (fun _ i _=>c.flds.length - (RowKit.intOf i).toNat)
        case atStart=>exact⟨0,false,by omega,rfl,rfl,HR⟩
        case round=>
          obtain⟨k,b2,hk,rfl,rfl,HR⟩:=hrel
          have c7:=HR.out.cls.cell (j:=7) (u:= .slice A3 c.flds.length k3) (by rw [HC.out];rfl)
          by_cases hlt:k<c.flds.length
          · obtain⟨x,hx⟩: ∃x,c.flds[k]?=some x:=⟨_,List.getElem?_eq_getElem hlt⟩
            obtain⟨b1,o1,rfl,_,x0,x1,x2,x3⟩:=fld_cells (HL.out.keep (Kept.of_below HR.out.bel)) k x hx
            clear hx
            cases b2
            all_goals
              go_wp2_with fail
              go_roundw
              case rel=>exact⟨k+1,_,by omega,by go_num,rfl,HR⟩
              case measure=>simp [RowKit.intOf];omega
          go_wp2_with fail
          clear c7
          go_loopw [6,13,15] (fun o v i wr=> ∃(k:Nat) (b b3:Bool),k≤c.mths.length∧i= .int .i64 k∧o= .bool b∧v= .bool b3∧Hid (UnoW w cs wr)) (fun _ _ i _=>c.mths.length - (RowKit.intOf i).toNat)
          case atStart=>exact⟨0,b,false,by omega,rfl,rfl,rfl,HR⟩
          case round=>
            obtain⟨wa,hwa⟩: ∃W,W=wr:=⟨_,rfl⟩
            subst hwa
            obtain⟨k,b,b3,hk,rfl,rfl,rfl,HR⟩:=hrel
            have c8:=HR.out.cls.cell (j:=8) (u:= .slice A4 c.mths.length k4) (by rw [HC.out];rfl)
            by_cases hlt:k<c.mths.length
            · obtain⟨⟨x,cv2,tv2⟩,hx⟩: ∃q,ms[k]?=some q:=⟨_,List.getElem?_eq_getElem (by rw [←HMS.out,List.length_map] at hlt;exact hlt)⟩
              have hcm:c.mths[k]?=some x:=by rw [←HMS.out,List.getElem?_map,hx];rfl
              obtain⟨b1,o1,rfl,_,x0,x1,x2,x3,x4,x5,x6,x7⟩:=mth_cells (H4.out.keep (Kept.of_below HR.out.bel)) (by rw [←HMS.out,List.length_map]) k x cv2 tv2 hx
              have HMX:=Lib.hid (H5.out _ (List.mem_of_getElem? hx))
              have HX:=Lib.hid (HF.out.mths x (List.mem_of_getElem? hcm))
              obtain⟨Ac,kc,hcv2,_,zc⟩:=sl_len HMX.out.hcode
              obtain⟨At,kt,htv2,_,zt⟩:=sl_len HMX.out.htraps
              dsimp only at hcv2 htv2 zc zt
              subst hcv2
              subst htv2
              obtain⟨mx,hmx⟩: ∃q,q= [Value.int .i64 x.acc, .int .i64 x.name, .int .i64 x.desc, .bool x.has, .int .i64 x.stack, .int .i64 x.locals, .slice Ac x.code.length kc, .slice At x.traps.length kt]:=⟨_,rfl⟩
              have HM0:=Lib.hid (bx_new wa mx 37)
              have HR0:=Lib.hid (HR.out.box mx.toArray 37)
              rw [hmx] at HM0 HR0
              clear hx hcm
              go_upto_region 32 with fail
              obtain⟨W1,hW1⟩: ∃W,W=wa.alloc (.cells #[.int .i64 x.acc, .int .i64 x.name, .int .i64 x.desc, .bool x.has, .int .i64 x.stack, .int .i64 x.locals, .slice Ac x.code.length kc, .slice At x.traps.length kt] 37):=⟨_,rfl⟩
              obtain⟨xb,hxb⟩: ∃x,x=wa.heap.size:=⟨_,rfl⟩
              have HM1:=Lib.hid (show Bx W1 xb mx 37 by rw [hW1,hxb,hmx];exact HM0.out)
              have HR1:=Lib.hid (show UnoW w cs W1 by rw [hW1];exact HR0.out)
              have HMC:=Lib.hid hmx
              rw [←hW1, ←hxb]
              clear hW1 hxb hmx HM0 HR0 x0 x1 x2 x3 x4 x5 x6 x7 HR c8
              have k0:=HM1.out.cell (j:=0) (u:= .int .i64 x.acc) (by rw [HMC.out];rfl)
              have k1':=HM1.out.cell (j:=1) (u:= .int .i64 x.name) (by rw [HMC.out];rfl)
              have k2':=HM1.out.cell (j:=2) (u:= .int .i64 x.desc) (by rw [HMC.out];rfl)
              have k3':=HM1.out.cell (j:=3) (u:= .bool x.has) (by rw [HMC.out];rfl)
              have k4':=HM1.out.cell (j:=4) (u:= .int .i64 x.stack) (by rw [HMC.out];rfl)
              have k5':=HM1.out.cell (j:=5) (u:= .int .i64 x.locals) (by rw [HMC.out];rfl)
              have HR2:=Lib.hid (HR1.out.box #[.int .i64 x.acc, .int .i64 x.name, .int .i64 x.desc, .int .i64 x.stack, .int .i64 x.locals] 3)
              have HM2:=Lib.hid (HM1.out.below (below_box W1 #[.int .i64 x.acc, .int .i64 x.name, .int .i64 x.desc, .int .i64 x.stack, .int .i64 x.locals] 3) HM1.out.lt)
              go_cut [13] (fun v wx=> ∃b4:Bool,v= .bool b4∧wx=W1)
              case first=>
                cases b3
                all_goals
                  go_wp2_with fail
                  go_meet
                  exact⟨_,rfl,rfl⟩
              case rest=>
                obtain⟨b4,rfl,hwx⟩:=hcut
                rw [hwx]
                clear hwx
                go_wp2_with (go_at_call 47;refine(rtwos_fit _ 5 5 [x.acc,x.name,x.desc,x.stack,x.locals] (fun _=>True) _ (sl_ints _ [x.acc,x.name,x.desc,x.stack,x.locals] 5 _ ⟨rfl,by omega⟩ (by simp) _ trivial) (inl_cons HX.out.acc (inl_cons HX.out.name (inl_cons HX.out.desc (inl_cons HX.out.stack (inl_cons HX.out.locals inl_nil)))))).mono ?_;rintro e w1 ⟨rfl,rfl⟩)
                obtain⟨W2,hW2⟩: ∃W,W=W1.alloc (.cells #[.int .i64 x.acc, .int .i64 x.name, .int .i64 x.desc, .int .i64 x.stack, .int .i64 x.locals] 3):=⟨_,rfl⟩
                rw [←hW2] at HR2 HM2⊢
                clear hW2 k0 k1' k2' k3' k4' k5' HR1 HM1
                go_loopw [17,18] (fun o i wr=> ∃j:Nat,j≤x.traps.length∧i= .int .i64 j∧o= .bool true∧Hid (UnoW w cs wr)∧Hid (Bx wr xb mx 37)) (fun _ i _=>x.traps.length - (RowKit.intOf i).toNat)
                case atStart=>exact⟨0,by omega,rfl,rfl,HR2,HM2⟩
                case round=>
                  obtain⟨wc,hwc⟩: ∃W,W=wr:=⟨_,rfl⟩
                  subst hwc
                  obtain⟨j,hj,rfl,rfl,HQ,HM⟩:=hrel
                  have k7':=HM.out.cell (j:=7) (u:= .slice At x.traps.length kt) (by rw [HMC.out];rfl)
                  by_cases hjt:j<x.traps.length
                  · obtain⟨t,ht⟩: ∃t,x.traps[j]?=some t:=⟨_,List.getElem?_eq_getElem hjt⟩
                    obtain⟨b2,o2,rfl,_,t0,t1,t2,t3⟩:=trap_cells (HMX.out.htraps.keep (Kept.of_below HQ.out.bel)) j t ht
                    have HY:=Lib.hid (HX.out.traps t (List.mem_of_getElem? ht))
                    have HQ1:=Lib.hid ((HQ.out.box #[.int .i64 t.lo, .int .i64 t.hi, .int .i64 t.tgt, .int .i64 t.kind] 112).box #[.int .i64 t.lo, .int .i64 t.hi, .int .i64 t.tgt, .int .i64 t.kind] 3)
                    have HM3:=Lib.hid ((HM.out.below (below_box wc #[.int .i64 t.lo, .int .i64 t.hi, .int .i64 t.tgt, .int .i64 t.kind] 112) HM.out.lt).below ((Below.refl _ _).alloc (Nat.le_refl _) (.cells #[.int .i64 t.lo, .int .i64 t.hi, .int .i64 t.tgt, .int .i64 t.kind] 3)) (by have:=HM.out.lt;simp;omega))
                    clear ht
                    go_wp2_with (go_at_call 47;refine(rtwos_fit _ 4 4 [t.lo,t.hi,t.tgt,t.kind] (fun _=>True) _ (sl_ints _ [t.lo,t.hi,t.tgt,t.kind] 4 _ ⟨rfl,by omega⟩ (by simp) _ trivial) (inl_cons HY.out.1 (inl_cons HY.out.2.1 (inl_cons HY.out.2.2.1 (inl_cons HY.out.2.2.2 inl_nil))))).mono ?_;rintro e w1 ⟨rfl,rfl⟩)
                    go_roundw
                    case rel=>exact⟨j+1,by omega,by go_num,rfl,HQ1,HM3⟩
                    case measure=>simp [RowKit.intOf];omega
                  have k3':=HM.out.cell (j:=3) (u:= .bool x.has) (by rw [HMC.out];rfl)
                  have k4':=HM.out.cell (j:=4) (u:= .int .i64 x.stack) (by rw [HMC.out];rfl)
                  have k5':=HM.out.cell (j:=5) (u:= .int .i64 x.locals) (by rw [HMC.out];rfl)
                  have k6':=HM.out.cell (j:=6) (u:= .slice Ac x.code.length kc) (by rw [HMC.out];rfl)
                  cases hv:x.has
                  · obtain⟨a1,a2,a3,a4⟩:=HX.out.none hv
                    have a3':x.code.length=0:=by rw [a3];rfl
                    have a4':x.traps.length=0:=by rw [a4];rfl
                    have hj0:j=0:=by omega
                    rw [hv] at k3'
                    rw [a1] at k4'
                    rw [a2] at k5'
                    rw [a3'] at k6'
                    rw [a4'] at k7' hjt
                    clear a1 a2 a3 a4 a3' a4'
                    cases b
                    all_goals
                      go_wp2_with fail
                      go_roundw
                      case rel=>exact⟨k+1,_,_,by omega,by go_num,rfl,rfl,HQ⟩
                      case measure=>simp [RowKit.intOf];omega
                  · rw [hv] at k3'
                    cases b
                    all_goals
                      go_wp2_with fail
                      go_roundw
                      case rel=>exact⟨k+1,_,_,by omega,by go_num,rfl,rfl,HQ⟩
                      case measure=>simp [RowKit.intOf];omega
            cases b
            · go_wp2_with fail
              go_ret
              exact⟨⟨_,by decide,rfl⟩,HR.out.bel⟩
            have HC9:=Lib.hid HC.out
            have c0:=HR.out.cls.cell (j:=0) (u:= .int .i64 c.minor) (by rw [HC.out];rfl)
            have c1:=HR.out.cls.cell (j:=1) (u:= .int .i64 c.major) (by rw [HC.out];rfl)
            have c2:=HR.out.cls.cell (j:=2) (u:= .slice A1 c.pool.length k1) (by rw [HC.out];rfl)
            have c3:=HR.out.cls.cell (j:=3) (u:= .int .i64 c.acc) (by rw [HC.out];rfl)
            have c4:=HR.out.cls.cell (j:=4) (u:= .int .i64 c.this) (by rw [HC.out];rfl)
            have c5:=HR.out.cls.cell (j:=5) (u:= .int .i64 c.sup) (by rw [HC.out];rfl)
            have c6:=HR.out.cls.cell (j:=6) (u:= .slice A2 c.ifs.length k2) (by rw [HC.out];rfl)
            have c7:=HR.out.cls.cell (j:=7) (u:= .slice A3 c.flds.length k3) (by rw [HC.out];rfl)
            cases b2
            · cases b3
              · go_wp2_with fail
                go_ret
                exact⟨⟨_,by decide,rfl⟩,HR.out.bel⟩
              · go_wp2_with (go_at_call 49;refine(HK2.out _ _ HR.out.bel).mono ?_;rintro e w2 ⟨⟨r,rfl⟩,hb2⟩;have HX1:=Lib.hid (HR.out.below hb2);clear hb2;refine stop_here ?_)
                refine go_on ?_
                cases hr:((r:Int)==0)
                all_goals
                  go_wp2_with fail
                  go_ret
                  exact⟨⟨_,by decide,rfl⟩,HX1.out.bel⟩
            · go_wp2_with (go_at_call 49;refine(HK2.out _ _ HR.out.bel).mono ?_;rintro e w2 ⟨⟨r,rfl⟩,hb2⟩;have HX1:=Lib.hid (HR.out.below hb2);clear hb2;refine stop_here ?_)
              refine go_on ?_
              clear c0 c1 c2 c3 c4 c5 c6 c7 c8
              have c0:=HX1.out.cls.cell (j:=0) (u:= .int .i64 c.minor) (by rw [HC.out];rfl)
              have c1:=HX1.out.cls.cell (j:=1) (u:= .int .i64 c.major) (by rw [HC.out];rfl)
              have c2:=HX1.out.cls.cell (j:=2) (u:= .slice A1 c.pool.length k1) (by rw [HC.out];rfl)
              have c3:=HX1.out.cls.cell (j:=3) (u:= .int .i64 c.acc) (by rw [HC.out];rfl)
              have c4:=HX1.out.cls.cell (j:=4) (u:= .int .i64 c.this) (by rw [HC.out];rfl)
              have c5:=HX1.out.cls.cell (j:=5) (u:= .int .i64 c.sup) (by rw [HC.out];rfl)
              have c6:=HX1.out.cls.cell (j:=6) (u:= .slice A2 c.ifs.length k2) (by rw [HC.out];rfl)
              have c7:=HX1.out.cls.cell (j:=7) (u:= .slice A3 c.flds.length k3) (by rw [HC.out];rfl)
              have c8:=HX1.out.cls.cell (j:=8) (u:= .slice A4 c.mths.length k4) (by rw [HC.out];rfl)
              cases hr:((r:Int)==0)
              · cases b3
                · go_wp2_with fail
                  go_ret
                  exact⟨⟨_,by decide,rfl⟩,HX1.out.bel⟩
                · go_wp2_with (go_at_call 49;refine(HK2.out _ _ HX1.out.bel).mono ?_;rintro e w2 ⟨⟨r2,rfl⟩,hb2⟩;have HX2:=Lib.hid (HX1.out.below hb2);clear hb2;refine stop_here ?_)
                  refine go_on ?_
                  cases hr2:((r2:Int)==0)
                  all_goals
                    go_wp2_with fail
                    go_ret
                    exact⟨⟨_,by decide,rfl⟩,HX2.out.bel⟩
              · go_wp2_with fail
                go_ret
                exact⟨⟨_,by decide,rfl⟩,HX1.out.bel⟩
end Go.Proofs.YtlcidkiplidamaaGreatDoor
