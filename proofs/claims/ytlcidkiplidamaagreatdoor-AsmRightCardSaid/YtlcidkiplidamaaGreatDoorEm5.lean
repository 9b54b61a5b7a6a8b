/-
  emit.args at a class that fits.
-/
import Derived.Test.YtlcidkiplidamaaGreatDoorEm1
import Derived.Test.YtlcidkiplidamaaGreatDoorR11
import Derived.Deep.Cut
import Derived.Deep.CutRange
import Derived.Deep.DeepCutAuto
set_option linter.unusedSimpArgs false
set_option linter.unusedVariables false
set_option maxRecDepth 100000
set_option maxHeartbeats 8000000
namespace Go.Proofs.YtlcidkiplidamaaGreatDoor
open Go Go.RowKit Lib
theorem inl_nil: ∀v∈([]:List Int),In2 v:=fun v h=>by cases h
theorem inl_cons {a:Int} {l:List Int} (h:In2 a) (k: ∀v∈l,In2 v): ∀v∈a::l,In2 v:=fun v hv=>by
  rcases List.mem_cons.1 hv with rfl|hv
  · exact h
  · exact k v hv
/-- A class's box, and what was there. -/
structure UnoW (w:World) (cs:List Value) (W:World):Prop where
  bel:Below w.heap.size w W
  cls:Bx W w.heap.size cs 28
theorem UnoW.below {w W W':World} {cs:List Value} (h:UnoW w cs W) (hb:Below W.heap.size W W'):UnoW w cs W':=⟨h.bel.trans (hb.mono h.bel.size),h.cls.below hb h.cls.lt⟩
theorem UnoW.box {w W:World} {cs:List Value} (h:UnoW w cs W) (vs:Array Value) (t:TypeId):UnoW w cs (W.alloc (.cells vs t)):=h.below (below_box W vs t)
theorem eargs_fit (c:ClassV) (hf:ClsFit c) (p i f m:Value) (ok:Nat→Prop) (w:World) (h:ClassAt w ok c p i f m):
    Calls Tryz.prog 42 #[bookV c p i f m] w fun e w'=>e= .returned (.bool true)∧Below w.heap.size w w':=by
  obtain⟨A1,k1,rfl,q1,z1⟩:=sl_len h.hpool
  obtain⟨A2,k2,rfl,q2,z2⟩:=sl_len h.hifs
  obtain⟨A3,k3,rfl,q3,z3⟩:=sl_len h.hflds
  obtain⟨ms,hms,h4,h5⟩:=h.hmths
  obtain⟨A4,k4,rfl,q4,z4⟩:=sl_len h4
  have HP:=Lib.hid h.hpool
  have HI:=Lib.hid h.hifs
  have HL:=Lib.hid h.hflds
  have H4:=Lib.hid h4
  have H5:=Lib.hid h5
  have HMS:=Lib.hid hms
  have HF:=Lib.hid hf
  obtain⟨cs,hcs⟩: ∃x,x= [Value.int .i64 c.minor, .int .i64 c.major, .slice A1 c.pool.length k1, .int .i64 c.acc, .int .i64 c.this, .int .i64 c.sup, .slice A2 c.ifs.length k2, .slice A3 c.flds.length k3, .slice A4 c.mths.length k4]:=⟨_,rfl⟩
  have HW:=Lib.hid (show UnoW w cs (w.alloc (.cells #[.int .i64 c.minor, .int .i64 c.major, .slice A1 c.pool.length k1, .int .i64 c.acc, .int .i64 c.this, .int .i64 c.sup, .slice A2 c.ifs.length k2, .slice A3 c.flds.length k3, .slice A4 c.mths.length k4] 28)) from⟨below_box _ _ _,by rw [hcs];exact bx_new w _ _⟩)
  have HC:=Lib.hid hcs
  clear h h4 h5 hms hf hcs
  rw [bookV_open]
  go_enter Tryz.func42,Tryz.ntmps42
  go_wp2_with (go_at_call 111;refine(etwo_fit _ 5 5 [c.minor,c.major,c.acc,c.this,c.sup] (fun _=>True) _ (sl_ints _ [c.minor,c.major,c.acc,c.this,c.sup] 5 _ ⟨rfl,by omega⟩ (by simp) _ trivial) (inl_cons HF.out.minor (inl_cons HF.out.major (inl_cons HF.out.acc (inl_cons HF.out.this (inl_cons HF.out.sup inl_nil)))))).mono ?_;rintro e w1 ⟨rfl,rfl⟩;refine stop_here ?_)
  refine go_on ?_
  have HI2:=Lib.hid (HI.out.keep (Kept.of_below (HW.out.box #[.int .i64 c.minor, .int .i64 c.major, .int .i64 c.acc, .int .i64 c.this, .int .i64 c.sup] 3).bel))
  go_wp2_with (go_at_call 111;refine(etwo_fit _ _ _ c.ifs ok _ HI2.out HF.out.ifs).mono ?_;rintro e w1 ⟨rfl,rfl⟩)
  have HW2:=Lib.hid (HW.out.box #[.int .i64 c.minor, .int .i64 c.major, .int .i64 c.acc, .int .i64 c.this, .int .i64 c.sup] 3)
  go_loopw [33] (fun i wr=> ∃k:Nat,k≤c.pool.length∧i= .int .i64 k∧Hid (UnoW w cs wr)) (fun i _=>c.pool.length - (RowKit.intOf i).toNat)
  case atStart=>exact⟨0,by omega,rfl,HW2⟩
  case round=>
    obtain⟨k,hk,rfl,HR⟩:=hrel
    by_cases hlt:k<c.pool.length
    · obtain⟨x,hx⟩: ∃x,c.pool[k]?=some x:=⟨_,List.getElem?_eq_getElem hlt⟩
      obtain⟨b1,o1,rfl,_,x0,x1,x2,x3,x4⟩:=pool_cells (HP.out.keep (Kept.of_below HR.out.bel)) k x hx
      have HX:=Lib.hid (HF.out.pool x (List.mem_of_getElem? hx))
      have HK:=Lib.hid (fun W=>econst_fit x HX.out W)
      have HR1:=Lib.hid (HR.out.box #[.int .i64 x.tag, .string x.text, .int .i64 x.num, .int .i64 x.a, .int .i64 x.b] 33)
      unfold koV at HK
      clear hx
      go_wp2_with (go_at_call 112;refine(HK.out _).mono ?_;rintro e w2 ⟨rfl,hb2⟩;have HR2:=Lib.hid (HR1.out.below hb2);clear hb2)
      go_roundw
      case rel=>exact⟨k+1,by omega,by go_num,HR2⟩
      case measure=>simp [RowKit.intOf];omega
    have c7:=HR.out.cls.cell (j:=7) (u:= .slice A3 c.flds.length k3) (by rw [HC.out];rfl)
    go_wp2_with fail
    go_loopw [44] (fun i wr=> ∃k:Nat,k≤c.flds.length∧i= .int .i64 k∧Hid (UnoW w cs wr)) (fun i _=>c.flds.length - (RowKit.intOf i).toNat)
    case atStart=>exact⟨0,by omega,rfl,HR⟩
    case round=>
      clear c7
      obtain⟨k,hk,rfl,HR⟩:=hrel
      by_cases hlt:k<c.flds.length
      · obtain⟨x,hx⟩: ∃x,c.flds[k]?=some x:=⟨_,List.getElem?_eq_getElem hlt⟩
        obtain⟨b1,o1,rfl,_,x0,x1,x2,x3⟩:=fld_cells (HL.out.keep (Kept.of_below HR.out.bel)) k x hx
        have HX:=Lib.hid (HF.out.flds x (List.mem_of_getElem? hx))
        have HR1:=Lib.hid ((HR.out.box #[.int .i64 x.acc, .int .i64 x.name, .int .i64 x.desc, .int .i64 x.value] 83).box #[.int .i64 x.acc, .int .i64 x.name, .int .i64 x.desc, .int .i64 x.value] 3)
        clear hx
        go_wp2_with (go_at_call 111;refine(etwo_fit _ 4 4 [x.acc,x.name,x.desc,x.value] (fun _=>True) _ (sl_ints _ [x.acc,x.name,x.desc,x.value] 4 _ ⟨rfl,by omega⟩ (by simp) _ trivial) (inl_cons HX.out.1 (inl_cons HX.out.2.1 (inl_cons HX.out.2.2.1 (inl_cons HX.out.2.2.2.1 inl_nil))))).mono ?_;rintro e w1 ⟨rfl,rfl⟩)
        go_roundw
        case rel=>exact⟨k+1,by omega,by go_num,HR1⟩
        case measure=>simp [RowKit.intOf];omega
      have c8:=HR.out.cls.cell (j:=8) (u:= .slice A4 c.mths.length k4) (by rw [HC.out];rfl)
      go_wp2_with fail
      go_loopw [63] (fun i wr=> ∃k:Nat,k≤c.mths.length∧i= .int .i64 k∧Hid (UnoW w cs wr)) (fun i _=>c.mths.length - (RowKit.intOf i).toNat)
      case atStart=>exact⟨0,by omega,rfl,HR⟩
      case round=>
        clear c8
        obtain⟨k,hk,rfl,HR⟩:=hrel
        by_cases hlt:k<c.mths.length
        · obtain⟨⟨mv,cv,tv⟩,hq⟩: ∃q,ms[k]?=some q:=⟨_,List.getElem?_eq_getElem (by rw [←HMS.out,List.length_map] at hlt;exact hlt)⟩
          have hcm:c.mths[k]?=some mv:=by rw [←HMS.out,List.getElem?_map,hq];rfl
          obtain⟨b,off,rfl,_,m0,m1,m2,m3,m4,m5,m6,m7⟩:=mth_cells (H4.out.keep (Kept.of_below HR.out.bel)) (by rw [←HMS.out,List.length_map]) k mv cv tv hq
          have hM:=H5.out _ (List.mem_of_getElem? hq)
          have HX:=Lib.hid (HF.out.mths _ (List.mem_of_getElem? hcm))
          obtain⟨Ac,kc,hcv,_,zc⟩:=sl_len hM.hcode
          obtain⟨At,kt,htv,_,zt⟩:=sl_len hM.htraps
          have HT:=Lib.hid hM.htraps
          dsimp only at hcv htv zc zt HT
          rw [hcv] at m6
          rw [htv] at m7
          have HTV:=Lib.hid htv
          have HB:=Lib.hid (below_box wr #[.int .i64 mv.acc, .int .i64 mv.name, .int .i64 mv.desc, .bool mv.has, .int .i64 mv.stack, .int .i64 mv.locals, .slice Ac mv.code.length kc, .slice At mv.traps.length kt] 37)
          have HM1:=Lib.hid (bx_new wr [.int .i64 mv.acc, .int .i64 mv.name, .int .i64 mv.desc, .bool mv.has, .int .i64 mv.stack, .int .i64 mv.locals, .slice Ac mv.code.length kc, .slice At mv.traps.length kt] 37)
          have HR1:=Lib.hid (HR.out.below HB.out)
          clear hq hcm hM hcv htv
          go_upto_region 18 with fail
          obtain⟨W1,hW1⟩: ∃W,W=wr.alloc (.cells #[.int .i64 mv.acc, .int .i64 mv.name, .int .i64 mv.desc, .bool mv.has, .int .i64 mv.stack, .int .i64 mv.locals, .slice Ac mv.code.length kc, .slice At mv.traps.length kt] 37):=⟨_,rfl⟩
          obtain⟨xb,hxb⟩: ∃x,x=wr.heap.size:=⟨_,rfl⟩
          have HM2:=Lib.hid (show Bx W1 xb [.int .i64 mv.acc, .int .i64 mv.name, .int .i64 mv.desc, .bool mv.has, .int .i64 mv.stack, .int .i64 mv.locals, .slice Ac mv.code.length kc, .slice At mv.traps.length kt] 37 by rw [hW1,hxb];exact HM1.out)
          have HR2:=Lib.hid (show UnoW w cs W1 by rw [hW1];exact HR1.out)
          rw [←hW1, ←hxb]
          clear hW1 hxb HM1 HR1 HB m0 m1 m2 m3 m4 m5 m6 m7 HR
          have e0:=HM2.out.cell 0 rfl
          have e1:=HM2.out.cell 1 rfl
          have e2:=HM2.out.cell 2 rfl
          have e3:=HM2.out.cell 3 rfl
          have e4:=HM2.out.cell 4 rfl
          have e5:=HM2.out.cell 5 rfl
          have e6:=HM2.out.cell 6 rfl
          have e7:=HM2.out.cell 7 rfl
          have hx1:=HM2.out.lt
          have HR3:=Lib.hid (HR2.out.box #[.int .i64 mv.acc, .int .i64 mv.name, .int .i64 mv.desc, .int .i64 mv.stack, .int .i64 mv.locals] 3)
          have HM3:=Lib.hid (HM2.out.below (below_box W1 #[.int .i64 mv.acc, .int .i64 mv.name, .int .i64 mv.desc, .int .i64 mv.stack, .int .i64 mv.locals] 3) HM2.out.lt)
          have hif:mv.has=false→mv.stack=0∧mv.locals=0∧mv.code.length=0∧mv.traps.length=0:=fun e=>by
            obtain⟨a1,a2,a3,a4⟩:=HX.out.none e
            rw [a3,a4]
            exact⟨a1,a2,rfl,rfl⟩
          have HIF:=Lib.hid hif
          clear hif
          go_cut [106] (fun v wx=>v= .bool false∧wx=W1.alloc (.cells #[.int .i64 mv.acc, .int .i64 mv.name, .int .i64 mv.desc, .int .i64 mv.stack, .int .i64 mv.locals] 3))
          case first=>
            cases hh:mv.has
            · obtain⟨a1,a2,a3,a4⟩:=HIF.out hh
              rw [hh] at e3
              rw [a1] at e4
              rw [a2] at e5
              rw [a3] at e6
              rw [a4] at e7
              go_wp2_with (go_at_call 111;refine(etwo_fit _ 5 5 [mv.acc,mv.name,mv.desc,0,0] (fun _=>True) _ (sl_ints _ [mv.acc,mv.name,mv.desc,0,0] 5 _ ⟨rfl,by omega⟩ (by simp) _ trivial) (inl_cons HX.out.acc (inl_cons HX.out.name (inl_cons HX.out.desc (inl_cons (a:=0) ⟨by omega,by omega⟩ (inl_cons (a:=0) ⟨by omega,by omega⟩ inl_nil)))))).mono ?_;rintro e w1 ⟨rfl,rfl⟩)
              go_meet
              rw [a1,a2]
              exact⟨rfl,rfl⟩
            · rw [hh] at e3
              go_wp2_with (go_at_call 111;refine(etwo_fit _ 5 5 [mv.acc,mv.name,mv.desc,mv.stack,mv.locals] (fun _=>True) _ (sl_ints _ [mv.acc,mv.name,mv.desc,mv.stack,mv.locals] 5 _ ⟨rfl,by omega⟩ (by simp) _ trivial) (inl_cons HX.out.acc (inl_cons HX.out.name (inl_cons HX.out.desc (inl_cons HX.out.stack (inl_cons HX.out.locals inl_nil)))))).mono ?_;rintro e w1 ⟨rfl,rfl⟩)
              go_meet
              exact⟨rfl,rfl⟩
          case rest=>
            obtain⟨rfl,rfl⟩:=hcut
            obtain⟨W2,hW2⟩: ∃W,W=W1.alloc (.cells #[.int .i64 mv.acc, .int .i64 mv.name, .int .i64 mv.desc, .int .i64 mv.stack, .int .i64 mv.locals] 3):=⟨_,rfl⟩
            rw [←hW2] at HR3 HM3⊢
            clear hW2 e0 e1 e2 e3 e4 e5 e6 e7 HM2 HR2
            have e7:=HM3.out.cell 7 rfl
            go_wp2_with fail
            go_loopw [110] (fun i wr=> ∃j:Nat,j≤mv.traps.length∧i= .int .i64 j∧Hid (UnoW w cs wr)) (fun i _=>mv.traps.length - (RowKit.intOf i).toNat)
            case atStart=>exact⟨0,by omega,rfl,HR3⟩
            case round=>
              obtain⟨j,hj,rfl,HR⟩:=hrel
              by_cases hjt:j<mv.traps.length
              · obtain⟨t,ht⟩: ∃t,mv.traps[j]?=some t:=⟨_,List.getElem?_eq_getElem hjt⟩
                have hT:=HT.out.keep (Kept.of_below HR.out.bel)
                rw [HTV.out] at hT
                obtain⟨b1,o1,rfl,_,x0,x1,x2,x3⟩:=trap_cells hT j t ht
                have HY:=Lib.hid (HX.out.traps t (List.mem_of_getElem? ht))
                have HR1:=Lib.hid ((HR.out.box #[.int .i64 t.lo, .int .i64 t.hi, .int .i64 t.tgt, .int .i64 t.kind] 112).box #[.int .i64 t.lo, .int .i64 t.hi, .int .i64 t.tgt, .int .i64 t.kind] 3)
                clear ht hT
                go_wp2_with (go_at_call 111;refine(etwo_fit _ 4 4 [t.lo,t.hi,t.tgt,t.kind] (fun _=>True) _ (sl_ints _ [t.lo,t.hi,t.tgt,t.kind] 4 _ ⟨rfl,by omega⟩ (by simp) _ trivial) (inl_cons HY.out.1 (inl_cons HY.out.2.1 (inl_cons HY.out.2.2.1 (inl_cons HY.out.2.2.2 inl_nil))))).mono ?_;rintro e w1 ⟨rfl,rfl⟩)
                go_roundw
                case rel=>exact⟨j+1,by omega,by go_num,HR1⟩
                case measure=>simp [RowKit.intOf];omega
              · go_wp2_with fail
                go_roundw
                case rel=>exact⟨k+1,by omega,by go_num,HR⟩
                case measure=>simp [RowKit.intOf];omega
        · go_wp2_with fail
          go_ret
          exact⟨rfl,HR.out.bel⟩
end Go.Proofs.YtlcidkiplidamaaGreatDoor
