/-
  turnstileref4.Refused at a class that fits: it answers a number.
-/
import Derived.Test.YtlcidkiplidamaaGreatDoorEm6
set_option linter.unusedSimpArgs false
set_option linter.unusedVariables false
set_option maxRecDepth 100000
set_option maxHeartbeats 8000000
namespace Go.Proofs.YtlcidkiplidamaaGreatDoor
open Go Go.RowKit Lib
theorem rlong4_fit (c:ClassV) (hf:ClsFit c) (p i f m:Value) (ok:Nat→Prop) (w:World) (h:ClassAt w ok c p i f m):
    Calls Tryz.prog 45 #[bookV c p i f m] w fun e w'=>e= .returned (.bool false)∧Below w.heap.size w w':=by
  obtain⟨A1,k1,rfl,q1,z1⟩:=sl_len h.hpool
  obtain⟨A2,k2,rfl,q2,z2⟩:=sl_len h.hifs
  obtain⟨A3,k3,rfl,q3,z3⟩:=sl_len h.hflds
  obtain⟨ms,hms,h4,h5⟩:=h.hmths
  obtain⟨A4,k4,rfl,q4,z4⟩:=sl_len h4
  have g1: ¬1024<c.pool.length:=by have:=hf.npool;omega
  have g2: ¬64<c.ifs.length:=by have:=hf.nifs;omega
  have g3: ¬64<c.flds.length:=by have:=hf.nflds;omega
  have g4: ¬64<c.mths.length:=by have:=hf.nmths;omega
  have H4:=Lib.hid h4
  have H5:=Lib.hid h5
  have HMS:=Lib.hid hms
  have HF:=Lib.hid hf.mths
  obtain⟨cs,hcs⟩: ∃x,x= [Value.int .i64 c.minor, .int .i64 c.major, .slice A1 c.pool.length k1, .int .i64 c.acc, .int .i64 c.this, .int .i64 c.sup, .slice A2 c.ifs.length k2, .slice A3 c.flds.length k3, .slice A4 c.mths.length k4]:=⟨_,rfl⟩
  have HW:=Lib.hid (show UnoW w cs (w.alloc (.cells #[.int .i64 c.minor, .int .i64 c.major, .slice A1 c.pool.length k1, .int .i64 c.acc, .int .i64 c.this, .int .i64 c.sup, .slice A2 c.ifs.length k2, .slice A3 c.flds.length k3, .slice A4 c.mths.length k4] 28)) from⟨below_box _ _ _,by rw [hcs];exact bx_new w _ _⟩)
  have HC:=Lib.hid hcs
  clear h h4 h5 hms hf hcs
  rw [bookV_open]
  go_enter Tryz.func45,Tryz.ntmps45
  go_wp2_with fail
  go_loopw [3] (fun i wr=> ∃k:Nat,k≤c.mths.length∧i= .int .i64 k∧Hid (UnoW w cs wr)) (fun i _=>c.mths.length - (RowKit.intOf i).toNat)
  case atStart=>exact⟨0,by omega,rfl,HW⟩
  case round=>
    obtain⟨k,hk,rfl,HR⟩:=hrel
    have c8:=HR.out.cls.cell (j:=8) (u:= .slice A4 c.mths.length k4) (by rw [HC.out];rfl)
    by_cases hlt:k<c.mths.length
    · obtain⟨⟨mv,cv,tv⟩,hq⟩: ∃q,ms[k]?=some q:=⟨_,List.getElem?_eq_getElem (by rw [←HMS.out,List.length_map] at hlt;exact hlt)⟩
      have hcm:c.mths[k]?=some mv:=by rw [←HMS.out,List.getElem?_map,hq];rfl
      obtain⟨b,off,rfl,_,m0,m1,m2,m3,m4,m5,m6,m7⟩:=mth_cells (H4.out.keep (Kept.of_below HR.out.bel)) (by rw [←HMS.out,List.length_map]) k mv cv tv hq
      have hM:=H5.out _ (List.mem_of_getElem? hq)
      have hft:=HF.out _ (List.mem_of_getElem? hcm)
      have t1: ¬4096<mv.code.length:=by have:=hft.ncode;omega
      have t2: ¬64<mv.traps.length:=by have:=hft.ntraps;omega
      obtain⟨Ac,kc,hcv,_,zc⟩:=sl_len hM.hcode
      obtain⟨At,kt,htv,_,zt⟩:=sl_len hM.htraps
      dsimp only at hcv htv zc zt
      rw [hcv] at m6
      rw [htv] at m7
      clear hcv htv hq hcm hM hft
      go_wp2_with fail
      go_roundw
      case rel=>exact⟨k+1,by omega,by go_num,HR⟩
      case measure=>simp [RowKit.intOf];omega
    · go_wp2_with fail
      go_ret
      exact⟨rfl,HR.out.bel⟩
theorem rnamed_some (c:ClassV) (p i f m:Value) (s:ByteArray) (ok:Nat→Prop) (w:World) (h:ClassAt w ok c p i f m):
    Calls Tryz.prog 49 #[bookV c p i f m, .string s] w fun e w'=> (∃r:Int,e= .returned (.int .i64 r))∧Below w.heap.size w w':=by
  obtain⟨A1,k1,rfl,q1,z1⟩:=sl_len h.hpool
  obtain⟨A2,k2,rfl,q2,z2⟩:=sl_len h.hifs
  obtain⟨A3,k3,rfl,q3,z3⟩:=sl_len h.hflds
  obtain⟨ms,hms,h4,h5⟩:=h.hmths
  obtain⟨A4,k4,rfl,q4,z4⟩:=sl_len h4
  have HP:=Lib.hid h.hpool
  obtain⟨cs,hcs⟩: ∃x,x= [Value.int .i64 c.minor, .int .i64 c.major, .slice A1 c.pool.length k1, .int .i64 c.acc, .int .i64 c.this, .int .i64 c.sup, .slice A2 c.ifs.length k2, .slice A3 c.flds.length k3, .slice A4 c.mths.length k4]:=⟨_,rfl⟩
  have HW:=Lib.hid (show UnoW w cs (w.alloc (.cells #[.int .i64 c.minor, .int .i64 c.major, .slice A1 c.pool.length k1, .int .i64 c.acc, .int .i64 c.this, .int .i64 c.sup, .slice A2 c.ifs.length k2, .slice A3 c.flds.length k3, .slice A4 c.mths.length k4] 28)) from⟨below_box _ _ _,by rw [hcs];exact bx_new w _ _⟩)
  have HC:=Lib.hid hcs
  clear h h4 h5 hms hcs
  rw [bookV_open]
  go_enter Tryz.func49,Tryz.ntmps49
  go_wp2_with fail
  go_loopw [5] (fun i wr=> ∃k:Nat,k≤c.pool.length∧i= .int .i64 k∧Hid (UnoW w cs wr)) (fun i _=>c.pool.length - (RowKit.intOf i).toNat)
  case atStart=>exact⟨0,by omega,rfl,HW⟩
  case round=>
    obtain⟨k,hk,rfl,HR⟩:=hrel
    have c2:=HR.out.cls.cell (j:=2) (u:= .slice A1 c.pool.length k1) (by rw [HC.out];rfl)
    by_cases hlt:k<c.pool.length
    · obtain⟨x,hx⟩: ∃x,c.pool[k]?=some x:=⟨_,List.getElem?_eq_getElem hlt⟩
      obtain⟨b1,o1,rfl,_,x0,x1,x2,x3,x4⟩:=pool_cells (HP.out.keep (Kept.of_below HR.out.bel)) k x hx
      clear hx
      by_cases ht:x.tag=1
      · rw [ht] at x0
        cases hb:(x.text.toList==s.toList)
        · go_wp2_with fail
          go_roundw
          case rel=>exact⟨k+1,by omega,by go_num,HR⟩
          case measure=>simp [RowKit.intOf];omega
        · go_wp2_with fail
          go_ret
          exact⟨⟨_,rfl⟩,HR.out.bel⟩
      · have htb:((x.tag:Int)==1)=false:=by simpa using ht
        go_wp2_with fail
        go_roundw
        case rel=>exact⟨k+1,by omega,by go_num,HR⟩
        case measure=>simp [RowKit.intOf];omega
    · go_wp2_with fail
      go_ret
      exact⟨⟨_,rfl⟩,HR.out.bel⟩
end Go.Proofs.YtlcidkiplidamaaGreatDoor
