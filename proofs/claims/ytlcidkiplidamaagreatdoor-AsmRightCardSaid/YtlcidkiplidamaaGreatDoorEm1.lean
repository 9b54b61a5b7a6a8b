/-
  emit at a class that fits: two, parts, constant, long, args.
-/
import Derived.Test.YtlcidkiplidamaaGreatDoorR08
import Derived.Test.YtlcidkiplidamaaGreatDoorR07
import Derived.Laws.BitsLemmas
import Derived.Test.YtlcidkiplidamaaGreatDoorWrP
set_option linter.unusedSimpArgs false
set_option linter.unusedVariables false
set_option maxRecDepth 100000
set_option maxHeartbeats 4000000
namespace Go.Proofs.YtlcidkiplidamaaGreatDoor
open Go Go.RowKit Lib
theorem sl_ints (w:World) (L:List Int) (n g:Nat) (hn:L.length=n∧n≤1048576) (hg:g=w.heap.size) (t:TypeId) {ok:Nat→Prop} (hk:ok g):SlAt (w.alloc (.cells (L.map (Value.int .i64)).toArray t)) ok 1 n (L.map (Value.int .i64)) (.slice (some ⟨g,0,none⟩) n n):=by
  obtain⟨rfl,hl⟩:=hn
  subst hg
  exact⟨_,_,rfl,Nat.le_refl _,hl,by simp,fun _=> ⟨_,0,rfl,by simp,hk,fun j u hj=>by
    have h:=cells_new w (L.map (Value.int .i64)) t j u hj
    rw [add_cell] at h
    exact h⟩⟩
theorem etwo_fit (A:Option Addr) (n cap:Nat) (L:List Int) (ok:Nat→Prop) (w:World) (h:SlAt w ok 1 n (L.map (Value.int .i64)) (.slice A n cap)) (hL: ∀v∈L,In2 v):
    Calls Tryz.prog 111 #[.slice A n cap] w fun e w'=>e= .returned (.bool true)∧w'=w:=by
  obtain⟨A',cap',ev,h1,h2,h3,h4⟩:=h
  cases ev
  have hlen:L.length=n:=by simpa using h3
  have H4:=Lib.hid h4
  have HL:=Lib.hid hL
  clear h4 hL h3
  go_enter Tryz.func111,Tryz.ntmps111
  go_wp2_with fail
  go_loop [7] (fun i=> ∃k:Nat,k≤n∧i= .int .i64 k) (fun i=>n - (RowKit.intOf i).toNat)
  case atStart=>exact⟨0,by omega,rfl⟩
  case round=>
    obtain⟨k,hk,rfl⟩:=hrel
    by_cases hlt:k<n
    · obtain⟨b,off,rfl,_,_,hc⟩:=H4.out (by omega)
      obtain⟨v,hv⟩: ∃v,L[k]?=some v:=⟨_,List.getElem?_eq_getElem (by omega)⟩
      have c0:=hc k (.int .i64 v) (by rw [List.getElem?_map,hv];rfl)
      obtain⟨q1,q2⟩:=HL.out v (List.mem_of_getElem? hv)
      have q3: ¬v<0:=by omega
      have q4: ¬65535<v:=by omega
      clear hc hv
      go_wp2_with fail
      go_round
      case rel=>exact⟨k+1,by omega,by go_num⟩
      case measure=>simp [RowKit.intOf];omega
    · go_wp2_with fail
      go_ret
      exact⟨rfl,rfl⟩
theorem results_five {fn:Func} {a b c d f:Tmp} (h:fn.results= #[.tmp a, .tmp b, .tmp c, .tmp d, .tmp f]) (tmps:Array Value) (P:Program) (w:World):
    (results fn tmps).run P w= .ok (.tuple #[tmps.getD a undef,tmps.getD b undef,tmps.getD c undef,tmps.getD d undef,tmps.getD f undef]) w:=by
  simp [results,h]
theorem eparts_1 (w:World):Calls Tryz.prog 41 #[.int .i64 1] w fun e w'=>e= .returned (.tuple #[.bool true, .bool false, .bool false, .bool false, .bool true])∧w'=w:=by
  go_enter Tryz.func41,Tryz.ntmps41
  go_wp2_with fail
  (try simp only [Exit.inBlock,Exit.then])
  refine bodyPost_ret (results_five rfl _ _ _) rfl ?_
  exact⟨rfl,rfl⟩
theorem eparts_3 (w:World):Calls Tryz.prog 41 #[.int .i64 3] w fun e w'=>e= .returned (.tuple #[.bool false, .bool true, .bool false, .bool false, .bool true])∧w'=w:=by
  go_enter Tryz.func41,Tryz.ntmps41
  go_wp2_with fail
  (try simp only [Exit.inBlock,Exit.then])
  refine bodyPost_ret (results_five rfl _ _ _) rfl ?_
  exact⟨rfl,rfl⟩
theorem eparts_7 (w:World):Calls Tryz.prog 41 #[.int .i64 7] w fun e w'=>e= .returned (.tuple #[.bool false, .bool false, .bool true, .bool false, .bool true])∧w'=w:=by
  go_enter Tryz.func41,Tryz.ntmps41
  go_wp2_with fail
  (try simp only [Exit.inBlock,Exit.then])
  refine bodyPost_ret (results_five rfl _ _ _) rfl ?_
  exact⟨rfl,rfl⟩
theorem eparts_p (t:Int) (h:t=9∨t=10∨t=11∨t=12) (w:World):Calls Tryz.prog 41 #[.int .i64 t] w fun e w'=>e= .returned (.tuple #[.bool false, .bool false, .bool true, .bool true, .bool true])∧w'=w:=by
  rcases h with rfl|rfl|rfl|rfl
  all_goals
    go_enter Tryz.func41,Tryz.ntmps41
    go_wp2_with fail
    (try simp only [Exit.inBlock,Exit.then])
    refine bodyPost_ret (results_five rfl _ _ _) rfl ?_
    exact⟨rfl,rfl⟩
theorem below_box (w:World) (vs:Array Value) (t:TypeId):Below w.heap.size w (w.alloc (.cells vs t)):=(Below.refl _ _).alloc (Nat.le_refl _) _
theorem econst_fit (k:Ko) (h:KoFit k) (w:World):
    Calls Tryz.prog 112 #[koV k] w fun e w'=>e= .returned (.bool true)∧Below w.heap.size w w':=by
  obtain⟨tag,text,num,a,b⟩:=k
  have hB:=Lib.hid (below_box w #[.int .i64 tag, .string text, .int .i64 num, .int .i64 a, .int .i64 b] 33)
  have hw0:IntKind.i32.wrap 0=0:=by kernel_rfl
  have hw1:IntKind.i64.wrap 0=0:=by kernel_rfl
  unfold koV
  rcases h with⟨h1,h2,h3,h4,h5⟩ | ⟨h1,h2,h3,h4,h5,h6⟩ | ⟨h1,h2,h3,h4,h5⟩ | ⟨h1,h2,h3,h4,h5⟩
  · dsimp only at h1 h2 h3 h4 h5
    subst h1 h3 h4 h5
    have h2':(text.size:Int)≤65535:=by omega
    have HB2:=Lib.hid (hB.out.trans ((Below.refl _ _).alloc (by simp) (.cells #[.int .i64 0, .int .i64 0] 3)))
    go_enter Tryz.func112,Tryz.ntmps112
    go_wp2_with (first| (go_at_call 41;refine(eparts_1 _).mono ?_;rintro e w1 ⟨rfl,rfl⟩) | (go_at_call 111;refine(etwo_fit _ 2 2 [0,0] (fun _=>True) _ (sl_ints _ [0,0] 2 _ ⟨rfl,by omega⟩ (by simp) _ trivial) (by intro v hv;simp at hv;subst hv;exact⟨by omega,by omega⟩)).mono ?_;rintro e w1 ⟨rfl,rfl⟩))
    go_ret
    exact⟨rfl,HB2.out⟩
  · dsimp only at h1 h2 h3 h4 h5 h6
    subst h1 h2 h5 h6
    have hw2:IntKind.i32.wrap num=num:=by rw [IntKind.wrap_i32];omega
    have hw3:IntKind.i64.wrap num=num:=IntWalk.i64_in _ (by omega)
    have HB2:=Lib.hid (hB.out.trans ((Below.refl _ _).alloc (by simp) (.cells #[.int .i64 0, .int .i64 0] 3)))
    clear h3 h4
    go_enter Tryz.func112,Tryz.ntmps112
    go_wp2_with (first| (go_at_call 41;refine(eparts_3 _).mono ?_;rintro e w1 ⟨rfl,rfl⟩) | (go_at_call 111;refine(etwo_fit _ 2 2 [0,0] (fun _=>True) _ (sl_ints _ [0,0] 2 _ ⟨rfl,by omega⟩ (by simp) _ trivial) (by intro v hv;simp at hv;subst hv;exact⟨by omega,by omega⟩)).mono ?_;rintro e w1 ⟨rfl,rfl⟩))
    go_ret
    exact⟨rfl,HB2.out⟩
  · dsimp only at h1 h2 h3 h4 h5
    subst h1 h2 h3 h5
    have HA:=Lib.hid h4
    have HB2:=Lib.hid (hB.out.trans ((Below.refl _ _).alloc (by simp) (.cells #[.int .i64 a, .int .i64 0] 3)))
    clear h4
    go_enter Tryz.func112,Tryz.ntmps112
    go_wp2_with (first| (go_at_call 41;refine(eparts_7 _).mono ?_;rintro e w1 ⟨rfl,rfl⟩) | (go_at_call 111;refine(etwo_fit _ 2 2 [a,0] (fun _=>True) _ (sl_ints _ [a,0] 2 _ ⟨rfl,by omega⟩ (by simp) _ trivial) (by intro v hv;simp at hv;rcases hv with rfl|rfl;exact HA.out;exact⟨by omega,by omega⟩)).mono ?_;rintro e w1 ⟨rfl,rfl⟩))
    go_ret
    exact⟨rfl,HB2.out⟩
  · dsimp only at h1 h2 h3 h4 h5
    subst h2 h3
    have HT:=Lib.hid h1
    have HA:=Lib.hid h4
    have HA2:=Lib.hid h5
    have HB2:=Lib.hid (hB.out.trans ((Below.refl _ _).alloc (by simp) (.cells #[.int .i64 a, .int .i64 b] 3)))
    clear h1 h4 h5
    go_enter Tryz.func112,Tryz.ntmps112
    go_wp2_with (first| (go_at_call 41;refine(eparts_p tag HT.out _).mono ?_;rintro e w1 ⟨rfl,rfl⟩) | (go_at_call 111;refine(etwo_fit _ 2 2 [a,b] (fun _=>True) _ (sl_ints _ [a,b] 2 _ ⟨rfl,by omega⟩ (by simp) _ trivial) (by intro v hv;simp at hv;rcases hv with rfl|rfl;exact HA.out;exact HA2.out)).mono ?_;rintro e w1 ⟨rfl,rfl⟩))
    go_ret
    exact⟨rfl,HB2.out⟩
/-- emit.long at a class that fits. -/
theorem elong_fit (c:ClassV) (hf:ClsFit c) (p i f m:Value) (ok:Nat→Prop) (w:World) (h:ClassAt w ok c p i f m):
    Calls Tryz.prog 40 #[bookV c p i f m] w fun e w'=>e= .returned (.bool false)∧Below w.heap.size w w':=by
  obtain⟨A1,k1,rfl,q1,z1⟩:=sl_len h.hpool
  obtain⟨A2,k2,rfl,q2,z2⟩:=sl_len h.hifs
  obtain⟨A3,k3,rfl,q3,z3⟩:=sl_len h.hflds
  obtain⟨ms,hms,h4,h5⟩:=h.hmths
  obtain⟨A4,k4,rfl,q4,z4⟩:=sl_len h4
  have g1: ¬1024<c.pool.length:=by have:=hf.npool;omega
  have g2: ¬64<c.ifs.length:=by have:=hf.nifs;omega
  have g3: ¬64<c.flds.length:=by have:=hf.nflds;omega
  have g4: ¬64<c.mths.length:=by have:=hf.nmths;omega
  have H4:=Lib.hid h4
  have H5:=Lib.hid h5
  have HMS:=Lib.hid hms
  have HF:=Lib.hid hf.mths
  have HW:=Lib.hid (below_box w #[.int .i64 c.minor, .int .i64 c.major, .slice A1 c.pool.length k1, .int .i64 c.acc, .int .i64 c.this, .int .i64 c.sup, .slice A2 c.ifs.length k2, .slice A3 c.flds.length k3, .slice A4 c.mths.length k4] 28)
  clear h h4 h5 hms hf
  rw [bookV_open]
  go_enter Tryz.func40,Tryz.ntmps40
  go_wp2_with fail
  go_loopw [30] (fun i wr=> ∃k:Nat,k≤c.mths.length∧i= .int .i64 k∧Hid (Below w.heap.size w wr)) (fun i _=>c.mths.length - (RowKit.intOf i).toNat)
  case atStart=>exact⟨0,by omega,rfl,HW⟩
  case round=>
    obtain⟨k,hk,rfl,HBr⟩:=hrel
    by_cases hlt:k<c.mths.length
    · obtain⟨⟨mv,cv,tv⟩,hq⟩: ∃q,ms[k]?=some q:=⟨_,List.getElem?_eq_getElem (by rw [←HMS.out,List.length_map] at hlt;exact hlt)⟩
      have hcm:c.mths[k]?=some mv:=by rw [←HMS.out,List.getElem?_map,hq];rfl
      obtain⟨b,off,rfl,_,m0,m1,m2,m3,m4,m5,m6,m7⟩:=mth_cells (H4.out.keep (Kept.of_below HBr.out)) (by rw [←HMS.out,List.length_map]) k mv cv tv hq
      have hM:=H5.out _ (List.mem_of_getElem? hq)
      have hft:=HF.out _ (List.mem_of_getElem? hcm)
      have t1: ¬4096<mv.code.length:=by have:=hft.ncode;omega
      have t2: ¬64<mv.traps.length:=by have:=hft.ntraps;omega
      obtain⟨Ac,kc,hcv,_,zc⟩:=sl_len hM.hcode
      obtain⟨At,kt,htv,_,zt⟩:=sl_len hM.htraps
      dsimp only at hcv htv zc zt
      rw [hcv] at m6
      rw [htv] at m7
      clear hcv htv
      have HB2:=Lib.hid (HBr.out.alloc HBr.out.size (.cells #[.int .i64 mv.acc, .int .i64 mv.name, .int .i64 mv.desc, .bool mv.has, .int .i64 mv.stack, .int .i64 mv.locals, .slice Ac mv.code.length kc, .slice At mv.traps.length kt] 37))
      clear hq hcm hM hft
      go_wp2_with fail
      go_roundw
      case rel=>exact⟨k+1,by omega,by go_num,HB2⟩
      case measure=>simp [RowKit.intOf];omega
    · go_wp2_with fail
      go_ret
      exact⟨rfl,HBr.out⟩
end Go.Proofs.YtlcidkiplidamaaGreatDoor
