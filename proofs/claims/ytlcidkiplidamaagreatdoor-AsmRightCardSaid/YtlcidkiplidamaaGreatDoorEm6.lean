/-
  turnstileref4.Refused at a class that fits: it answers a number.
-/
import Derived.Test.YtlcidkiplidamaaGreatDoorEm5
set_option linter.unusedSimpArgs false
set_option linter.unusedVariables false
set_option maxRecDepth 100000
set_option maxHeartbeats 8000000
namespace Go.Proofs.YtlcidkiplidamaaGreatDoor
open Go Go.RowKit Lib
theorem rtwos_fit (A:Option Addr) (n cap:Nat) (L:List Int) (ok:Nat→Prop) (w:World) (h:SlAt w ok 1 n (L.map (Value.int .i64)) (.slice A n cap)) (hL: ∀v∈L,In2 v):
    Calls Tryz.prog 47 #[.slice A n cap] w fun e w'=>e= .returned (.bool true)∧w'=w:=by
  obtain⟨A',cap',ev,h1,h2,h3,h4⟩:=h
  cases ev
  have hlen:L.length=n:=by simpa using h3
  have H4:=Lib.hid h4
  have HL:=Lib.hid hL
  clear h4 hL h3
  go_enter Tryz.func47,Tryz.ntmps47
  go_wp2_with fail
  go_loop [3] (fun i=> ∃k:Nat,k≤n∧i= .int .i64 k) (fun i=>n - (RowKit.intOf i).toNat)
  case atStart=>exact⟨0,by omega,rfl⟩
  case round=>
    obtain⟨k,hk,rfl⟩:=hrel
    by_cases hlt:k<n
    · obtain⟨b,off,rfl,_,_,hc⟩:=H4.out (by omega)
      obtain⟨v,hv⟩: ∃v,L[k]?=some v:=⟨_,List.getElem?_eq_getElem (by omega)⟩
      have c0:=hc k (.int .i64 v) (by rw [List.getElem?_map,hv];rfl)
      obtain⟨q1,q2⟩:=HL.out v (List.mem_of_getElem? hv)
      have q3: ¬v<0:=by omega
      have q4: ¬65535<v:=by omega
      clear hc hv
      go_wp2_with fail
      go_round
      case rel=>exact⟨k+1,by omega,by go_num⟩
      case measure=>simp [RowKit.intOf];omega
    · go_wp2_with fail
      go_ret
      exact⟨rfl,rfl⟩
theorem rkind_fit (k:Ko) (h:KoFit k) (w:World):Calls Tryz.prog 46 #[.int .i64 k.tag] w fun e w'=>e= .returned (.bool true)∧w'=w:=by
  have h:k.tag=1∨k.tag=3∨k.tag=7∨k.tag=9∨k.tag=10∨k.tag=11∨k.tag=12:=by
    rcases h with h|h|h|h<;>omega
  generalize k.tag=t at*
  rcases h with rfl|rfl|rfl|rfl|rfl|rfl|rfl
  all_goals
    go_enter Tryz.func46,Tryz.ntmps46
    go_wp2_with fail
    go_ret
    exact⟨rfl,rfl⟩
theorem rwrap_some (n:Int) (w:World):Calls Tryz.prog 113 #[.int .i64 n] w fun e w'=> (∃r:Int,e= .returned (.int .i64 r))∧w'=w:=by
  go_enter Tryz.func113,Tryz.ntmps113
  go_wp2
  all_goals go_ret
  all_goals exact⟨⟨_,rfl⟩,rfl⟩
theorem rfair_some (k:Ko) (h:KoFit k) (w:World):
    Calls Tryz.prog 48 #[koV k] w fun e w'=> (∃b:Bool,e= .returned (.bool b))∧Below w.heap.size w w':=by
  have hab:In2 k.a∧In2 k.b∧k.text.size≤65535:=by
    have z0:In2 0:=⟨by omega,by omega⟩
    rcases h with⟨h1,h2,h3,h4,h5⟩ | ⟨h1,h2,h3,h4,h5,h6⟩ | ⟨h1,h2,h3,h4,h5⟩ | ⟨h1,h2,h3,h4,h5⟩
    · rw [h4,h5];exact⟨z0,z0,h2⟩
    · rw [h5,h6,h2];exact⟨z0,z0,by show(0:Nat)≤_;omega⟩
    · rw [h5,h2];exact⟨h4,z0,by show(0:Nat)≤_;omega⟩
    · rw [h2];exact⟨h4,h5,by show(0:Nat)≤_;omega⟩
  obtain⟨tag,text,num,a,b⟩:=k
  have hB:=Lib.hid (below_box w #[.int .i64 tag, .string text, .int .i64 num, .int .i64 a, .int .i64 b] 33)
  have HB2:=Lib.hid (hB.out.trans ((Below.refl _ _).alloc (by simp) (.cells #[.int .i64 a, .int .i64 b] 3)))
  have HX:=Lib.hid ((bx_new w [.int .i64 tag, .string text, .int .i64 num, .int .i64 a, .int .i64 b] 33).below ((Below.refl _ _).alloc (Nat.le_refl _) (.cells #[.int .i64 a, .int .i64 b] 3)) (by simp))
  have HA:=Lib.hid hab
  have hsz:=hab.2.2
  dsimp only at hsz
  have hs: ¬(65535:Int) < (text.size:Int):=by omega
  have hsb:decide ((65535:Int) < (text.size:Int))=false:=decide_eq_false hs
  clear h hab
  unfold koV
  go_enter Tryz.func48,Tryz.ntmps48
  go_wp2_with (go_at_call 47;refine(rtwos_fit _ 2 2 [a,b] (fun _=>True) _ (sl_ints _ [a,b] 2 _ ⟨rfl,by omega⟩ (by simp) _ trivial) (inl_cons HA.out.1 (inl_cons HA.out.2.1 inl_nil))).mono ?_;rintro e w1 ⟨rfl,rfl⟩)
  obtain⟨W,hW⟩: ∃W,W=(w.alloc (.cells #[.int .i64 tag, .string text, .int .i64 num, .int .i64 a, .int .i64 b] 33)).alloc (.cells #[.int .i64 a, .int .i64 b] 3):=⟨_,rfl⟩
  have HBn:=Lib.hid (fun n=>below_drewN (show Below w.heap.size w W by rw [hW];exact HB2.out) n)
  have HXW:=Lib.hid (show Bx W w.heap.size [.int .i64 tag, .string text, .int .i64 num, .int .i64 a, .int .i64 b] 33 by rw [hW];exact HX.out)
  rw [←hW]
  clear hW HB2 HX hB
  have x0:=HXW.out.cell 0 rfl
  have x1:=HXW.out.cell 1 rfl
  have x2:=HXW.out.cell 2 rfl
  have x3:=HXW.out.cell 3 rfl
  have x4:=HXW.out.cell 4 rfl
  go_upto_region 2 with fail
  go_cut [25] (fun v wx=> ∃(b:Bool) (q:Nat),v= .bool b∧wx=W.drewN q)
  case first=>
    go_region_law (go_simp;go_at_call 113;refine(rwrap_some _ _).mono ?_;rintro e w5 ⟨⟨r,rfl⟩,rfl⟩;dsimp only)
    all_goals
      go_wp2_with fail
      go_meet
      exact⟨_,1,rfl,rfl⟩
  case rest=>
    obtain⟨bb,q,rfl,rfl⟩:=hcut
    have HBd:=Lib.hid (HBn.out q)
    clear x0 x1 x2 x3 x4
    have HXd:=Lib.hid (show Bx (W.drewN q) w.heap.size [.int .i64 tag, .string text, .int .i64 num, .int .i64 a, .int .i64 b] 33 from HXW.out)
    have x0:=HXd.out.cell 0 rfl
    have x1:=HXd.out.cell 1 rfl
    have x2:=HXd.out.cell 2 rfl
    have x3:=HXd.out.cell 3 rfl
    have x4:=HXd.out.cell 4 rfl
    cases bb
    · go_wp2
      all_goals go_ret
      all_goals exact⟨⟨_,rfl⟩,HBd.out⟩
    · go_wp2
      all_goals go_ret
      all_goals exact⟨⟨_,rfl⟩,HBd.out⟩
end Go.Proofs.YtlcidkiplidamaaGreatDoor
