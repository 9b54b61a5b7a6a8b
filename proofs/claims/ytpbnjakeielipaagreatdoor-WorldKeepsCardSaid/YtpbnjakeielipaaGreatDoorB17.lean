/-
  What the laws rest on, part 17: walks of the program's functions and plain laws. Conditions: none but those that each theorem names.
-/
import Derived.Test.YtpbnjakeielipaaGreatDoorB15
import Derived.RangeFuncNested
import Derived.RangeFuncBound
import Derived.RangeFuncCalls
import Derived.RangeFuncLeaves
import Derived.Shelf.Abstract
import Derived.Shelf.RegionOpen
import Derived.WalkKit
import Derived.OwnWalkIn
import Derived.TacticsInMore
import Derived.LoopNIn
import Derived.LoopIn
set_option linter.unusedSimpArgs false
set_option linter.unusedVariables false
set_option maxRecDepth 100000
set_option maxHeartbeats 1000000
namespace Go.Proofs.YtpbnjakeielipaaGreatDoor
open Go Go.RowKit Lib
def memberB (l:List UInt8):Bool:=lettersB [46,59,91,47,60,62] l
def initL:List UInt8:= [60,105,110,105,116,62]
def clinitL:List UInt8:= [60,99,108,105,110,105,116,62]
def methodNB (l:List UInt8):Bool:=l==initL||l==clinitL||memberB l
def fieldB (l:List UInt8):Bool:=l== [73] || (decide (2<l.length)&&decide (l.length≤255)&&l.headD 0==76&&l.getLastD 0==59&&classB ((l.drop 1).take (l.length - 2)))
theorem member_any (s:ByteArray) (w:World) (hm:s.size≤9223372036854775807):
  Calls Tryz.prog 151 #[.string s] w fun e w'=>e= .returned (.bool (memberB s.data.toList))∧Below w.heap.size w w':=by
 have HLT:=Lib.hid (show∀W,Calls Tryz.prog 39 #[.string s, .string ⟨#[46,59,91,47,60,62]⟩] W fun e w'=>e= .returned (.bool (memberB s.data.toList))∧Below W.heap.size W w' from fun W=>letters_any s ⟨#[46,59,91,47,60,62]⟩ W hm)
 go_enter Tryz.func151,Tryz.ntmps151
 go_wp2_with (go_at_call 39;refine(HLT.out _).mono ?_;rintro e w1 ⟨rfl,hb1⟩;have HB1:=Lib.hid hb1;clear hb1)
 go_ret
 exact⟨rfl,HB1.out⟩
theorem dmethod_any (s:ByteArray) (w:World) (hm:s.size≤9223372036854775807):
  Calls Tryz.prog 138 #[.string s] w fun e w'=>e= .returned (.bool (methodNB s.data.toList))∧Below w.heap.size w w':=by
 have HM:=Lib.hid (fun W=>member_any s W hm)
 obtain⟨b1,h1⟩: ∃b,b=(s.data.toList==initL):=⟨_,rfl⟩
 obtain⟨b2,h2⟩: ∃b,b=(s.data.toList==clinitL):=⟨_,rfl⟩
 have e1:(s.toList== [60,105,110,105,116,62])=b1:=by rw [ByteArray.toList_eq,h1];rfl
 have e2:(s.toList== [60,99,108,105,110,105,116,62])=b2:=by rw [ByteArray.toList_eq,h2];rfl
 have HE:=Lib.hid (show methodNB s.data.toList=(b1||b2||memberB s.data.toList) by rw [h1,h2];rfl)
 clear h1 h2
 rw [HE.out]
 go_enter Tryz.func138,Tryz.ntmps138
 cases b1
 ·cases b2
  ·go_wp2_with (go_at_call 151;refine(HM.out _).mono ?_;rintro e w1 ⟨rfl,hb1⟩;have HB1:=Lib.hid hb1;clear hb1)
   go_ret
   exact⟨by simp,HB1.out⟩
  ·go_wp2_with fail
   go_ret
   exact⟨by simp,Below.refl _ _⟩
 ·go_wp2_with fail
  go_ret
  exact⟨by simp,Below.refl _ _⟩
theorem extract_list (s:ByteArray) (i j:Nat):(s.extract i j).data.toList=(s.data.toList.drop i).take (j - i):=by
 rw [ByteArray.data_extract,Array.toList_extract,List.extract_eq_take_drop]
theorem fieldB_at (s:ByteArray) (h:2<s.size):fieldB s.data.toList=(decide (s.size≤255)&&((s[0]'(by omega))==76)&&((s[s.size - 1]'(by omega))==59)&&classB (s.extract 1 (s.size - 1)).data.toList):=by
 have hl:s.data.toList.length=s.size:=Array.length_toList
 have h0:=byte_list (s:=s) (j:=0) (by omega)
 have h1:=byte_list (s:=s) (j:=s.size - 1) (by omega)
 have e0:s.data.toList.headD 0=s[0]'(by omega):=by
  rw [List.headD_eq_head?_getD,List.head?_eq_getElem?,h0]
  rfl
 have e1:s.data.toList.getLastD 0=s[s.size - 1]'(by omega):=by
  rw [List.getLastD_eq_getLast?,List.getLast?_eq_getElem?,hl,h1]
  rfl
 have e2:(s.data.toList== [73])=false:=by
  rw [beq_eq_false_iff_ne]
  intro e
  rw [e] at hl
  simp at hl
  omega
 unfold fieldB
 rw [e2,e0,e1,hl,extract_list]
 have e3:s.size - 1 - 1=s.size - 2:=by omega
 rw [e3]
 simp [h]
theorem dfield_any (s:ByteArray) (w:World) (hm:s.size≤9223372036854775807):
  Calls Tryz.prog 139 #[.string s] w fun e w'=>e= .returned (.bool (fieldB s.data.toList))∧Below w.heap.size w w':=by
 by_cases hn:2<s.size
 ·have HF:=Lib.hid (fieldB_at s hn)
  have HC:=Lib.hid (fun W=>class_any (s.extract 1 (s.size - 1)) W (by rw [ByteArray.size_extract];omega))
  have c1:decide ((s.size:Int) >2)=true:=by simp;omega
  have e1:(s.toList== [73])=false:=by
   rw [ByteArray.toList_eq,beq_eq_false_iff_ne]
   intro e
   have hl:s.data.toList.length=s.size:=Array.length_toList
   rw [e] at hl
   simp at hl
   omega
  rw [HF.out]
  go_enter Tryz.func139,Tryz.ntmps139
  by_cases hn2:s.size≤255
  ·have c2:decide ((s.size:Int)≤255)=true:=by simp;omega
   by_cases h0:((s[0]'(by omega)).toNat:Int)=76
   ·by_cases h1:((s[s.size - 1]'(by omega)).toNat:Int)=59
    ·have k0:((s[0]'(by omega))==76)=true:=by
      rw [beq_iff_eq, ←UInt8.toNat_inj]
      exact_mod_cast h0
     have k1:((s[s.size - 1]'(by omega))==59)=true:=by
      rw [beq_iff_eq, ←UInt8.toNat_inj]
      exact_mod_cast h1
     rw [k0,k1,decide_eq_true hn2]
     clear k0 k1
     go_wp2_with (go_at_call 19;refine(HC.out _).mono ?_;rintro e w1 ⟨rfl,hb1⟩;have HB1:=Lib.hid hb1;clear hb1)
     go_ret
     exact⟨by simp,HB1.out⟩
    ·have k1:((s[s.size - 1]'(by omega))==59)=false:=by
      rw [beq_eq_false_iff_ne]
      intro e
      rw [e] at h1
      exact h1 rfl
     rw [k1]
     clear k1
     go_wp2_with fail
     go_ret
     exact⟨by simp,Below.refl _ _⟩
   ·have k0:((s[0]'(by omega))==76)=false:=by
     rw [beq_eq_false_iff_ne]
     intro e
     rw [e] at h0
     exact h0 rfl
    rw [k0]
    clear k0
    go_wp2_with fail
    go_ret
    exact⟨by simp,Below.refl _ _⟩
  ·have c2:decide ((s.size:Int)≤255)=false:=by simp;omega
   rw [decide_eq_false hn2]
   go_wp2_with fail
   go_ret
   exact⟨by simp,Below.refl _ _⟩
 ·have c1:decide ((s.size:Int) >2)=false:=by simp;omega
  have hl:s.data.toList.length=s.size:=Array.length_toList
  obtain⟨b1,h1⟩: ∃b,b=(s.data.toList== [73]):=⟨_,rfl⟩
  have e1:(s.toList== [73])=b1:=by rw [ByteArray.toList_eq,h1]
  have HF:=Lib.hid (show fieldB s.data.toList=b1 by
   unfold fieldB
   rw [←h1,hl,decide_eq_false hn]
   simp)
  rw [HF.out]
  clear h1 hl
  go_enter Tryz.func139,Tryz.ntmps139
  cases b1
  ·go_wp2_with fail
   go_ret
   exact⟨rfl,Below.refl _ _⟩
  ·go_wp2_with fail
   go_ret
   exact⟨rfl,Below.refl _ _⟩
end Go.Proofs.YtpbnjakeielipaaGreatDoor
namespace Go.Proofs.YtpbnjakeielipaaGreatDoor
open Go Go.RowKit Lib Go.Shelf
attribute [local go_sem] Oper.semAt_some
def partLen (s:ByteArray):Nat:=if s.data.toList.headD 0=76 then(if Lib.indexByte s.data.toList 59= -1 then s.size else(Lib.indexByte s.data.toList 59).toNat+1) else 1
def leftAt (bs:Nat) (w:World):Nat:=match w.cell? ⟨bs,0,none⟩ with
 |some (.string r)=>r.size
 |_=>0
theorem partLen_ok (s:ByteArray) (h:0<s.size):1≤partLen s∧partLen s≤s.size:=by
 have hl:s.data.toList.length=s.size:=Array.length_toList
 unfold partLen
 split
 ·split
  ·omega
  ·rename_i h2
   have h1:=Lib.indexByte_ge s.data.toList 59
   obtain⟨o,ho⟩: ∃o:Nat,Lib.indexByte s.data.toList 59=o:=⟨(Lib.indexByte s.data.toList 59).toNat,by omega⟩
   have:=(Lib.indexByte_some ho).1
   have:=(List.getElem?_eq_some_iff.1 this).1
   rw [ho]
   simp
   omega
 ·omega
theorem parts_gives (n l bs:Nat) (hn:1≤n) (J K:ByteArray→World→Prop) (Jx:World→Prop)
  (hJ: ∀r W,J r W→W.cell? ⟨bs,0,none⟩=some (.string r)∧W.frozen? ⟨bs,0,none⟩=false∧r.size≤255)
  (hK: ∀r W,K r W→W.cell? ⟨bs,0,none⟩=some (.string r)∧W.frozen? ⟨bs,0,none⟩=false)
  (hY: ∀r W,J r W→0<r.size→YieldAt Fence.wide (n - 1) Tryz.prog l #[.string (r.extract 0 (partLen r))] W fun e W'=> (e= .returned (.bool true)∧K r W')∨(e= .returned (.bool false)∧Jx W'))
  (hA: ∀r W,K r W→0<r.size→J (r.extract (partLen r) r.size) (W.setCell ⟨bs,0,none⟩ (.string (r.extract (partLen r) r.size))))
  (s:ByteArray) (W:World) (h0:J s W):
  CallsIn Fence.wide n Tryz.prog 171 #[.func (.yield l) #[] #[], .pointer (some ⟨bs,0,none⟩)] W fun e W'=> (∃v,e= .returned v)∧(J ⟨#[]⟩ W'∨Jx W'):=by
 refine callsIn_of_wp Tryz.func171 rfl trivial ?_ rfl
 simp only [Tryz.ntmps171,List.size_toArray,List.length_cons,List.length_nil,Nat.reduceAdd,Nat.reduceSub,Array.replicate_succ,Array.replicate_zero,List.push_toArray,List.append_toArray,List.nil_append,List.cons_append]
 gi_wp2
 gi_loopw [3] (fun _ wr=> ∃r:ByteArray,Hid (J r wr)) (fun _ wr=>leftAt bs wr)
 case atStart=>exact⟨s,Lib.hid h0⟩
 case round=>
  obtain⟨r,HJ⟩:=hrel
  obtain⟨hc,hf,hsz⟩:=hJ r wr HJ.out
  by_cases h0:0<r.size
  ·have hl:r.data.toList.length=r.size:=Array.length_toList
   have hne:(r.toList== [])=false:=by
    rw [ByteArray.toList_eq,beq_eq_false_iff_ne]
    intro e
    rw [e] at hl
    simp at hl
    omega
   have hd:r.data.toList.headD 0=r[0]'(by omega):=by
    rw [List.headD_eq_head?_getD,List.head?_eq_getElem?,byte_list (s:=r) (j:=0) (by omega)]
    rfl
   have HZ:=Lib.hid (partLen_ok r h0)
   obtain⟨z,hz⟩: ∃z,Lib.indexByte r.data.toList 59=z:=⟨_,rfl⟩
   have hz1:=Lib.indexByte_ge r.data.toList 59
   have IB:=Lib.hid (show∀W,Calls Tryz.prog 105 #[.string r, .int .u8 59] W fun e w'=>e= .returned (.int .i64 z)∧W=w' from fun W=> (Tryz.strings_IndexByte r 59 W).mono fun e w' h=> ⟨by rw [←hz];exact h.1,h.2.symm⟩)
   by_cases h76:((r[0]'(by omega)).toNat:Int)=76
   ·have k0:r[0]'(by omega)=76:=by
     rw [←UInt8.toNat_inj]
     exact_mod_cast h76
    by_cases hm:z= -1
    ·have hp:partLen r=r.size:=by
      unfold partLen
      rw [hd,k0,if_pos rfl,hz,if_pos hm]
     subst hm
     clear hz hz1 hd k0 hl
     have hp1:1≤r.size:=h0
     obtain⟨fn,tmps,assign,body,hy,hR⟩:=hY r wr HJ.out h0
     have HA:=Lib.hid (fun W h=>hA r W h h0)
     rw [hp] at hy HA
     have hex:r.extract 0 r.size=r:=by simp
     rw [hex] at hy
     have HR:=Lib.hid hR
     have HJ':=HJ
     clear hR hp HJ
     gi_wp2_with (refine⟨trivial, ?_⟩;gi_at_call 105;refine(callsIn_wide.2 (IB.out _)).mono ?_;rintro e w' ⟨rfl,rfl⟩)
     refine HR.out.mono ?_
     rintro e W3 (⟨rfl,hk⟩ | ⟨rfl,hx⟩)
     ·obtain⟨hc3,hf3⟩:=hK r W3 hk
      have HN:=Lib.hid (HA.out W3 hk)
      have hl3:leftAt bs (W3.setCell ⟨bs,0,none⟩ (.string (r.extract r.size r.size)))=r.size - r.size:=by
       unfold leftAt
       rw [World.cell?_setCell_same' _ _ _ (by rw [hc3];rfl)]
       simp only [ByteArray.size_extract]
       omega
      have hl0:leftAt bs wr=r.size:=by unfold leftAt;rw [hc]
      have hee:r.extract r.size r.size=ByteArray.empty:=by simp
      rw [hee] at HN hl3
      clear hk HA
      gi_wp2
      go_roundw
      case rel=>exact⟨_,HN⟩
      case measure=>rw [hl3,hl0];omega
     ·have HX:=Lib.hid hx
      clear hx
      gi_wp2
      refine bodyPost_ret (results_none rfl _ _ _) rfl ?_
      exact⟨⟨_,rfl⟩, .inr HX.out⟩
    ·obtain⟨o,rfl⟩: ∃o:Nat,z=o:=⟨z.toNat,by omega⟩
     have hp:partLen r=o+1:=by
      unfold partLen
      rw [hd,k0,if_pos rfl,hz,if_neg hm]
      simp
     have ho:o+1≤r.size:=by have:=HZ.out.2;omega
     have hq:((o:Int)+1==0)=false:=by simp;omega
     clear hz hz1 hd k0 hl hm
     obtain⟨fn,tmps,assign,body,hy,hR⟩:=hY r wr HJ.out h0
     have HA:=Lib.hid (fun W h=>hA r W h h0)
     rw [hp] at hy HA
     have HR:=Lib.hid hR
     have HJ':=HJ
     clear hR hp HJ
     gi_wp2_with (refine⟨trivial, ?_⟩;gi_at_call 105;refine(callsIn_wide.2 (IB.out _)).mono ?_;rintro e w' ⟨rfl,rfl⟩)
     refine HR.out.mono ?_
     rintro e W3 (⟨rfl,hk⟩ | ⟨rfl,hx⟩)
     ·obtain⟨hc3,hf3⟩:=hK r W3 hk
      have HN:=Lib.hid (HA.out W3 hk)
      have hl3:leftAt bs (W3.setCell ⟨bs,0,none⟩ (.string (r.extract (o+1) r.size)))=r.size - (o+1):=by
       unfold leftAt
       rw [World.cell?_setCell_same' _ _ _ (by rw [hc3];rfl)]
       simp only [ByteArray.size_extract]
       omega
      have hl0:leftAt bs wr=r.size:=by unfold leftAt;rw [hc]
      clear hk HA
      gi_wp2
      go_roundw
      case rel=>exact⟨_,HN⟩
      case measure=>rw [hl3,hl0];omega
     ·have HX:=Lib.hid hx
      clear hx
      gi_wp2
      refine bodyPost_ret (results_none rfl _ _ _) rfl ?_
      exact⟨⟨_,rfl⟩, .inr HX.out⟩
   ·have k0: ¬r[0]'(by omega)=76:=by
     intro e
     rw [e] at h76
     exact h76 rfl
    have hp:partLen r=1:=by
     unfold partLen
     rw [hd,if_neg k0]
    clear hz hz1 hd k0 hl
    obtain⟨fn,tmps,assign,body,hy,hR⟩:=hY r wr HJ.out h0
    have HA:=Lib.hid (fun W h=>hA r W h h0)
    rw [hp] at hy HA
    have HR:=Lib.hid hR
    have HJ':=HJ
    clear hR hp HJ
    gi_wp2_with (refine⟨trivial, ?_⟩;gi_at_call 105;refine(callsIn_wide.2 (IB.out _)).mono ?_;rintro e w' ⟨rfl,rfl⟩)
    refine HR.out.mono ?_
    rintro e W3 (⟨rfl,hk⟩ | ⟨rfl,hx⟩)
    ·obtain⟨hc3,hf3⟩:=hK r W3 hk
     have HN:=Lib.hid (HA.out W3 hk)
     have hl3:leftAt bs (W3.setCell ⟨bs,0,none⟩ (.string (r.extract 1 r.size)))=r.size - 1:=by
      unfold leftAt
      rw [World.cell?_setCell_same' _ _ _ (by rw [hc3];rfl)]
      simp only [ByteArray.size_extract]
      omega
     have hl0:leftAt bs wr=r.size:=by unfold leftAt;rw [hc]
     clear hk HA
     gi_wp2
     go_roundw
     case rel=>exact⟨_,HN⟩
     case measure=>rw [hl3,hl0];omega
    ·have HX:=Lib.hid hx
     clear hx
     gi_wp2
     refine bodyPost_ret (results_none rfl _ _ _) rfl ?_
     exact⟨⟨_,rfl⟩, .inr HX.out⟩
  ·have hr:r=⟨#[]⟩:=by
    have:r.data= #[]:=Array.eq_empty_of_size_eq_zero (by show r.size=0;omega)
    exact ByteArray.ext this
   subst hr
   gi_wp2
   go_end0
   exact⟨⟨_,rfl⟩, .inl HJ.out⟩
def Stab (B:Nat) (I:World→Prop):Prop:= ∀(W:World) (l:Nat) (o o':Obj),B≤l→W.heap[l]?=some o→o.isCells=false→I W→I (W.putObj l o')
def partPost (B:Nat) (K:World→Prop) (Ix:Code→World→Prop) (W:World):Exit→Act→World→Prop
 | .normal,_,W'=>KeepsFrom B W W'∧K W'
 | .exit id,_,W'=>KeepsFrom B W W'∧Ix (.exit id) W'
 |_,_,_=>False
theorem range_parts {n:Nat} {g:Operand} {p:Tmp} {assign body:Code} {Q:Exit→Act→World→Prop} {a:Act} {w:World} {bs:Nat} (h2:2≤n)
  (hg:a.eval g= .func (.func 171) #[] #[.pointer (some ⟨bs,0,none⟩)]) (hbs:bs<w.heap.size)
  (I K:ByteArray→World→Prop) (Ix:Code→World→Prop) (s:ByteArray)
  (hI: ∀r W,I r W→W.cell? ⟨bs,0,none⟩=some (.string r)∧W.frozen? ⟨bs,0,none⟩=false∧r.size≤255)
  (hK: ∀r W,K r W→W.cell? ⟨bs,0,none⟩=some (.string r)∧W.frozen? ⟨bs,0,none⟩=false)
  (sI: ∀r,Stab w.heap.size (I r)) (sK: ∀r,Stab w.heap.size (K r)) (sx: ∀c,Stab w.heap.size (Ix c)) (aI: ∀W o,w.heap.size≤W.heap.size→I s W→I s (W.alloc o))
  (hA: ∀r W,K r W→0<r.size→I (r.extract (partLen r) r.size) (W.setCell ⟨bs,0,none⟩ (.string (r.extract (partLen r) r.size))))
  (h0:I s w) (a₁:ByteArray→Act)
  (hassign: ∀(l:Nat) (r:ByteArray) (W:World) (K':Act→World→Prop),K' (a₁ r) W→
   assign.wpIn (Fence.wide.inRound l) (n - 1 - 1) Tryz.prog (Exit.then K' (fun _ _ _=>False)) { tmps:=((#[p]:Array Tmp).zip #[Value.string (r.extract 0 (partLen r))]).foldl (fun t (p,v)=>t.setIfInBounds p v) a.tmps,defers:= [] } W)
  (hbody: ∀(l:Nat) (r:ByteArray) (W:World),I r W→0<r.size→body.wpIn (Fence.wide.inRound l) (n - 1 - 1) Tryz.prog (partPost w.heap.size (K r) Ix W) (a₁ r) W)
  (hdone: ∀(D:Nat) (W:World),w.heap.size≤D→I ⟨#[]⟩ W→W.heap[D]?=some (.deferred (some []))→Q .normal { a with defers:={ target:= .collected D,args:= #[] }::a.defers } W)
  (hstop: ∀(D:Nat) (c:Code) (W:World),w.heap.size≤D→Ix c W→W.heap[D]?=some (.deferred (some []))→c.wpIn Fence.wide n Tryz.prog Q { a with defers:={ target:= .collected D,args:= #[] }::a.defers } W):
  (Code.rangeFunc g #[p] assign body).wpIn Fence.wide n Tryz.prog Q a w:=by
 refine wpIn_rangeFunc fun fn hfn=> ?_
 obtain⟨d,hd⟩: ∃d,w.heap.size=d:=⟨_,rfl⟩
 obtain⟨rc,hrc⟩: ∃rc:LoopState→Option Code→Loop,rc=fun st pe=> { state:=st,pending:=pe,fn,tmps:=a.tmps,params:= #[p],assign,body,defers:=w.heap.size }:=⟨_,rfl⟩
 have hr0:rc .ready none={ state:= .ready,pending:=none,fn,tmps:=a.tmps,params:= #[p],assign,body,defers:=w.heap.size }:=by rw [hrc]
 have hpar: ∀st pe,(rc st pe).params= #[p]:=fun st pe=>by rw [hrc]
 have hst: ∀st pe st' pe',{ rc st pe with state:=st',pending:=pe' }=rc st' pe':=fun st pe st' pe'=>by rw [hrc]
 refine⟨d+1, [{ target:= .collected d,args:= #[] }],(w.alloc (.deferred (some []))).alloc (.loop (rc .ready none)),{ target:= .fn (.func 171) #[.pointer (some ⟨bs,0,none⟩)],args:= #[.func (.yield (d+1)) #[] #[]] },(w.alloc (.deferred (some []))).alloc (.loop (rc .ready none)),171,
  #[.func (.yield (d+1)) #[] #[], .pointer (some ⟨bs,0,none⟩)],(w.alloc (.deferred (some []))).alloc (.loop (rc .ready none)), ?_, ?_,fun _ _=>trivial, ?_,fun h=> (by cases h), ?_⟩
 ·rw [hr0, ←hd]
  exact run_enterLoop_outer _ _ _ _ _
 ·simp only [resolve,hg]
  simp [go_sem]
 ·simp [invoke,go_sem,enters_of Tryz.func171 (by kernel_rfl) rfl]
 ·have hW1:((w.alloc (.deferred (some []))).alloc (.loop (rc .ready none))).heap[d+1]?=some (.loop (rc .ready none)):=by
   have:=World.alloc_heap_new (w.alloc (.deferred (some []))) (.loop (rc .ready none))
   rw [World.size_alloc,hd] at this
   exact this
  have hW0:((w.alloc (.deferred (some []))).alloc (.loop (rc .ready none))).heap[d]?=some (.deferred (some [])):=by
   rw [←hd]
   exact(Below.heap_alloc _ _ _ (by simp)).trans (World.alloc_heap_new w _)
  have hI1:I s ((w.alloc (.deferred (some []))).alloc (.loop (rc .ready none))):=aI _ _ (by simp) (aI _ _ (Nat.le_refl _) h0)
  refine(parts_gives (n - 1) (d+1) bs (by omega)
   (fun r W=>I r W∧W.heap[d+1]?=some (.loop (rc .ready none))∧W.heap[d]?=some (.deferred (some [])))
   (fun r W=>K r W∧W.heap[d+1]?=some (.loop (rc .ready none))∧W.heap[d]?=some (.deferred (some [])))
   (fun W=> ∃c,Ix c W∧W.heap[d+1]?=some (.loop (rc .done (some c)))∧W.heap[d]?=some (.deferred (some [])))
   (fun r W h=>hI r W h.1) (fun r W h=>hK r W h.1) ?_ ?_ s _ ⟨hI1,hW1,hW0⟩).mono ?_
  ·rintro r W ⟨hi,hl,hk⟩ hr
   have hlt:d+1<W.heap.size:=(Array.getElem?_eq_some_iff.1 hl).1
   have hy:=run_yield (P:=Tryz.prog) (args:= #[.string (r.extract 0 (partLen r))]) hl (by rw [hpar];rfl)
   rw [hr0] at hy
   refine⟨fn,_,assign,body,hy,roundIn_of_wpIn hfn ?_⟩
   refine hassign (d+1) r W _ ?_
   refine⟨_,run_beginRound hl (by rw [hrc]), ?_⟩
   have hl2:(W.putObj (d+1) (.loop { rc .ready none with state:= .busy })).heap[d+1]?=some (.loop { rc .ready none with state:= .busy }):=World.putObj_heap_same hlt
   have hk2:(W.putObj (d+1) (.loop { rc .ready none with state:= .busy })).heap[d]?=some (.deferred (some [])):=(World.putObj_heap_other (by omega)).trans hk
   have hi2:=sI r W (d+1) _ (.loop { rc .ready none with state:= .busy }) (by omega) hl rfl hi
   refine wpIn_mono (hbody (d+1) r _ hi2 hr) ?_
   rintro e a3 W3 hp
   have fin: ∀(jump:Option Code),KeepsFrom w.heap.size (W.putObj (d+1) (.loop { rc .ready none with state:= .busy })) W3→
     (Instr.endRound (d+1) jump).run Tryz.prog W3= .ok (.bool jump.isNone) (W3.putObj (d+1) (.loop (rc (if jump.isNone then .ready else .done) jump)))∧W3.heap[d+1]?=some (.loop { rc .ready none with state:= .busy })∧
     (W3.putObj (d+1) (.loop (rc (if jump.isNone then .ready else .done) jump))).heap[d+1]?=some (.loop (rc (if jump.isNone then .ready else .done) jump))∧
     (W3.putObj (d+1) (.loop (rc (if jump.isNone then .ready else .done) jump))).heap[d]?=some (.deferred (some [])):=fun jump hkf=>by
    have hl3:=hkf.same _ _ (by omega) hl2 rfl
    have hk3:=hkf.same _ _ (by omega) hk2 rfl
    have hrun:=run_endRound (P:=Tryz.prog) jump hl3
    refine⟨?_,hl3,World.putObj_heap_same (Array.getElem?_eq_some_iff.1 hl3).1,(World.putObj_heap_other (by omega)).trans hk3⟩
    rw [hrun]
    simp only [hrc]
   cases e with
   |normal=>
    obtain⟨hkf,hk3⟩:=hp
    obtain⟨f1,f2,f3,f4⟩:=fin none hkf
    exact⟨_,_,f1, .inl ⟨rfl,sK r W3 (d+1) _ _ (by omega) f2 rfl hk3,f3,f4⟩⟩
   |exit id=>
    obtain⟨hkf,hx3⟩:=hp
    obtain⟨f1,f2,f3,f4⟩:=fin (some (.exit id)) hkf
    exact⟨_,_,f1, .inr ⟨rfl, .exit id,sx _ W3 (d+1) _ _ (by omega) f2 rfl hx3,f3,f4⟩⟩
   |ret=>exact hp.elim
   |goto t=>exact hp.elim
   |panic ch=>exact hp.elim
   |outgrown=>exact hp.elim
  ·rintro r W ⟨hk,hl,hd2⟩ hr
   exact⟨hA r W hk hr,(Below.heap_setCell W _ _ _ (by show d+1≠bs;omega)).trans hl,(Below.heap_setCell W _ _ _ (by show d≠bs;omega)).trans hd2⟩
  ·rintro e W2 ⟨⟨v,rfl⟩,(⟨hi,hl,hk⟩ | ⟨c,hx,hl,hk⟩)⟩
   ·have hrun:=run_endLoop (P:=Tryz.prog) hl (by rw [hrc];simp)
    rw [show(rc .ready none).pending=none by rw [hrc]] at hrun
    exact⟨none,_,hrun,hdone d _ (by omega) (sI _ W2 (d+1) _ _ (by omega) hl rfl hi) ((World.putObj_heap_other (by omega)).trans hk)⟩
   ·have hrun:=run_endLoop (P:=Tryz.prog) hl (by rw [hrc];simp)
    rw [show(rc .done (some c)).pending=some c by rw [hrc]] at hrun
    exact⟨some c,_,hrun,hstop d c _ (by omega) (sx c W2 (d+1) _ _ (by omega) hl rfl hx) ((World.putObj_heap_other (by omega)).trans hk)⟩
end Go.Proofs.YtpbnjakeielipaaGreatDoor
