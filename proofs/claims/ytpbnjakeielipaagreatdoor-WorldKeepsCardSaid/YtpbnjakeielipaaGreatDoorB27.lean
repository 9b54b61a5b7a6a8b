/-
  What the laws rest on, part 27: walks of the program's functions and plain laws. Conditions: none but those that each theorem names.
-/
import Derived.Test.YtpbnjakeielipaaGreatDoorB16
import Derived.Test.YtpbnjakeielipaaGreatDoorB18
import Derived.Laws.OwnMore
import Derived.WalkSmall
import Derived.Deep.Cut
import Derived.Deep.CutRange
import Derived.Deep.DeepCutAuto
import Derived.BigQuiet
import Derived.Deep.QuietTactic
import Derived.Test.YtpbnjakeielipaaGreatDoorB26
import Derived.Test.YtpbnjakeielipaaGreatDoorB19
import Derived.Test.YtpbnjakeielipaaGreatDoorB15
set_option linter.unusedSimpArgs false
set_option linter.unusedVariables false
set_option maxRecDepth 100000
set_option maxHeartbeats 2000000
namespace Go.Proofs.YtpbnjakeielipaaGreatDoor
open Go Go.RowKit Lib Go.Maps Go.Shelf
attribute [local go_sem] Oper.semAt_some
noncomputable def least (P:Nat→Prop):Nat:=Classical.epsilon fun m=>P m∧ ∀k,P k→m≤k
theorem least_ok {P:Nat→Prop} {m:Nat} (h:P m):P (least P)∧least P≤m:=by
 have: ∃m,P m∧ ∀k,P k→m≤k:=by
  have go: ∀n m,m≤n→P m→ ∃m,P m∧ ∀k,P k→m≤k:=by
   intro n
   induction n with
   |zero=>intro m hm hp;exact⟨m,hp,fun k _=>by omega⟩
   |succ n ih=>
    intro m hm hp
    by_cases hx: ∃k,P k∧k<m
    ·obtain⟨k,hk,hlt⟩:=hx
     exact ih k (by omega) hk
    ·exact⟨m,hp,fun k hk=>Nat.le_of_not_lt fun hlt=>hx ⟨k,hk,hlt⟩⟩
  exact go m m (Nat.le_refl _) h
 have h2:=Classical.epsilon_spec this
 exact⟨h2.1,h2.2 m h⟩
structure FrV where
 name:List UInt8
 pl:Nat
 next:Nat
def FrV.cells (f:FrV):List Value:= [.string ⟨f.name.toArray⟩, .int .i64 f.pl, .int .i64 f.next]
def FrOk (ts:List TyV) (f:FrV):Prop:=f.name∈tns ts∧ ∃t,ts[f.pl]?=some t∧f.next≤t.ifl.length
def frC (fr:List FrV):List Value:=fr.flatMap FrV.cells
theorem frC_len (fr:List FrV):(frC fr).length=fr.length*3:=by
 induction fr with
 |nil=>rfl
 |cons f fr ih=>unfold frC at ih⊢;rw [List.flatMap_cons,List.length_append,ih];simp [FrV.cells];omega
theorem frC_snoc (fr:List FrV) (f:FrV):frC (fr++ [f])=frC fr++f.cells:=by simp [frC]
structure Ovr (B bl bn g cap:Nat) (ts:List TyV) (s:ByteArray) (I:List Nat→World→Prop):Prop where
 tab: ∀F W,I F W→TabAt W g cap ts
 cl: ∀F W,I F W→W.cell? ⟨bl,0,none⟩=some (tabV g cap ts)
 cn: ∀F W,I F W→W.cell? ⟨bn,0,none⟩=some (.string s)
 sz: ∀F W,I F W→B≤W.heap.size
 fl: ∀F W,I F W→ ∀k∈F,k<W.heap.size
 st: ∀F W W' S,I F W→But W.heap.size S W W'→(∀k∈S,B≤k∧k∉F)→I F W'
structure OvS (B:Nat) (ts:List TyV) (I:List Nat→World→Prop) (cm:Nat) (v:Value) (W:World) (F:List Nat) (fr:List FrV) (cs:List (List UInt8)):Prop where
 inv:I F W
 cB:B≤cm
 cF:cm∉F
 map:MapS W Tryz.prog 9 cm cs.length (inNames cs) cs.length
 row:W.ownsRow (cm+1) 253 3 v fr.length (frC fr)
 rF: ∀q,v.ownBlock=some q→q∉F
 so:Some1 ts cs
 ok: ∀f∈fr,FrOk ts f
 le:fr.length≤cs.length
theorem OvS.but {B bl bn g cap cm:Nat} {ts:List TyV} {s:ByteArray} {I:List Nat→World→Prop} {v:Value} {W W':World} {F:List Nat} {fr:List FrV} {cs:List (List UInt8)} (H:Ovr B bl bn g cap ts s I) (h:OvS B ts I cm v W F fr cs) (hb:Below W.heap.size W W'):OvS B ts I cm v W' F fr cs:=
 ⟨H.st F W W' [] h.inv (But.of_below hb) (by simp),h.cB,h.cF,h.map.keep (hb.block _ h.map.lt),own_heap h.row fun q hq=>hb.block q (h.row.lt q hq).2,h.rF,h.so,h.ok,h.le⟩
theorem OvS.pop {B cm:Nat} {ts:List TyV} {I:List Nat→World→Prop} {g6 q6:Nat} {W:World} {F:List Nat} {fr:List FrV} {f:FrV} {cs:List (List UInt8)} (h:OvS B ts I cm (.slice (some ⟨g6,0,none⟩) (fr.length+1) q6) W F (fr++ [f]) cs):OvS B ts I cm (.slice (some ⟨g6,0,none⟩) fr.length q6) W F fr cs:=by
 have hr:=h.row
 rw [List.length_append,List.length_singleton,frC_snoc] at hr
 have hl:=h.le
 rw [List.length_append,List.length_singleton] at hl
 exact⟨h.inv,h.cB,h.cF,h.map,ownsRow_pop (frC_len fr) hr,h.rF,h.so,fun x hx=>h.ok x (by simp [hx]),by omega⟩
theorem OvS.body {B cm:Nat} {ts:List TyV} {I:List Nat→World→Prop} {v:Value} {W W':World} {F F':List Nat} {fr:List FrV} {cs:List (List UInt8)} (h:OvS B ts I cm v W F fr cs) (hi:I F' W') (hb:But W.heap.size F W W') (hF: ∀k∈F',k∈F∨W.heap.size≤k):OvS B ts I cm v W' F' fr cs:=
 ⟨hi,h.cB,fun hm=> (hF _ hm).elim h.cF fun hl=>absurd h.map.lt (by omega),h.map.but hb h.map.lt h.cF,own_heap h.row fun q hq=>hb.block q (h.row.lt q hq).2 (h.rF q hq),
  fun q hq hm=> (hF _ hm).elim (h.rF q hq) fun hl=>absurd (h.row.lt q hq).2 (by omega),h.so,h.ok,h.le⟩
theorem frC_set (fr:List FrV) (nm:List UInt8) (pl nx nx':Nat):(frC fr++FrV.cells ⟨nm,pl,nx⟩).set (fr.length*3+2) (.int .i64 nx')=frC fr++FrV.cells ⟨nm,pl,nx'⟩:=by
 rw [←frC_len fr,List.set_append_right _ _ (by omega)]
 simp [FrV.cells]
theorem OvS.next {B bl bn g cap cm:Nat} {ts:List TyV} {s:ByteArray} {I:List Nat→World→Prop} {g6 q6:Nat} {W:World} {F:List Nat} {fr:List FrV} {cs:List (List UInt8)} {nm:List UInt8} {pl nx:Nat} {t:TyV} (H:Ovr B bl bn g cap ts s I)
  (h:OvS B ts I cm (.slice (some ⟨g6,0,none⟩) (fr.length+1) q6) W F (fr++ [⟨nm,pl,nx⟩]) cs) (ht:ts[pl]?=some t) (hx:nx<t.ifl.length):OvS B ts I cm (.slice (some ⟨g6,0,none⟩) (fr.length+1) q6) (W.setCell ⟨g6,fr.length*3+2,none⟩ (.int .i64 (nx+1:Nat))) F (fr++ [⟨nm,pl,nx+1⟩]) cs:=by
 have hr:=h.row
 rw [List.length_append,List.length_singleton,frC_snoc] at hr
 have hg:=(hr.lt g6 rfl).1
 have hc:=h.cB
 obtain⟨h1,h2⟩:=hr.stored (fr.length*3+2) (.int .i64 (nx+1:Nat))
 rw [frC_set] at h1
 have hb:=but_grown h2
 refine⟨H.st F W _ [g6] h.inv hb (fun k hk=>by simp at hk;subst hk;exact⟨by omega,h.rF _ rfl⟩),h.cB,h.cF,h.map.but hb h.map.lt (by simp;omega), ?_,h.rF,h.so,fun x hx'=> ?_, ?_⟩
 ·rw [List.length_append,List.length_singleton,frC_snoc]
  exact h1
 ·rcases List.mem_append.1 hx' with hx'|hx'
  ·exact h.ok x (by simp [hx'])
  ·simp at hx'
   subst hx'
   exact⟨(h.ok ⟨nm,pl,nx⟩ (by simp)).1,t,ht,hx⟩
 ·have:=h.le
  simpa using this
theorem OvS.came {B bl bn g cap cm:Nat} {ts:List TyV} {s:ByteArray} {I:List Nat→World→Prop} {v:Value} {W W':World} {F:List Nat} {fr:List FrV} {cs:List (List UInt8)} {x:List UInt8} (H:Ovr B bl bn g cap ts s I) (h:OvS B ts I cm v W F fr cs) (hx:x∈tns ts) (hn:x∉cs)
  (hm:MapS W' Tryz.prog 9 cm (cs.length+1) (putF (inNames cs) x (.int .i64 1)) (if(inNames cs x).isSome then cs.length else cs.length+1)) (hg:W.grownBy W' (some cm)):OvS B ts I cm v W' F fr (cs++ [x]):=by
 have hb:=but_grown hg
 refine⟨H.st F W W' [cm] h.inv hb (fun k hk=>by simp at hk;subst hk;exact⟨h.cB,h.cF⟩),h.cB,h.cF, ?_,own_heap h.row fun q hq=>hb.block q (h.row.lt q hq).2 (by have:=(h.row.lt q hq).1;simp;omega),h.rF,h.so.snoc hn hx,h.ok,by rw [List.length_append,List.length_singleton];exact Nat.le_succ_of_le h.le⟩
 rw [inNames_out hn,inNames_snoc] at hm
 rw [List.length_append,List.length_singleton]
 exact hm
theorem OvS.push {B bl bn g cap cm:Nat} {ts:List TyV} {s:ByteArray} {I:List Nat→World→Prop} {g6 q6 g8 q8:Nat} {W W':World} {F:List Nat} {fr:List FrV} {f:FrV} {cs:List (List UInt8)} {x:List UInt8} {k2:Nat} {t2:TyV} {o:Obj} (H:Ovr B bl bn g cap ts s I)
  (h:OvS B ts I cm (.slice (some ⟨g6,0,none⟩) (fr.length+1) q6) W F (fr++ [f]) (cs++ [x])) (ht:ts[k2]?=some t2) (hle:fr.length+1≤cs.length) (ho:W'.ownsRow (cm+1) 253 3 (.slice (some ⟨g8,0,none⟩) (fr.length+1+1) q8) (fr.length+1+1) (frC (fr++ [f])++FrV.cells ⟨x,k2,0⟩))
  (hg:(W.alloc o).grownBy W' (Value.slice (some ⟨g6,0,none⟩) (fr.length+1) q6).ownBlock) (hb:Below (cm+1) (W.alloc o) W') (hgg:(Value.slice (some ⟨g6,0,none⟩) (fr.length+1) q6).ownBlock=some g8∨(W.alloc o).heap.size≤g8):
  OvS B ts I cm (.slice (some ⟨g8,0,none⟩) (fr.length+1+1) q8) W' F (fr++ [f]++ [⟨x,k2,0⟩]) (cs++ [x]):=by
 have hc:=h.cB
 have hr:=(h.row.lt g6 rfl).1
 have hbb:But W.heap.size [g6] W W':=(But.of_below ((Below.refl W.heap.size W).alloc (Nat.le_refl _) o)).grown hg (by simp) (fun k hk=> .inl (by simp only [Value.ownBlock,Option.some.injEq] at hk;simp [hk]))
 refine⟨H.st F W W' [g6] h.inv hbb (fun k hk=>by simp at hk;subst hk;exact⟨by omega,h.rF _ rfl⟩),hc,h.cF,h.map.but hbb h.map.lt (by simp;omega), ?_,fun q hq hm=> ?_,h.so,fun y hy=> ?_, ?_⟩
 ·rw [List.length_append,List.length_append,List.length_singleton,List.length_singleton,frC_snoc]
  exact ho
 ·simp only [Value.ownBlock,Option.some.injEq] at hq hgg
  subst hq
  rcases hgg with rfl|hgg
  ·exact h.rF _ rfl hm
  ·have:=H.fl F W h.inv _ hm
   simp at hgg
   omega
 ·rcases List.mem_append.1 hy with hy|hy
  ·exact h.ok y hy
  ·simp at hy
   subst hy
   exact⟨h.so.2 x (by simp),t2,ht,Nat.zero_le _⟩
 ·simp only [List.length_append,List.length_singleton]
  omega
def OvM (B:Nat) (ts:List TyV) (I:List Nat→World→Prop) (cm:Nat) (v:Value) (W:World) (m:Nat):Prop:=
 ∃F fr cs,OvS B ts I cm v W F fr cs∧m=2*(ts.length+1 - cs.length)+fr.length
theorem info_frame:(Tryz.prog.info? 253).map (fun i=> (i.zero,i.size,i.bytes))=some (some (.agg #[.string ⟨#[]⟩, .int .i64 0, .int .i64 0]),3,32):=by kernel_rfl
def nextAt (W:World) (g o:Nat):Nat:=match W.cell? ⟨g,o,none⟩ with
 |some (.int _ i)=>i.toNat
 |_=>0
theorem nextAt_set (W:World) (g o n:Nat) {u:Value} (h:W.cell? ⟨g,o,none⟩=some u):nextAt (W.setCell ⟨g,o,none⟩ (.int .i64 (n:Nat))) g o=n:=by
 unfold nextAt
 rw [World.cell?_setCell_same' _ _ _ (by rw [h];rfl)]
 simp
theorem over_gives (n l B bl bn g cap:Nat) (hn:1≤n) (ts:List TyV) (s:ByteArray) (hs:s.size≤1048576) (I:List Nat→World→Prop) (Jx:World→Prop) (h:Ovr B bl bn g cap ts s I)
  (hY: ∀F W (x:ByteArray),x.data.toList∈tns ts→I F W→YieldAt Fence.wide (n - 1) Tryz.prog l #[.string x] W fun e W'=> (e= .returned (.bool true)∧ ∃F',I F' W'∧But W.heap.size F W W'∧ ∀k∈F',k∈F∨W.heap.size≤k)∨(e= .returned (.bool false)∧Jx W'))
  (F:List Nat) (W:World) (h0:I F W):
  CallsIn Fence.wide n Tryz.prog 117 #[.func (.yield l) #[] #[], .pointer (some ⟨bl,0,none⟩), .pointer (some ⟨bn,0,none⟩)] W fun e W'=> (∃v,e= .returned v)∧((∃F',I F' W')∨Jx W'):=by
 have H:=Lib.hid h
 have HI:=Lib.hid h0
 have cl:=h.cl F W h0
 have cn:=h.cn F W h0
 have HT:=Lib.hid (h.tab F W h0)
 have HTs:=HT.out.le
 have hmm:= @run_makeMap Tryz.prog
 unfold tabV at cl
 clear h h0
 refine callsIn_of_wp Tryz.func117 rfl trivial ?_ rfl
 simp only [Tryz.ntmps117,List.size_toArray,List.length_cons,List.length_nil,Nat.reduceAdd,Nat.reduceSub,Array.replicate_succ,Array.replicate_zero,List.push_toArray,List.append_toArray,List.nil_append,List.cons_append]
 refine wpIn_wide.2 ?_
 rcases atOf_cases ts s.toList with⟨ha,hno⟩ | ⟨k,t,ha,hk,hn⟩
 ·have HA:=Lib.hid (tab_at HT.out s)
  rw [ha] at HA
  unfold tabV at HA
  go_step3
  go_wp2_with (go_at_call 45;refine HA.out.mono ?_;rintro e w1 ⟨rfl,rfl⟩)
  rw [Exit.noGoto_ret]
  refine bodyPost_ret (results_none rfl _ _ _) rfl ?_
  exact⟨⟨_,rfl⟩, .inl ⟨F,HI.out⟩⟩
 ·have hlt:=(List.getElem?_eq_some_iff.1 hk).1
  have HA:=Lib.hid (tab_at HT.out s)
  rw [ha] at HA
  unfold tabV at HA
  have hn2:t.name=s.data.toList:=by rw [hn,ByteArray.toList_eq]
  have HS:=Lib.hid (show Some1 ts [s.data.toList] from⟨by simp,fun c hc=>by simp at hc;subst hc;exact hn2▸mem_tns hk⟩)
  have HK:=Lib.hid hk
  have HM:=Lib.hid (mapS_made W Tryz.prog 9)
  have hbn:=cells_lt cn
  have cn1:=(World.cell?_alloc_lt W (.map #[] 0) ⟨bn,0,none⟩ hbn).trans cn
  have HB0:=Lib.hid ((Below.refl W.heap.size W).alloc (Nat.le_refl _) (.map #[] 0))
  obtain⟨w1,hins,hm1,hg1⟩:=HM.out.store Tryz.underlying9 Tryz.underlying69 (by decide) (s:=s) (by unfold maxLen;omega) (.int .i64 1)
  have HM1:=Lib.hid (show MapS w1 Tryz.prog 9 W.heap.size [s.data.toList].length (inNames [s.data.toList]) [s.data.toList].length from by
   have h:=hm1
   rw [show(fun _:List UInt8=> (none:Option Value))=inNames [] by funext x;simp [inNames],inNames_snoc] at h
   exact h)
  have HB1:=Lib.hid ((But.of_below HB0.out:But W.heap.size [] W _).grown hg1 (by simp) (fun q hq=>by cases hq;exact .inr (Nat.le_refl _)))
  have hz1:=HB1.out.size
  have hlt1:=HM1.out.lt
  have cn2:=(HB1.out.cell (p:=⟨bn,0,none⟩) hbn (by simp)).trans cn
  clear ha hk hn hn2 hm1 hg1
  go_step3
  go_wp2_with (go_at_call 45;refine HA.out.mono ?_;rintro e w1 ⟨rfl,rfl⟩)
  have HB2:=Lib.hid (HB1.out.trans (But.of_below ((Below.refl W.heap.size w1).alloc hz1 (.cells #[.string s, .int .i64 k, .int .i64 0] 253))))
  have HS0:=Lib.hid (show OvS B ts I W.heap.size (.slice (some ⟨w1.heap.size,0,none⟩) 1 1) (w1.alloc (.cells #[.string s, .int .i64 k, .int .i64 0] 253)) F [⟨s.data.toList,k,0⟩] [s.data.toList] from
   ⟨H.out.st F W _ [] HI.out HB2.out (by simp),H.out.sz F W HI.out,fun hm=>absurd (H.out.fl F W HI.out _ hm) (Nat.lt_irrefl _),HM1.out.keep (((Below.refl _ w1).alloc (Nat.le_refl _) _).block _ hlt1),World.ownsRow_lit w1 #[.string s, .int .i64 k, .int .i64 0] 1 hlt1 (by decide) rfl,
    fun q hq hm=>by have:=H.out.fl F W HI.out _ hm;simp [Value.ownBlock] at hq;omega,HS.out,fun f hf=>by simp at hf;subst hf;exact⟨HS.out.2 _ (by simp),t,HK.out,Nat.zero_le _⟩,Nat.le_refl _⟩)
  clear HB0 HB1 HB2 HM HM1 HA HT HS hins cn2 hlt1
  generalize w1.alloc (.cells #[.string s, .int .i64 k, .int .i64 0] 253)=w2 at*
  go_step3
  go_wp2_with fail
  go_loopw [6] (fun v6 wr=> ∃v m,v=v6∧Hid (OvM B ts I W.heap.size v wr m)) (fun v6 wr=>least (OvM B ts I W.heap.size v6 wr))
  case atStart=>exact⟨_,_,rfl,Lib.hid ⟨F,_,_,HS0.out,rfl⟩⟩
  case round=>
   obtain⟨v,m0,rfl,HM0⟩:=hrel
   obtain⟨⟨F1,fr,cs,HS1,hm⟩,hle⟩:=least_ok HM0.out
   have HLE:=Lib.hid hle
   have HMM:=Lib.hid hm
   clear HM0 hle hm
   rcases List.eq_nil_or_concat fr with rfl| ⟨fr,f,rfl⟩
   ·have hrow:wr.ownsRow (W.heap.size+1) 253 3 v 0 []:=HS1.row
    have HI1:=Lib.hid HS1.inv
    obtain⟨A6,q6,rfl,hq6⟩:=own_cap hrow
    clear HS1 hrow
    go_wp2_with fail
    rw [Exit.noGoto_normal]
    refine bodyPost_end (results_none rfl _ _ _) rfl ⟨⟨_,rfl⟩, .inl ⟨F1,HI1.out⟩⟩
   ·rw [List.concat_eq_append] at HS1 HMM
    have hfl:(fr++ [f]).length=fr.length+1:=by simp
    obtain⟨g6,q6,rfl,hg6,hg6l⟩:=HS1.row.form (by omega)
    have hq6:fr.length+1≤q6:=by
     obtain⟨A,q,e,hq⟩:=own_cap HS1.row
     cases e
     omega
    rw [hfl] at HMM⊢
    have HS2:=Lib.hid (show OvS B ts I W.heap.size (.slice (some ⟨g6,0,none⟩) (fr.length+1) q6) wr F1 (fr++ [⟨f.name,f.pl,f.next⟩]) cs from hfl▸HS1)
    obtain⟨hnm,t1,ht1,hnx⟩:=HS1.ok f (by simp)
    have HNM:=Lib.hid hnm
    have hfr:fr.length+1≤1000:=by have:=HS1.le;have:=HS1.so.len;have:=HTs;omega
    have HT1:=Lib.hid ht1
    clear HS1 ht1 hnm
    go_wp2_with fail
    go_loopw [6,8] (fun v6 v8 wr=>v6= .slice (some ⟨g6,0,none⟩) (fr.length+1) q6∧ ∃nx:Nat,nx≤t1.ifl.length∧Hid (OvS B ts I W.heap.size (.slice (some ⟨g6,0,none⟩) (fr.length+1) q6) wr F1 (fr++ [⟨f.name,f.pl,nx⟩]) cs)) (fun v6 v8 wr=>t1.ifl.length - nextAt wr g6 (fr.length*3+2))
    case atStart=>exact⟨rfl,f.next,hnx,HS2⟩
    case round=>
     obtain⟨rfl,nx,hnx2,HS3⟩:=hrel
     have hrow:=HS3.out.row
     rw [List.length_append,List.length_singleton,frC_snoc] at hrow
     have hcl:=frC_len fr
     have f0:wr.cell? ⟨g6,fr.length*3,none⟩=some (.string ⟨f.name.toArray⟩):=(hrow.cellAt _ (by omega)).trans (by rw [List.getElem?_append_right (by omega),hcl];simp [FrV.cells])
     have f1:wr.cell? ⟨g6,fr.length*3+1,none⟩=some (.int .i64 f.pl):=(hrow.cellAt _ (by omega)).trans (by rw [List.getElem?_append_right (by omega),hcl];simp [FrV.cells])
     have f2:wr.cell? ⟨g6,fr.length*3+2,none⟩=some (.int .i64 nx):=(hrow.cellAt _ (by omega)).trans (by rw [List.getElem?_append_right (by omega),hcl];simp [FrV.cells])
     have z2:=hrow.frozenAt (fr.length*3+2)
     have cl3:=H.out.cl F1 wr HS3.out.inv
     have HT3:=Lib.hid (H.out.tab F1 wr HS3.out.inv)
     have c3:=HT3.out.c3 HT1.out
     obtain⟨hif,_,_⟩:=HT3.out.rd t1 (List.mem_of_getElem? HT1.out)
     obtain⟨Ai,qi,hie,hqi,_⟩:=sl_len hif
     rw [hie] at hif c3
     have HIF:=Lib.hid hif
     have hpl:=(List.getElem?_eq_some_iff.1 HT1.out).1
     unfold tabV at cl3
     clear hrow hif hie
     by_cases hnl:nx<t1.ifl.length
     ·obtain⟨sn,hsn⟩: ∃sn,t1.ifl[nx]?=some sn:=⟨_,List.getElem?_eq_getElem hnl⟩
      obtain⟨bi,oi,rfl,hbi,ci⟩:=srow_cells HIF.out nx sn hsn
      have hsm:=(HT3.out.sm t1 (List.mem_of_getElem? HT1.out)).2.2 sn (List.mem_of_getElem? hsn)
      clear hsn
      go_wp2_with fail
      go_quiet (fail)
      revert nq
      intro n1
      go_wp2_with fail
      go_quiet (fail)
      revert nq
      intro n2
      go_upto_region 9 with fail
      have HBd:=below_drewN (Below.refl wr.heap.size wr) (n1+n2)
      have HS6:=Lib.hid ((HS3.out.but H.out HBd).next H.out HT1.out hnl)
      have hnx6:=Lib.hid (nextAt_set (wr.drewN (n1+n2)) g6 (fr.length*3+2) (nx+1) ((HBd.cell (p:=⟨g6,fr.length*3+2,none⟩) (cells_lt f2)).trans f2))
      have hnx5:=Lib.hid (show nextAt wr g6 (fr.length*3+2)=nx by unfold nextAt;rw [f2];simp)
      have hcast:(Value.int .i64 ((nx:Int)+1))= .int .i64 ((nx+1:Nat):Int):=by simp
      rw [hcast]
      generalize (wr.drewN (n1+n2)).setCell ⟨g6,fr.length*3+2,none⟩ (.int .i64 ((nx+1:Nat):Int))=w6 at*
      have cl6:=H.out.cl F1 w6 HS6.out.inv
      unfold tabV at cl6
      have HT6:=Lib.hid (tab_at (H.out.tab F1 w6 HS6.out.inv) ⟨sn.toArray⟩)
      unfold tabV at HT6
      clear HBd hcast f0 f1 f2 z2 c3 ci cl3
      rcases atOf_cases ts sn with⟨ha,hno⟩ | ⟨k2,t2,ha,hk2,hn2⟩
      ·rw [show(⟨sn.toArray⟩:ByteArray).toList=sn by simp [ByteArray.toList_eq],ha] at HT6
       clear ha hno
       go_wp2_with (go_at_call 45;refine HT6.out.mono ?_;rintro e w7 ⟨rfl,rfl⟩)
       exact⟨⟨rfl,nx+1,hnl,HS6⟩,by rw [hnx6.out,hnx5.out];omega⟩
      ·rw [show(⟨sn.toArray⟩:ByteArray).toList=sn by simp [ByteArray.toList_eq],ha] at HT6
       clear ha
       by_cases hin:sn∈cs
       ·have hlk:=get_in HS6.out.map (s:=⟨sn.toArray⟩) (by simpa [ByteArray.size] using hsm) hin
        clear hin hk2 hn2
        go_wp2_with (go_at_call 45;refine HT6.out.mono ?_;rintro e w7 ⟨rfl,rfl⟩)
        exact⟨⟨rfl,nx+1,hnl,HS6⟩,by rw [hnx6.out,hnx5.out];omega⟩
       ·have hlk:=get_out HS6.out.map (s:=⟨sn.toArray⟩) (by simpa [ByteArray.size] using hsm) hin
        have hlts:=HS6.out.so.len
        have hle6:=HS6.out.le
        rw [List.length_append,List.length_singleton] at hle6
        obtain⟨w7,hput,hm7,hg7⟩:=HS6.out.map.store Tryz.underlying9 Tryz.underlying69 (by unfold maxLen;omega) (s:=⟨sn.toArray⟩) (by unfold maxLen;simp only [ByteArray.size];simpa using (by omega:sn.length≤9223372036854775807)) (.int .i64 1)
        have HS7:=Lib.hid (HS6.out.came H.out (hn2▸mem_tns hk2) hin hm7 hg7)
        have HK2:=Lib.hid hk2
        clear hin hk2 hn2 hm7 hg7
        go_wp2_with (first
         | (go_at_call 45;refine HT6.out.mono ?_;rintro e w8 ⟨rfl,rfl⟩)
         | (at_builtin;refine stop_here ?_))
        have hr7:=HS7.out.row
        rw [List.length_append,List.length_singleton] at hr7
        refine go_on ?_
        refine wpl_lies rfl _ _ 254 rfl Tryz.underlying254 info_frame rfl (by omega) (W.heap.size+1) rfl (hr7.alloc _) rfl rfl (fun _=> ⟨_,rfl,cells_new_at _ _ _ _ (by simp)⟩) (by simp [Value.oneCell']) (by omega) (by simp only [maxLen];omega) (by omega) (by have:=HS7.out.map.lt;simp;omega) ?_
        intro g8 q8 w8 ho hg hb8 hgg hlt8
        have HS8:=Lib.hid (HS7.out.push H.out HK2.out hle6 ho hg hb8 (hgg.imp id fun e=>Nat.le_of_eq e.symm))
        clear ho hg hb8 hgg hlt8 hr7
        go_wp2_with fail
        refine⟨⟨_,_,rfl,Lib.hid ⟨F1,_,_,HS8.out,rfl⟩⟩, ?_⟩
        have h1:=(least_ok (P:=OvM B ts I W.heap.size (.slice (some ⟨g8,0,none⟩) (fr.length+1+1) q8) w8) ⟨F1,_,_,HS8.out,rfl⟩).2
        have h2:=HMM.out
        have h3:=HS7.out.so.len
        simp only [List.length_append,List.length_singleton] at h1 h3
        omega
     ·obtain rfl:nx=t1.ifl.length:=by omega
      go_wp2_with fail
      go_quiet (fail)
      have HBd:=Lib.hid (below_drewN (Below.refl wr.heap.size wr) nq)
      have HS4:=Lib.hid (HS3.out.but H.out HBd.out)
      have HS5:=Lib.hid (HS4.out.pop)
      have f05:=(HBd.out.cell (p:=⟨g6,fr.length*3,none⟩) (cells_lt f0)).trans f0
      generalize wr.drewN nq=w5 at*
      rcases Nat.lt_or_ge 0 fr.length with hpos|hneg
      rotate_left
      ·obtain rfl:fr= []:=List.eq_nil_of_length_eq_zero (by omega)
       have f06:w5.cell? ⟨g6,0,none⟩=some (.string ⟨f.name.toArray⟩):=by simpa using f05
       simp only [List.length_nil,Nat.zero_mul,Nat.zero_add]
       go_wp2_with fail
       have h5:OvS B ts I W.heap.size (.slice (some ⟨g6,0,none⟩) 0 q6) w5 F1 [] cs:=HS5.out
       refine⟨⟨_,_,rfl,Lib.hid ⟨F1, [],cs,h5,rfl⟩⟩, ?_⟩
       have h1:=(least_ok (P:=OvM B ts I W.heap.size (.slice (some ⟨g6,0,none⟩) 0 q6) w5) ⟨F1, [],cs,h5,rfl⟩).2
       have h2:=HMM.out
       simp only [List.length_nil] at h1 h2⊢
       omega
      ·go_upto_region 15 with fail
       refine(wpIn_wide (n:=n)).1 ?_
       obtain⟨fn,tmps,assign,body,hy,hR⟩:=hY F1 w5 ⟨f.name.toArray⟩ (by simpa using HNM.out) HS5.out.inv
       have HR:=Lib.hid hR
       clear hR
       gi_wp2
       refine HR.out.mono ?_
       rintro e W3 (⟨rfl,F3,hi3,hb3,hF3⟩ | ⟨rfl,hx⟩)
       ·have HS6:=Lib.hid (HS5.out.body hi3 hb3 hF3)
        clear hi3 hb3 hF3 hy HR
        gi_wp2
        go_wp2_with fail
        refine⟨⟨_,_,rfl,Lib.hid ⟨F3,fr,cs,HS6.out,rfl⟩⟩, ?_⟩
        have h1:=(least_ok (P:=OvM B ts I W.heap.size (.slice (some ⟨g6,0,none⟩) fr.length q6) W3) ⟨F3,fr,cs,HS6.out,rfl⟩).2
        have h2:=HMM.out
        omega
       ·have HX:=Lib.hid hx
        clear hx hy HR
        gi_wp2
        go_wp2_with fail
        rw [Exit.noGoto_ret]
        refine bodyPost_ret (results_none rfl _ _ _) rfl ?_
        exact⟨⟨_,rfl⟩, .inr HX.out⟩
end Go.Proofs.YtpbnjakeielipaaGreatDoor
set_option maxHeartbeats 4000000
namespace Go.Proofs.YtpbnjakeielipaaGreatDoor
open Go Go.RowKit Lib Go.Maps
def WdAt (B:Nat) (p:WPos) (L:LPos) (v:Value) (x:WSt) (T:Nat) (W:World):Prop:= ∃k,k≤x.σ.ts.length∧WdK B p L v x k (k*1048576) T W
theorem WdK.lload {B:Nat} {p:WPos} {L:LPos} {v:Value} {x:WSt} {k N T:Nat} {W:World} (h:WdK B p L v x k N T W) (s:ByteArray) (hs:s.size≤9223372036854775807):
  Calls Tryz.prog 21 #[.pointer (some ⟨L.lb,0,none⟩), .string s] W fun e W'=>e= .returned (.string (x.σ.says s))∧ ∃v',WdK B p L v' (x.load s) k N T W'∧WFr B p L v x W L v' (x.load s) W':=by
 refine(h.ld.load s hs h.B0 h.gl).mono ?_
 rintro e W' ⟨rfl,X,v',hl,hf⟩
 exact⟨rfl,v',h.turn hl.lessEx (h.ok.load s) rfl (fun g hg=>hg) hf.bel (fun g hg=>hf.blk g (h.exlt hg) (h.frp hg)),hf.bel,fun g hg ho=> ⟨⟨hf.fr g hg ho.1,ho.2.1,ho.2.2⟩,hf.blk g hg ho.1⟩⟩
theorem loadLen {x:WSt} (s:ByteArray):x.σ.ts.length≤(x.load s).σ.ts.length:=by
 show _≤(loadP (rdD checkF x.σ.D) 65 [] ⟨x.σ.ts,x.σ.F⟩ s).2.ts.length
 exact load_ind _ (fun s c t hr=> (rdD_pool hr).2) (fun σ=>x.σ.ts.length≤σ.ts.length) (fun σ s c t h hr hs=>by show _≤(σ.ts++ [t.key]).length;simp;omega) 65 [] ⟨x.σ.ts,x.σ.F⟩ s (Nat.le_refl _)
theorem WdK.moreN {B:Nat} {p:WPos} {L:LPos} {v:Value} {x:WSt} {k N T:Nat} {W:World} (h:WdK B p L v x k N T W) {N':Nat} (hN:N≤N'):WdK B p L v x k N' T W:=by
 obtain⟨F,n,s1,s2⟩:=h.st
 exact{ h with st:=⟨F,n,Nat.le_trans s1 hN,s2⟩ }
theorem val_cells {w:World} {ok:Nat→Prop} {fs:List VluV} {n:Nat} {A:Option Addr} {cap:Nat} (h:SlAt w ok 2 n (valC fs) (.slice A n cap)) (hn:fs.length=n) (k:Nat) (x:VluV) (hk:fs[k]?=some x): ∃b off,A=some ⟨b,off,none⟩∧b<w.heap.size∧
  w.cell? ⟨b,off+k*2,none⟩=some (.bool x.ref)∧w.cell? ⟨b,off+k*2+1,none⟩=some (.int .i64 x.num):=by
 subst hn
 obtain⟨A',cap',e,_,_,_,h5⟩:=h
 cases e
 obtain⟨b,off,e,hlt,hok,hc⟩:=h5 (by have:=(List.getElem?_eq_some_iff.1 hk).1;omega)
 have hr:=rows_at VluV.cells 2 (fun _=>rfl) fs k x hk
 exact⟨b,off,e,hlt,hc _ _ ((hr 0 (by omega)).trans rfl),hc _ _ ((hr 1 (by omega)).trans rfl)⟩
theorem wload_any {B:Nat} {p:WPos} {L:LPos} {v:Value} {x:WSt} {T:Nat} {W:World} (h:WdAt B p L v x T W) (s:ByteArray) (hs:s.size≤9223372036854775807):
  Calls Tryz.prog 8 #[.pointer (some ⟨p.wb,0,none⟩), .string s] W fun e w'=>e= .returned (.string (x.σ.says s))∧ ∃v',WdAt B p L v' (x.load s) T w'∧WFr B p L v x W L v' (x.load s) w':=by
 obtain⟨k0,hk0,h⟩:=h
 have c0:=h.bx.cell 0 rfl
 have HL:=Lib.hid (h.lload s hs)
 have hlen:=loadLen (x:=x) s
 obtain⟨x1,hx1⟩: ∃x1,x.load s=x1:=⟨_,rfl⟩
 rw [hx1] at HL hlen⊢
 obtain⟨ans,hans⟩: ∃a,x.σ.says s=a:=⟨_,rfl⟩
 rw [hans] at HL⊢
 clear h hx1 hans
 go_enter Tryz.func8,Tryz.ntmps8
 go_wp2_with (go_at_call 21;refine HL.out.mono ?_;rintro e w1 ⟨rfl,v1,h1,hf1⟩;refine stop_here ?_)
 have c0:=h1.bx.cell 0 rfl
 obtain⟨g,cap,ts0,hv,hkey,hT0,hc4⟩:=h1.ld.tab h1.ok.sm
 have HTab:=Lib.hid (table_any L.lb (tabV g cap ts0) ⟨_,_,_,rfl⟩ w1 hc4)
 have hn0:ts0.length=x1.σ.ts.length:=by rw [←hkey,List.length_map]
 have hle:=hT0.le
 have hcap:=hT0.cap
 have hgl:=hT0.lt
 unfold tabV at HTab hv
 rw [hn0] at HTab hv hle hcap
 have H1:=Lib.hid h1
 have HF1:=Lib.hid hf1
 have HV:=Lib.hid hv
 clear h1 hf1 hT0 hc4 hkey hv hn0
 refine go_on ?_
 go_wp2_with (go_at_call 22;refine HTab.out.mono ?_;rintro e w2 ⟨rfl,rfl⟩)
 go_loopw [] (fun wr=> ∃k,k≤x1.σ.ts.length∧Hid (WdK B p L v1 x1 k (k*1048576) T wr)∧Hid (WFr B p L v1 x1 w1 L v1 x1 wr)) (fun wr=>x1.σ.ts.length - nextAt wr p.wb 4)
 case atStart=>exact⟨k0,Nat.le_trans hk0 hlen,H1,Lib.hid ⟨Below.refl _ _,fun g hg ho=> ⟨ho,rfl⟩⟩⟩
 case round=>
  obtain⟨k,hk,HK,HF⟩:=hrel
  have c4:=HK.out.bx.cell 4 rfl
  have hwl:=HK.out.wlt
  have HN4:=Lib.hid (show nextAt wr p.wb 4=k by unfold nextAt;rw [c4];simp)
  by_cases hlt:k<x1.σ.ts.length
  ·obtain⟨g',cap',ts,hv,hkey,hT,_⟩:=HK.out.ld.tab HK.out.ok.sm
   have hn0:ts.length=x1.σ.ts.length:=by rw [←hkey,List.length_map]
   rw [HV.out] at hv
   unfold tabV at hv
   injection hv with e1 e2 e3
   injection e1 with e1
   injection e1 with e1
   subst e1 e3
   clear e2
   obtain⟨t,ht⟩: ∃t,ts[k]?=some t:=⟨_,List.getElem?_eq_getElem (by omega)⟩
   have b0:=hT.c0 ht
   have b1:=hT.c1 ht
   have b2:=hT.c2 ht
   have b3:=hT.c3 ht
   have b4:=hT.c4 ht
   have b5:=hT.c5 ht
   obtain⟨r1,r2,r3⟩:=hT.rd t (List.mem_of_getElem? ht)
   have hsm:=(hT.sm t (List.mem_of_getElem? ht)).1
   obtain⟨A1,q1,e1,_,_⟩:=sl_len r1
   obtain⟨A2,q2,e2,_,m2⟩:=sl_len r2
   obtain⟨A3,q3,e3,_,_⟩:=sl_len r3
   have HBa:=Lib.hid ((Below.refl wr.heap.size wr).alloc (Nat.le_refl _) (.cells #[.string ⟨t.name.toArray⟩, .string ⟨t.sup.toArray⟩, .int .i64 t.acc,t.ifs,t.flds,t.mths] 75))
   have Xt:=Lib.hid (bx_new wr [.string ⟨t.name.toArray⟩, .string ⟨t.sup.toArray⟩, .int .i64 t.acc,t.ifs,t.flds,t.mths] 75)
   have HS:=Lib.hid (statics_any t _ (r2.keep (kept_any HBa.out)))
   have HKa:=Lib.hid (HK.out.below HBa.out)
   rw [e1] at b3 HBa Xt HS HKa
   rw [e2] at b4 HBa Xt HS HKa
   rw [e3] at b5 HBa Xt HS HKa
   have x0:=Xt.out.cell 0 rfl
   have x1':=Xt.out.cell 1 rfl
   have x2:=Xt.out.cell 2 rfl
   have x3:=Xt.out.cell 3 rfl
   have x4:=Xt.out.cell 4 rfl
   have x5:=Xt.out.cell 5 rfl
   have hza:(wr.alloc (.cells #[.string ⟨t.name.toArray⟩, .string ⟨t.sup.toArray⟩, .int .i64 t.acc, .slice A1 t.ifl.length q1, .slice A2 t.fl.length q2, .slice A3 t.ml.length q3] 75)).heap.size=wr.heap.size+1:=by simp
   have HN0:=Lib.hid hn0
   clear hT ht r1 r2 r3 e1 e2 e3 hkey hn0 hza
   go_wp2_with (go_at_call 23;refine HS.out.mono ?_;rintro e w3 ⟨vr,rfl,hvr⟩;refine stop_here ?_)
   generalize wr.alloc (.cells #[.string ⟨t.name.toArray⟩, .string ⟨t.sup.toArray⟩, .int .i64 t.acc, .slice A1 t.ifl.length q1, .slice A2 t.fl.length q2, .slice A3 t.ml.length q3] 75)=wa at*
   obtain⟨vs,hvs,hsl⟩:=hvr.sl
   obtain⟨Av,qv,rfl,hqv,_⟩:=sl_len hsl
   have HK3:=Lib.hid (HKa.out.below hvr.bel)
   have HB3:=Lib.hid (HBa.out.trans (hvr.bel.mono HBa.out.size))
   have Xt3:=Lib.hid (Xt.out.below hvr.bel Xt.out.lt)
   have HSL:=Lib.hid hsl
   have hz3:=hvr.bel.size
   clear hvr hsl x0 x1' x2 x3 x4 x5 b0 b1 b2 b3 b4 b5 HS c4
   refine go_on ?_
   obtain⟨K,hKK⟩: ∃K,k*1048576=K:=⟨_,rfl⟩
   have hKl:K≤1048576000:=by omega
   have hKn:K+t.fl.length≤(k+1)*1048576:=by omega
   have hk3:=HK3.out
   rw [hKK] at hk3
   have HK3':=Lib.hid (show WdK B p L v1 x1 k (K+0) T w3 from hk3)
   clear hKK hk3
   go_wp2_with fail
   obtain⟨G,hG⟩: ∃G,wr.heap.size=G:=⟨_,rfl⟩
   try rw [hG] at Xt3
   try rw [hG]
   have hG3:G<w3.heap.size:=Xt3.out.lt
   have HFG:=Lib.hid (show WFr B p L v1 x1 w1 L v1 x1 w3∧G=G from⟨HF.out.trans (WFr.of_below HK.out.Ble HB3.out),rfl⟩)
   have hsG:p.sm<G:=by have:=HK.out.slt;omega
   clear hG
   have hB3s:=HK3.out.slt
   have hwa3:p.sm<wa.heap.size:=HKa.out.slt
   go_loopw [45] (fun iv wr=> ∃i:Nat,iv= .int .i64 i∧i≤t.fl.length∧Hid (WdK B p L v1 x1 k (K+i) T wr)∧Hid (But w3.heap.size [p.sm] w3 wr)) (fun iv wr=>t.fl.length - (RowKit.intOf iv).toNat)
   case atStart=>exact⟨0,rfl,by omega,HK3',Lib.hid (But.refl _ _ _)⟩
   case round=>
    obtain⟨i,rfl,hi,HI,HBI⟩:=hrel
    have hzi:=HBI.out.size
    have Xi:=Lib.hid (show Bx wr G _ _ from(HBI.out.block G hG3 (by simp;omega)).trans Xt3.out)
    by_cases hil:i<t.fl.length
    ·obtain⟨u,hu⟩: ∃u,vs[i]?=some u:=⟨_,List.getElem?_eq_getElem (by omega)⟩
     obtain⟨b,o,rfl,g1,a0,a1⟩:=val_cells (HSL.out.keep (Kept.of_but HBI.out fun q hq hm=>by simp at hm;omega)) hvs i u hu
     obtain⟨ur,un⟩:=u
     have HBu:=Lib.hid ((Below.refl wr.heap.size wr).alloc (Nat.le_refl _) (.cells #[.bool ur, .int .i64 un] 39))
     have HIu:=Lib.hid (HI.out.below HBu.out)
     have Xu:=Lib.hid (Xi.out.below HBu.out (by omega))
     have Yu:=Lib.hid (bx_new wr [.bool ur, .int .i64 un] 39)
     have d3:=HIu.out.bx.cell 3 rfl
     have x0:=Xu.out.cell 0 rfl
     have y0:=Yu.out.cell 0 rfl
     have y1:=Yu.out.cell 1 rfl
     have hwl':=HI.out.wlt
     clear hu
     go_wp2_with fail
     generalize wr.alloc (.cells #[.bool ur, .int .i64 un] 39)=wu at*
     refine wp_region_head 9 (by kernel_rfl) (by kernel_rfl) ?_
     simp only [List.take_succ_cons,List.take_zero,List.drop_succ_cons,List.drop_zero]
     repeat go_big_quiet_step (fail)
     refine wpQuiet_nil ?_
     have HBd:=Lib.hid (below_drewN (Below.refl wu.heap.size wu) 1)
     have HId:=Lib.hid (HIu.out.below HBd.out)
     obtain⟨F,n,s1,s2⟩:=HId.out.st
     have hnm:(⟨t.name.toArray⟩:ByteArray).size≤maxLen:=by unfold maxLen;show t.name.toArray.size≤_;simp;omega
     obtain⟨w6,hput,hm6,hg6⟩:=s2.storeK keyed_found Tryz.underlying46 (by unfold maxLen;omega) (key_ofF ⟨⟨t.name.toArray⟩,i⟩ hnm ⟨by simp only;omega,by simp only;omega⟩) (.agg #[.bool ur, .int .i64 un])
     have HI6:=Lib.hid (show WdK B p L v1 x1 k (K+(i+1)) T w6 from HId.out.stat (by split<;>omega) hm6 (but_grown hg6))
     have HB6:=Lib.hid (HBI.out.trans ((But.of_below (S:= [p.sm]) (HBu.out.trans (HBd.out.mono HBu.out.size))).mono hzi (fun _ _ h=>h) |>.trans ((but_grown hg6).mono (by have:=HBu.out.size;have:=HBd.out.size;omega) (fun _ _ h=>h))))
     clear s2 hm6 hg6 d3 x0 y0 y1 a0 a1
     go_wp2_with fail
     go_roundw
     case rel=>exact⟨i+1,by go_num,by omega,HI6,HB6⟩
     case measure=>simp [RowKit.intOf];omega
    ·obtain rfl:i=t.fl.length:=by omega
     have d4:=HI.out.bx.cell 4 rfl
     have e4:=HI.out.bx.frozen 4
     have hcast:(Value.int .i64 ((k+1:Nat):Int))= .int .i64 ((k:Int)+1):=by simp
     have HNs:=Lib.hid (nextAt_set wr p.wb 4 (k+1) d4)
     have his:=(HI.out.stood (k+1)).moreN (N':=(k+1)*1048576) hKn
     have hfs:=(HFG.out.1.trans (HK3.out.fr_but [p.sm] (by simp [Out]) (by simpa using HK3.out.lo.2.2.1) HBI.out)).trans (HI.out.fr_but (W':=wr.setCell ⟨p.wb,4,none⟩ (.int .i64 ((k+1:Nat):Int))) [p.wb] (by simp [Out]) (by simpa using HI.out.lo.1) ((But.refl _ _ _).set ⟨p.wb,4,none⟩ (.inl (by simp)) _))
     rw [hcast] at HNs his hfs
     have HIs:=Lib.hid his
     have HFs:=Lib.hid hfs
     clear his hfs hcast
     have hwl':=HI.out.wlt
     go_wp2_with fail
     refine⟨⟨k+1,by omega,HIs,HFs⟩, ?_⟩
     rw [HNs.out,HN4.out]
     omega
  ·obtain rfl:k=x1.σ.ts.length:=by omega
   go_wp2_with fail
   go_ret
   exact⟨rfl,v1,⟨_,Nat.le_refl _,HK.out⟩,HF1.out.trans HF.out⟩
def MakeP (B:Nat) (hb rb most:Nat) (rv:Value) (os:List (Nat×ByteArray)) (cls:ByteArray) (W:World) (id:Int) (ok:Bool) (w':World):Prop:=
 ((os.length:Int) - 1≥most∧ok=false∧Below W.heap.size W w')∨((os.length:Int) - 1<most∧ok=true∧id=(os.length:Int)+1∧ ∃rv' o,HpAt B w' hb rb most rv' (os++ [(o,cls)])∧Below B W w'∧But W.heap.size (rb::rv.ownBlock.toList) W w')
theorem hmake2 {B:Nat} {W:World} {hb rb most:Nat} {rv:Value} {os:List (Nat×ByteArray)} (h:HpAt B W hb rb most rv os) (cls:ByteArray) (hm:most≤1000) (hl:os.length<1000000):
  Calls Tryz.prog 66 #[.pointer (some ⟨hb,0,none⟩), .string cls, .slice none 0 0] W fun e w'=> ∃(id en:Int),e= .returned (.tuple #[.int .i64 id, .int .i64 en])∧MakeP B hb rb most rv os cls W id (en==0) w':=by
 refine(hmake_any h cls hm hl).mono ?_
 rintro e w' (⟨h1,rfl,h2⟩ | ⟨h1,rfl,h2⟩)
 ·exact⟨0,42,rfl, .inl ⟨h1,rfl,h2⟩⟩
 ·exact⟨_,0,rfl, .inr ⟨h1,rfl,rfl,h2⟩⟩
theorem MakeP.blk {B:Nat} {hb rb most:Nat} {rv:Value} {os:List (Nat×ByteArray)} {cls:ByteArray} {W w':World} {id:Int} {ok:Bool} (h:MakeP B hb rb most rv os cls W id ok w') {g:Nat} (hg:g<W.heap.size) (hn:g∉rb::rv.ownBlock.toList):w'.heap[g]?=W.heap[g]?:=by
 rcases h with⟨_,_,h⟩ | ⟨_,_,_,_,_,_,_,h⟩
 ·exact h.block g hg
 ·exact h.block g hg hn
theorem MakeP.front {B:Nat} {hb rb most:Nat} {rv:Value} {os:List (Nat×ByteArray)} {cls:ByteArray} {W0 W w':World} {id:Int} {ok:Bool} (hb0:Below W0.heap.size W0 W) (hB:B≤W0.heap.size) (h:MakeP B hb rb most rv os cls W id ok w'):MakeP B hb rb most rv os cls W0 id ok w':=by
 rcases h with⟨h1,h2,h⟩ | ⟨h1,h2,h3,rv',o,h4,h5,h6⟩
 ·exact .inl ⟨h1,h2,hb0.trans (h.mono hb0.size)⟩
 ·exact .inr ⟨h1,h2,h3,rv',o,h4,(hb0.mono hB).trans h5,(But.of_below hb0).trans (h6.mono hb0.size fun _ _ h=>h)⟩
theorem wmake_any {B:Nat} {p:WPos} {L:LPos} {v:Value} {x:WSt} {k N T:Nat} {W:World} (h:WdK B p L v x k N T W) {rb most:Nat} {rv:Value} {os:List (Nat×ByteArray)} (hp:HpAt B W p.hb rb most rv os) (hap: ∀g,HpB p.hb rb rv os g→g≠p.wb) (hfl: ∀t∈x.σ.ts,t.2.2.2.2.1= []) (s:ByteArray) (hs:s.size≤1048576) (hnm:s.data.toList∈x.σ.ts.map (·.1)) (hm:most≤1000) (hl:os.length<1000000):
  Calls Tryz.prog 35 #[.pointer (some ⟨p.wb,0,none⟩), .string s] W fun e w'=> ∃id ok,e= .returned (.tuple #[.int .i64 id, .bool ok])∧MakeP B p.hb rb most rv os s W id ok w':=by
 obtain⟨g,cap,ts,hv,hkey,hTab,hc4⟩:=h.ld.tab h.ok.sm
 have c0:=h.bx.cell 0 rfl
 have c1:=h.bx.cell 1 rfl
 have HTy:=Lib.hid (wtype_any p.wb L.lb g cap ts s W hTab c0 hc4)
 have HNM:=Lib.hid (show s.data.toList∈tns ts from tns_key hkey▸hnm)
 have hno: ∀t∈ts,t.fl= []:=fun t ht=>hfl t.key (hkey▸List.mem_map_of_mem ht)
 have HTb:=Lib.hid (fun W' (hb:Below W.heap.size W W')=>table_any L.lb (tabV g cap ts) ⟨_,_,_,rfl⟩ W' ((hb.cell (cells_lt hc4)).trans hc4))
 have HFr:=Lib.hid (fun W' (hb:Below W.heap.size W W')=>fresh_none (hTab.below hb) hno s hs)
 have HMk:=Lib.hid (fun W' (hb:Below W.heap.size W W')=>hmake2 (hp.below hb) s hm hl)
 have HRD:=Lib.hid hTab.rd
 have hwl:=h.wlt
 have hBW:=h.Ble
 have HAP:=Lib.hid (show p.wb∉rb::rv.ownBlock.toList from fun hm=>by
  rcases List.mem_cons.1 hm with e|e
  ·exact hap rb (.inr (.inl rfl)) e.symm
  ·rw [Option.mem_toList] at e
   exact hap p.wb (.inr (.inr (.inl e))) rfl)
 have CN:=Lib.hid (fun W' (hb:Below W.heap.size W W')=> (⟨(hb.cell (p:=⟨p.wb,0,none⟩) hwl).trans c0,(hb.cell (p:=⟨p.wb,1,none⟩) hwl).trans c1⟩:W'.cell? ⟨p.wb,0,none⟩=some (.pointer (some ⟨L.lb,0,none⟩))∧W'.cell? ⟨p.wb,1,none⟩=some (.pointer (some ⟨p.hb,0,none⟩))))
 unfold tabV at HTb HFr
 clear h hp hap hfl hnm hv hkey hTab hc4 c0 c1 hno
 go_enter Tryz.func35,Tryz.ntmps35
 go_wp2_with (go_at_call 24;refine HTy.out.mono ?_;rintro e w1 ⟨hb1,(⟨hno,_⟩ | ⟨kk,t,hk1,hk2,hk3,rfl⟩)⟩;(exact absurd HNM.out hno);refine stop_here ?_)
 obtain⟨r1,r2,r3⟩:=HRD.out t (List.mem_of_getElem? hk2)
 obtain⟨A1,q1,e1,_,_⟩:=sl_len r1
 obtain⟨A2,q2,e2,_,_⟩:=sl_len r2
 obtain⟨A3,q3,e3,_,_⟩:=sl_len r3
 rw [e1,e2,e3]
 have HB1:=Lib.hid hb1
 clear hk1 hk2 hk3 r1 r2 r3 e1 e2 e3 hb1 HTy HRD
 refine go_on ?_
 have HB2:=Lib.hid (HB1.out.alloc HB1.out.size (.cells #[.string ⟨s.data⟩, .string ⟨t.sup.toArray⟩, .int .i64 t.acc, .slice A1 t.ifl.length q1, .slice A2 t.fl.length q2, .slice A3 t.ml.length q3] 75))
 go_wp2_with fail
 generalize w1.alloc (.cells #[.string ⟨s.data⟩, .string ⟨t.sup.toArray⟩, .int .i64 t.acc, .slice A1 t.ifl.length q1, .slice A2 t.fl.length q2, .slice A3 t.ml.length q3] 75)=w2 at*
 have BD:=Lib.hid HB2.out.drew
 have hz2:=HB2.out.size
 go_region_held2 (fun w'=>w'.cell? ⟨p.wb,0,none⟩=some (.pointer (some ⟨L.lb,0,none⟩))∧w'.cell? ⟨p.wb,1,none⟩=some (.pointer (some ⟨p.hb,0,none⟩))) (first|exact CE.out|exact CN.out _ B4.out|exact CN.out _ BD.out|exact CN.out _ BD.out.drew) (first
  | (go_simp;go_at_call 22;refine(HTb.out _ BD.out).mono ?_;rintro e w3 ⟨rfl,rfl⟩;dsimp only)
  | (go_simp;go_at_call 67;refine(HFr.out _ BD.out).mono ?_;rintro e w4 ⟨rfl,hb4⟩;have B4:=Lib.hid (BD.out.trans (hb4.mono BD.out.size));clear hb4;dsimp only)
  | (go_simp;go_at_call 66;refine(HMk.out _ B4.out).mono ?_;rintro e w5 ⟨id,en,rfl,hm5⟩;have HM5:=Lib.hid hm5;have CE:=Lib.hid (show w5.cell? ⟨p.wb,0,none⟩=some (.pointer (some ⟨L.lb,0,none⟩))∧w5.cell? ⟨p.wb,1,none⟩=some (.pointer (some ⟨p.hb,0,none⟩)) from⟨(World.cell?_of_block (HM5.out.blk (Nat.lt_of_lt_of_le hwl B4.out.size) HAP.out)).trans (CN.out _ B4.out).1,(World.cell?_of_block (HM5.out.blk (Nat.lt_of_lt_of_le hwl B4.out.size) HAP.out)).trans (CN.out _ B4.out).2⟩);clear hm5;dsimp only))
 obtain⟨ok,hok⟩: ∃ok,(en==0)=ok:=⟨_,rfl⟩
 rw [hok] at HM5
 go_wp2_with fail
 go_ret2
 exact⟨id,ok,rfl,HM5.out.front B4.out hBW⟩
theorem wraise_any {B:Nat} {p:WPos} {L:LPos} {v:Value} {x:WSt} {k N T:Nat} {W:World} (h:WdK B p L v x k N T W) {rb most:Nat} {rv:Value} {os:List (Nat×ByteArray)} (hp:HpAt B W p.hb rb most rv os) (hap: ∀g,HpB p.hb rb rv os g→g≠p.wb) (hfl: ∀t∈x.σ.ts,t.2.2.2.2.1= []) (s:ByteArray) (hs:s.size≤1048576) (hnm:s.data.toList∈x.σ.ts.map (·.1)) (hm:most≤1000) (hl:os.length<1000000):
  Calls Tryz.prog 14 #[.pointer (some ⟨p.wb,0,none⟩), .string s] W fun e w'=> ∃id ok,e= .returned (.int .i64 (if ok then id else 1))∧MakeP B p.hb rb most rv os s W id ok w':=by
 have HM:=Lib.hid (wmake_any h hp hap hfl s hs hnm hm hl)
 clear h hp hap hfl hnm
 go_enter Tryz.func14,Tryz.ntmps14
 go_wp2_with (go_at_call 35;refine HM.out.mono ?_;rintro e w1 ⟨id,ok,rfl,hm1⟩;refine stop_here ?_)
 have HM1:=Lib.hid hm1
 clear hm1
 refine go_on ?_
 cases ok
 ·go_wp2_with fail
  go_ret
  exact⟨id,false,rfl,HM1.out⟩
 ·go_wp2_with fail
  go_ret
  exact⟨id,true,rfl,HM1.out⟩
theorem wof_any {B:Nat} {p:WPos} {L:LPos} {W:World} (hw:Bx W p.wb (p.cells L 0) 48∨ ∃k,Bx W p.wb (p.cells L k) 48) {rb most:Nat} {rv:Value} {os:List (Nat×ByteArray)} (hp:HpAt B W p.hb rb most rv os) (j:Nat) (o:Nat×ByteArray) (hj:os[j]?=some o):
  Calls Tryz.prog 16 #[.pointer (some ⟨p.wb,0,none⟩), .int .i64 ((j:Int)+1)] W fun e w'=>e= .returned (.string o.2)∧W=w':=by
 have HC:=Lib.hid (hclass_any hp j o hj)
 have c1:W.cell? ⟨p.wb,1,none⟩=some (.pointer (some ⟨p.hb,0,none⟩)):=by
  rcases hw with hw| ⟨k,hw⟩
  ·exact hw.cell 1 rfl
  ·exact hw.cell 1 rfl
 clear hp hj hw
 go_enter Tryz.func16,Tryz.ntmps16
 go_wp2_with (go_at_call 37;refine HC.out.mono ?_;rintro e w1 ⟨rfl,rfl⟩)
 go_ret
 exact⟨rfl,rfl⟩
theorem lnew_any (W:World) (xs:List Nat) (hxs: ∀x∈xs,x<W.heap.size):Calls Tryz.prog 18 #[] W fun e W'=> ∃L v,e= .returned (.pointer (some ⟨L.lb,0,none⟩))∧L.ex=xs∧At1 W.heap.size L v St.new W'∧Below W.heap.size W W':=by
 refine(new_apart W xs hxs).mono ?_
 rintro e W' ⟨L,v,ts,rfl,hk,hx,_,h,hb⟩
 exact⟨L,v,rfl,hx,⟨⟨ts,hk,h,ksOk_core hk⟩,fun s l h=>by simp [St.new] at h,rfl,by decide⟩,hb⟩
def hpL (hb rb:Nat) (rv:Value) (o:Nat):List Nat:=hb::rb::o::rv.ownBlock.toList
theorem hpL_mem {hb rb:Nat} {rv:Value} {o:Nat} {s:ByteArray} {g:Nat} (h:g∈hpL hb rb rv o):HpB hb rb rv [(o,s)] g:=by
 unfold hpL at h
 simp only [List.mem_cons,Option.mem_toList,Option.mem_def] at h
 rcases h with rfl|rfl|rfl|h
 ·exact .inl rfl
 ·exact .inr (.inl rfl)
 ·exact .inr (.inr (.inr ⟨_,List.mem_singleton.2 rfl,rfl⟩))
 ·exact .inr (.inr (.inl h))
theorem hpL_of {hb rb:Nat} {rv:Value} {o:Nat} {s:ByteArray} {g:Nat} (h:HpB hb rb rv [(o,s)] g):g∈hpL hb rb rv o:=by
 unfold hpL
 simp only [List.mem_cons,Option.mem_toList,Option.mem_def]
 rcases h with rfl|rfl|h| ⟨q,hq,rfl⟩
 ·exact .inl rfl
 ·exact .inr (.inl rfl)
 ·exact .inr (.inr (.inr h))
 ·simp only [List.mem_singleton] at hq
  subst hq
  exact .inr (.inr (.inl rfl))
theorem wd_new {B:Nat} {L:LPos} {v:Value} {W:World} (hl:At1 B L v St.new W) (hB:0<B) (hgl:GlW W) (hb:Nat):
  let W3:=((W.alloc (.map #[] 0)).alloc (.map #[] 0)).alloc (.cells #[.pointer (some ⟨L.lb,0,none⟩), .pointer (some ⟨hb,0,none⟩), .map (some W.heap.size), .map (some (W.heap.size+1)), .int .i64 0] 48)
  WdK B ⟨W.heap.size+2,hb,W.heap.size,W.heap.size+1⟩ (L.and [W.heap.size,W.heap.size+1,W.heap.size+2]) v WSt.new 0 0 0 W3∧Below W.heap.size W W3:=by
 intro W3
 have B1:=(Below.refl W.heap.size W).alloc (Nat.le_refl _) (.map #[] 0)
 have B2:=(Below.refl (W.heap.size+1) (W.alloc (.map #[] 0))).alloc (by simp) (.map #[] 0)
 have B3:=(Below.refl (W.heap.size+2) ((W.alloc (.map #[] 0)).alloc (.map #[] 0))).alloc (by simp) (.cells #[.pointer (some ⟨L.lb,0,none⟩), .pointer (some ⟨hb,0,none⟩), .map (some W.heap.size), .map (some (W.heap.size+1)), .int .i64 0] 48)
 have hb3:Below W.heap.size W W3:=(B1.trans (B2.mono (Nat.le_succ _))).trans (B3.mono (by omega))
 have hz3:W3.heap.size=W.heap.size+3:=by simp [W3]
 have M1:=(mapS_made W Tryz.prog 9).keep (B2.block _ (by omega)) |>.keep (B3.block _ (by omega))
 have M2:=mapS_made (W.alloc (.map #[] 0)) Tryz.prog 37
 rw [show(W.alloc (.map #[] 0)).heap.size=W.heap.size+1 by simp] at M2
 have M2':=M2.keep (B3.block _ (by omega))
 have X3:=bx_new ((W.alloc (.map #[] 0)).alloc (.map #[] 0)) [.pointer (some ⟨L.lb,0,none⟩), .pointer (some ⟨hb,0,none⟩), .map (some W.heap.size), .map (some (W.heap.size+1)), .int .i64 0] 48
 rw [show((W.alloc (.map #[] 0)).alloc (.map #[] 0)).heap.size=W.heap.size+2 by simp] at X3
 have hBW:=hl.sized.2
 refine⟨⟨hl.and (But.of_below hb3) [W.heap.size,W.heap.size+1,W.heap.size+2] (fun y hy=>by simp at hy;omega) (fun y hy=>by simp at hy;omega),wOk_new,X3,⟨_,0,Nat.le_refl _,M2'⟩,⟨_,0,Nat.le_refl _,M1,fun s=>rfl⟩,fun s q h=> (by cases h),fun s s' q q' h=> (by cases h),⟨?_, ?_, ?_,fun s q h=> (by cases h)⟩,fun s s' q q' h=> (by cases h),⟨List.mem_append_left _ (by simp),List.mem_append_left _ (by simp),List.mem_append_left _ (by simp),fun s q h=> (by cases h)⟩,⟨?_, ?_, ?_,fun s q h=> (by cases h)⟩,hB,(hb3.cell (p:=⟨0,0,none⟩) (by simp only;omega)).trans hgl⟩,hb3⟩
 all_goals simp only
 all_goals omega
theorem wnew_any (most:Nat) (hm:most≤1000) (w:World) (hgl:GlW w) (hB:0<w.heap.size):
  Calls Tryz.prog 6 #[.agg #[.int .i64 most]] w fun e w'=> ∃p L v rb rv o,e= .returned (.tuple #[.pointer (some ⟨p.wb,0,none⟩), .int .i64 0])∧WdK w.heap.size p L v WSt.new 0 0 0 w'∧HpAt w.heap.size w' p.hb rb most rv [(o,oomB)]∧(∀g,HpB p.hb rb rv [(o,oomB)] g→g∈L.ex∧g<p.wb∧g<p.pm∧g<p.sm)∧Below w.heap.size w w':=by
 have HB1:=Lib.hid ((Below.refl w.heap.size w).alloc (Nat.le_refl _) (.cells #[.int .i64 most] 30))
 have HN:=Lib.hid (hnew_any most hm (w.alloc (.cells #[.int .i64 most] 30)))
 have HGL:=Lib.hid hgl
 have hmm:= @run_makeMap Tryz.prog
 clear hgl
 go_enter Tryz.func6,Tryz.ntmps6
 go_wp2_with (go_at_call 17;refine HN.out.mono ?_;rintro e w1 ⟨hb,rb,rv,o,rfl,hp,hb1⟩;refine stop_here ?_)
 have HP1:=Lib.hid hp
 have HBl:=Lib.hid (HB1.out.trans (hb1.mono (by simp)))
 have HNl:=Lib.hid (lnew_any w1 (hpL hb rb rv o) (fun g hg=> (hp.blkLt (hpL_mem hg)).2))
 clear hp hb1
 refine go_on ?_
 go_wp2_with (go_at_call 18;refine HNl.out.mono ?_;rintro e w2 ⟨L,v,rfl,hex,hl,hb2⟩;refine stop_here ?_)
 have HL2:=Lib.hid hl
 have HB2:=Lib.hid hb2
 have HEX:=Lib.hid hex
 have hmz:=hB
 clear hl hb2 hex
 refine go_on ?_
 go_wp2_with fail
 go_ret2
 have hl:=HL2.out.lower (B':=w.heap.size) (by have:=HBl.out.size;omega)
 have hb12:=HBl.out.trans (HB2.out.mono HBl.out.size)
 obtain⟨h1,h2⟩:=wd_new hl hB ((hb12.cell (p:=⟨0,0,none⟩) hB).trans HGL.out) hb
 refine⟨⟨w2.heap.size+2,hb,w2.heap.size,w2.heap.size+1⟩,L.and [w2.heap.size,w2.heap.size+1,w2.heap.size+2],v,rb,rv,o,rfl,h1, ?_,fun g hg=> ?_,hb12.trans (h2.mono (by have:=hb12.size;omega))⟩
 ·obtain⟨z1,z2,z3,z4,z5,z6⟩:=(HP1.out.below HB2.out).below h2
  have hz:=HB1.out.size
  exact⟨z1,z2,⟨z3.1,z3.2.imp id fun⟨g,c,cur,k1,k2,k3⟩=> ⟨g,c,cur,k1,Nat.le_trans hz k2,k3⟩⟩,fun q hq=> ⟨Nat.le_trans hz (z4 q hq).1,(z4 q hq).2⟩,⟨Nat.le_trans hz z5.1,Nat.le_trans hz z5.2⟩,z6⟩
 ·have h5:=(HP1.out.blkLt hg).2
  have h6:=HB2.out.size
  refine⟨List.mem_append_right _ (by rw [HEX.out];exact hpL_of hg), ?_, ?_, ?_⟩
  all_goals simp only
  all_goals omega
theorem WdK.ldef {B:Nat} {p:WPos} {L:LPos} {v:Value} {x:WSt} {k N T:Nat} {W:World} (h:WdK B p L v x k N T W) (s:ByteArray) (A:Option Addr) (len cap:Nat) (l:List UInt8) (hs:s.size≤9223372036854775807) (hr:RdB W A len cap l) (hl:len≤9223372036854775807):
  Calls Tryz.prog 7 #[.pointer (some ⟨L.lb,0,none⟩), .string s, .slice A len cap] W fun e W'=>e= .returned (.int .i64 (x.σ.defE s l))∧WdK B p L v (x.define s l) k N T W'∧WFr B p L v x W L v (x.define s l) W':=by
 refine(h.ld.define s A len cap l hs hr hl).mono ?_
 rintro e W' ⟨rfl,h1,hf⟩
 exact⟨rfl,h.turn h1 (h.ok.define s l) rfl (fun g hg=>hg) hf.bel (fun g hg=>hf.blk g (h.exlt hg) (h.frp hg)),hf.bel,fun g hg ho=> ⟨⟨hf.fr g hg ho.1,ho.2.1,ho.2.2⟩,hf.blk g hg ho.1⟩⟩
theorem WdAt.ldef {B:Nat} {p:WPos} {L:LPos} {v:Value} {x:WSt} {T:Nat} {W:World} (h:WdAt B p L v x T W) (s:ByteArray) (A:Option Addr) (len cap:Nat) (l:List UInt8) (hs:s.size≤9223372036854775807) (hr:RdB W A len cap l) (hl:len≤9223372036854775807):
  Calls Tryz.prog 7 #[.pointer (some ⟨L.lb,0,none⟩), .string s, .slice A len cap] W fun e W'=>e= .returned (.int .i64 (x.σ.defE s l))∧WdAt B p L v (x.define s l) T W'∧WFr B p L v x W L v (x.define s l) W':=by
 obtain⟨k,hk,hK⟩:=h
 refine(hK.ldef s A len cap l hs hr hl).mono ?_
 rintro e W' ⟨rfl,h1,hf⟩
 exact⟨rfl,⟨k,by show k≤(x.σ.define s l).ts.length;rw [(St.define_ts x.σ s l).1];exact hk,h1⟩,hf⟩
end Go.Proofs.YtpbnjakeielipaaGreatDoor
