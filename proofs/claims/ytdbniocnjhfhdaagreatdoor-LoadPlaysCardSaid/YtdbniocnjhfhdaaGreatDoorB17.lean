/- Part 17 of what the laws rest on: walks. Conditions: those that each theorem names. -/
import Derived.Test.YtdbniocnjhfhdaaGreatDoorB16
set_option linter.unusedSimpArgs false
set_option linter.unusedVariables false
set_option maxRecDepth 100000
set_option maxHeartbeats 8000000
namespace Go.Proofs.YtdbniocnjhfhdaaGreatDoor
open Go Go.RowKit Lib Go.Shelf
attribute [local go_sem] Oper.semAt_some
def cqG:Nat→ByteArray→List UInt8→Nat→Bool×List UInt8×Nat
 |0,_,args,e=> (true,args,e)
 |f+1,r,args,e=>if r.size=0 then(true,args,e) else if r.data.toList.headD 0=41 then(true,args,e)
  else if aqD (r.extract 0 (aqA r)).data.toList=false∨args.length=16 then(false,args,e)
  else cqG f (r.extract (aqA r) r.size) (args++ [r.data.toList.headD 0]) (e+aqA r)
def bqn:ByteArray×ByteArray×Bool:=(⟨#[]⟩,⟨#[]⟩,false)
def aqB (s:ByteArray):ByteArray×ByteArray×Bool:=
 if s.size=0∨s.data.toList.headD 0≠40∨255<s.size then bqn
 else match cqG 256 (s.extract 1 s.size) [] 1 with
  | (good,args,e)=>if good=false∨s.size≤e∨s.data.toList.getD e 0≠41 then bqn
   else if(s.extract (e+1) s.size).data.toList≠ [86]∧aqD (s.extract (e+1) s.size).data.toList=false then bqn
   else(⟨args.toArray⟩,(s.extract (e+1) s.size).extract 0 1,true)
structure KSt (w:World) (args:List UInt8) (e:Nat) (good:Bool) (r:ByteArray) (W:World):Prop where
 c2:W.cell? ⟨w.heap.size,0,none⟩=some (.string ⟨args.toArray⟩)
 c5:W.cell? ⟨w.heap.size+1,0,none⟩=some (.int .i64 e)
 c6:W.cell? ⟨w.heap.size+1+1,0,none⟩=some (.bool good)
 cs:W.cell? ⟨w.heap.size+1+1+1,0,none⟩=some (.string r)
 f2:W.frozen? ⟨w.heap.size,0,none⟩=false
 f5:W.frozen? ⟨w.heap.size+1,0,none⟩=false
 f6:W.frozen? ⟨w.heap.size+1+1,0,none⟩=false
 fs:W.frozen? ⟨w.heap.size+1+1+1,0,none⟩=false
 bel:Below w.heap.size w W
theorem aqN {W:World} {b o:Nat} {v:Value} (h:W.cell? ⟨b,o,none⟩=some v):b<W.heap.size:=by
 obtain⟨ob,ho,_⟩:=cells_of_cell h
 exact(Array.getElem?_eq_some_iff.1 ho).1
def lqw (Q:Exit→Act→World→Prop):Exit→Act→World→Prop
 | .panic _,_,_=>False
 |e,a,w=>Q e a w
theorem gqs {P:Program} {c:Code} {Q:Exit→Act→World→Prop} {a:Act} {w:World} (h:c.wp P (lqw Q) a w):c.wp P Q a w:=wp_mono h fun e a w hq=>by
 cases e<;>first|exact hq|exact hq.elim
theorem eqo {Q:Exit→Act→World→Prop} {a:Act} {w:World} (h:Q .normal a w):lqw Q .normal a w:=h
theorem dqz {P:Program} {fn:Func} {tmps:Array Value} {a b c:Tmp} {T:TypeId} {g:Nat} {x y z:Value} {w:World} {d:TypeDesc} (hr:fn.results= #[.cell a T, .tmp b, .tmp c]) (ha:tmps.getD a undef= .pointer (some ⟨g,0,none⟩)) (hb:tmps.getD b undef=y) (hc:tmps.getD c undef=z)
  (hx:w.cell? ⟨g,0,none⟩=some x) (hu:P.underlying T=some d) (hd:(match d with| .struct _=>true| .array _ _=>true|_=>false)=false):(results fn tmps).run P w= .ok (.tuple #[x,y,z]) w:=by
 have k2:(loadVar T ⟨g,0,none⟩).run P w= .ok x w:=by
  simp only [loadVar,isAgg,run_underlying hu,Sem.run_bind,Result.andThen]
  cases d<;>simp_all [go_sem]
 unfold results
 rw [hr]
 rw [Array.getD_eq_getD_getElem?] at ha hb hc
 simp [ha,hb,hc,asAddr,k2,Result.andThen]
theorem bqH {s:ByteArray} {w W:World} {x y:ByteArray} {z:Bool} {D:Nat} {tmps:Array Value} (h2:W.cell? ⟨w.heap.size,0,none⟩=some (.string x)) (hb:Below w.heap.size w W) (hD:w.heap.size≤D) (hK:W.heap[D]?=some (.deferred (some [])))
  (t2:tmps.getD 2 undef= .pointer (some ⟨w.heap.size,0,none⟩)) (t3:tmps.getD 3 undef= .string y) (t4:tmps.getD 4 undef= .bool z) (hv:aqB s=(x,y,z)):
  bodyPostM Fence.wide 3 Tryz.prog Tryz.f160 (fun e w'=>e= .returned (.tuple #[.string (aqB s).1, .string (aqB s).2.1, .bool (aqB s).2.2])∧Below w.heap.size w w') .ret { tmps:=tmps,defers:= [{ target:= .collected D,args:= #[] }] } W:=by
 refine⟨by simp, .inl ⟨_,_,rfl,run_takeDeferred hK, ?_⟩⟩
 have hr:=dqz (P:=Tryz.prog) (fn:=Tryz.f160) (w:=W.putObj D (.deferred none)) rfl t2 t3 t4 (cell_kept h2 (grownBy_putObj' W D (.deferred none)) (fun r e=>by cases e;exact⟨_,hK,rfl⟩)) Tryz.underlying9 rfl
 refine⟨_,hr, ?_, ?_⟩
 ·rw [hv]
 exact hb.trans (belowK_b (w:=w) Nr W D _ _ hD hK rfl rfl)
theorem jqB (s:ByteArray) (V:Bool×List UInt8×Nat) (h0:0<s.size) (h1:s.size≤255) (h40:((s[0]'h0).toNat:Int)=40) (hV:cqG 256 (s.extract 1 s.size) [] 1=V):
  aqB s=if V.1=false∨s.size≤V.2.2∨s.data.toList.getD V.2.2 0≠41 then bqn else if(s.extract (V.2.2+1) s.size).data.toList≠ [86]∧aqD (s.extract (V.2.2+1) s.size).data.toList=false then bqn else(⟨V.2.1.toArray⟩,(s.extract (V.2.2+1) s.size).extract 0 1,true):=by
 have hh:s.data.toList.headD 0=40:=by
  rw [List.headD_eq_head?_getD,List.head?_eq_getElem?,aqU (s:=s) (j:=0) h0]
  show s[0]'h0=40
  rw [←UInt8.toNat_inj]
  exact_mod_cast h40
 unfold aqB
 rw [hV,hh,if_neg (by rintro(h|h|h) <;>first|omega|exact h rfl)]
theorem bqq {c:Bool} {p q:Prop} (h:c=true) (hp:p):if c=true then p else q:=by rw [if_pos h];exact hp
theorem oqe (args:List UInt8) (P:ByteArray) (c:UInt8) (h:0<P.size) (hc:P[0]'h=c):(⟨args.toArray⟩:ByteArray)++P.extract 0 1=⟨(args++ [c]).toArray⟩:=by
 have e1:(P.extract 0 1).data= #[c]:=by
  have hl:P.data.toList[0]?=some c:=by rw [aqU h,hc]
  have h2:=dq1 P 0 1
  rw [List.drop_zero] at h2
  have h3:P.data.toList.take 1= [c]:=by
   cases hq:P.data.toList with
   |nil=>rw [hq] at hl;cases hl
   |cons x l=>rw [hq] at hl;simp at hl;simp [hl]
  have h4:(P.extract 0 1).data.toList= [c]:=by rw [h2];exact h3
  exact Array.toList_inj.1 h4
 apply ByteArray.ext
 rw [ByteArray.data_append,e1]
 simp
theorem dqA {B:Nat} {W W':World} (h:Below W.heap.size W W'):KeepsFrom B W W':=⟨h.size,fun k o _ hk _=> (h.block k (Array.getElem?_eq_some_iff.1 hk).1).trans hk⟩
theorem lqx (r:ByteArray) (h:0<r.size):r[0]'h=r.data.toList.headD 0:=by
 rw [List.headD_eq_head?_getD,List.head?_eq_getElem?,aqU (s:=r) (j:=0) h]
 rfl
theorem KSt.kept {w:World} {args:List UInt8} {e:Nat} {good:Bool} {r:ByteArray} {W W':World} {row:Option Nat} (h:KSt w args e good r W) (hg:W.grownBy W' row) (hr: ∀q,row=some q→ ∃o:Obj,W.heap[q]?=some o∧o.isCells=false) (hb:Below w.heap.size W W'):KSt w args e good r W':=
 ⟨cell_kept h.c2 hg hr,cell_kept h.c5 hg hr,cell_kept h.c6 hg hr,cell_kept h.cs hg hr,(frozen_kept h.c2 hg hr).trans h.f2,(frozen_kept h.c5 hg hr).trans h.f5,(frozen_kept h.c6 hg hr).trans h.f6,(frozen_kept h.cs hg hr).trans h.fs,h.bel.trans hb⟩
theorem KSt.put {w:World} {args:List UInt8} {e:Nat} {good:Bool} {r:ByteArray} {W:World} (h:KSt w args e good r W) (l:Nat) (o o':Obj) (hl:w.heap.size≤l) (ho:W.heap[l]?=some o) (hc:o.isCells=false):KSt w args e good r (W.putObj l o'):=
 h.kept (grownBy_putObj' W l o') (fun q e=>by cases e;exact⟨o,ho,hc⟩) ((Below.refl w.heap.size W).grown (grownBy_putObj' W l o') (by have:=(Array.getElem?_eq_some_iff.1 ho).1;omega) (fun k e=>by cases e;omega))
theorem KSt.alloc {w:World} {args:List UInt8} {e:Nat} {good:Bool} {r:ByteArray} {W:World} (h:KSt w args e good r W) (o:Obj):KSt w args e good r (W.alloc o):=
 h.kept (World.grownBy_alloc W o none) (fun q e=>by cases e) ((Below.refl w.heap.size W).alloc h.bel.size o)
theorem KSt.below {w:World} {args:List UInt8} {e:Nat} {good:Bool} {r:ByteArray} {W W':World} (h:KSt w args e good r W) (hb:Below W.heap.size W W'):KSt w args e good r W':=by
 have q2:=aqN h.c2
 have q5:=aqN h.c5
 have q6:=aqN h.c6
 have qs:=aqN h.cs
 exact⟨(hb.cell (p:=⟨w.heap.size,0,none⟩) q2).trans h.c2,(hb.cell (p:=⟨w.heap.size+1,0,none⟩) q5).trans h.c5,(hb.cell (p:=⟨w.heap.size+1+1,0,none⟩) q6).trans h.c6,(hb.cell (p:=⟨w.heap.size+1+1+1,0,none⟩) qs).trans h.cs,
  (hb.frozen (p:=⟨w.heap.size,0,none⟩) q2).trans h.f2,(hb.frozen (p:=⟨w.heap.size+1,0,none⟩) q5).trans h.f5,(hb.frozen (p:=⟨w.heap.size+1+1,0,none⟩) q6).trans h.f6,(hb.frozen (p:=⟨w.heap.size+1+1+1,0,none⟩) qs).trans h.fs,h.bel.trans (hb.mono h.bel.size)⟩
theorem KSt.set {w:World} {args args':List UInt8} {e e':Nat} {good good':Bool} {r r':ByteArray} {W:World} (h:KSt w args e good r W) (b:Nat) (u:Value) (hb:w.heap.size≤b)
  (h2:if b=w.heap.size then u= .string ⟨args'.toArray⟩ else args'=args) (h5:if b=w.heap.size+1 then u= .int .i64 e' else e'=e) (h6:if b=w.heap.size+1+1 then u= .bool good' else good'=good) (hs:if b=w.heap.size+1+1+1 then u= .string r' else r'=r):KSt w args' e' good' r' (W.setCell ⟨b,0,none⟩ u):=by
 have go: ∀(k:Nat) (x x':Value),W.cell? ⟨k,0,none⟩=some x→(if b=k then u=x' else x'=x)→(W.setCell ⟨b,0,none⟩ u).cell? ⟨k,0,none⟩=some x':=by
  intro k x x' hx hif
  by_cases e:b=k
  ·rw [if_pos e] at hif
   subst e
   rw [←hif]
   exact World.cell?_setCell_same' _ _ _ (by rw [hx];rfl)
  rw [if_neg e] at hif
  rw [hif]
  exact(World.cell?_setCell_other _ _ _ _ (by intro e';injection e' with e';exact e (by first|exact e'|exact e'.symm))).trans hx
 refine⟨go _ _ _ h.c2 ?_,go _ _ _ h.c5 ?_,go _ _ _ h.c6 ?_,go _ _ _ h.cs ?_,by rw [World.frozen?_setCell];exact h.f2,by rw [World.frozen?_setCell];exact h.f5,by rw [World.frozen?_setCell];exact h.f6,by rw [World.frozen?_setCell];exact h.fs,h.bel.setCell (p:=⟨b,0,none⟩) hb u⟩
 ·split at h2<;>simp_all
 ·split at h5<;>simp_all
 ·split at h6<;>simp_all
 split at hs<;>simp_all
theorem lqy (s:ByteArray) (w:World):Calls Tryz.prog 175 #[.string s] w fun e w'=>e= .returned (.func (.func 177) #[] #[.pointer (some ⟨w.heap.size,0,none⟩)])∧w'=w.alloc (.cells #[.string s] 9):=by
 go_enter Tryz.func175,Tryz.ntmps175
 go_wp2_with fail
 go_ret
 exact⟨rfl,rfl⟩
theorem nqa (s:ByteArray) (w:World) (h0:0<s.size) (h1:s.size≤255) (h40:((s[0]'h0).toNat:Int)=40):
  CallsIn Fence.wide 3 Tryz.prog 160 #[.string s] w fun e w'=>e= .returned (.tuple #[.string (aqB s).1, .string (aqB s).2.1, .bool (aqB s).2.2])∧Below w.heap.size w w':=by
 have hne:(s.toList== [])=false:=by
  have hl:s.data.toList.length=s.size:=Array.length_toList
  rw [ByteArray.toList_eq,beq_eq_false_iff_ne]
  intro e
  rw [e] at hl
  simp at hl
  omega
 have c2:decide ((s.size:Int) >255)=false:=by simp;omega
 refine callsIn_of_wp_marks Tryz.func160 rfl trivial ?_ rfl
 simp only [Tryz.ntmps160,List.size_toArray,List.length_cons,List.length_nil,Nat.reduceAdd,Nat.reduceSub,Array.replicate_succ,Array.replicate_zero,List.push_toArray,List.append_toArray,List.nil_append,List.cons_append]
 refine wpIn_wide.2 ?_
 go_wp2
 go_step3
 go_wp2
 go_step3
 go_wp2_with (go_at_call 175;refine(lqy _ _).mono ?_;rintro e w' ⟨rfl,rfl⟩)
 obtain⟨V0,hV0'⟩: ∃V,cqG 256 (s.extract 1 s.size) [] 1=V:=⟨_,rfl⟩
 have hV0:=Hq hV0'
 clear hV0'
 have h1s:=h1
 have hB0:=(((((Below.refl w.heap.size w).alloc Nr (.cells #[.string ⟨#[]⟩] 9)).alloc Sp (.cells #[.int .i64 1] 3)).alloc Sd (.cells #[.bool true] 4)).alloc Sd (.cells #[.string (s.extract 1 s.size)] 9))
 have K0:KSt w [] 1 true (s.extract 1 s.size) ((((w.alloc (.cells #[.string ⟨#[]⟩] 9)).alloc (.cells #[.int .i64 1] 3)).alloc (.cells #[.bool true] 4)).alloc (.cells #[.string (s.extract 1 s.size)] 9)):=by
  refine⟨by simp [go_sem],by simp [go_sem],by simp [go_sem],by simp [go_sem],by simp [go_sem],by simp [go_sem],by simp [go_sem],by simp [go_sem],hB0⟩
 have HK0:=Hq K0
 have hzw:((((w.alloc (.cells #[.string ⟨#[]⟩] 9)).alloc (.cells #[.int .i64 1] 3)).alloc (.cells #[.bool true] 4)).alloc (.cells #[.string (s.extract 1 s.size)] 9)).heap.size=w.heap.size+4:=by simp
 have hxs:(s.extract 1 s.size).size=s.size - 1:=by rw [ByteArray.size_extract];omega
 clear K0 hB0
 generalize (((w.alloc (.cells #[.string ⟨#[]⟩] 9)).alloc (.cells #[.int .i64 1] 3)).alloc (.cells #[.bool true] 4)).alloc (.cells #[.string (s.extract 1 s.size)] 9)=w4 at*
 refine wpIn_wide.1 (iqO (n:=3) (bs:=w.heap.size+1+1+1) Om rfl Om
  (fun r W=> ∃(args:List UInt8) (e f:Nat),r.size<f∧e+r.size=s.size∧1≤e∧args.length≤16∧Hid (KSt w args e true r W)∧Hid (cqG f r args e=V0))
  (fun r W=> ∃(args:List UInt8) (e f:Nat),r.size - aqA r<f∧e+(r.size - aqA r)=s.size∧1≤e∧args.length≤16∧Hid (KSt w args e true r W)∧Hid (cqG f (r.extract (aqA r) r.size) args e=V0))
  (fun c W=>c= .exit 0∧ ∃(good:Bool) (args:List UInt8) (e:Nat) (r:ByteArray),e≤s.size∧args.length≤16∧Hid (KSt w args e good r W)∧Hid (V0=(good,args,e)))
  (s.extract 1 s.size) ?_ ?_ ?_ ?_ ?_ ?_ ?_ ?_ (fun r=> { tmps:= #[.string s,undef, .pointer (some ⟨w.heap.size,0,none⟩), .string ⟨#[]⟩, .bool false, .pointer (some ⟨w.heap.size+1,0,none⟩), .pointer (some ⟨w.heap.size+1+1,0,none⟩), .string (r.extract 0 (aqA r)), .string s, .bool false, .bool false, .string s, .int .u8 40, .bool false, .bool false, .bool false, .string s, .int .i64 s.size, .bool false, .bool false, .string s, .string (s.extract 1 s.size), .func (.func 177) #[] #[.pointer (some ⟨w.heap.size+1+1+1,0,none⟩)], .string (r.extract 0 (aqA r)),undef,undef,undef,undef,undef,undef,undef,undef,undef,undef,undef,undef,undef,undef,undef,undef,undef,undef,undef,undef,undef,undef,undef,undef,undef,undef,undef,undef,undef,undef,undef,undef,undef,undef,undef,undef,undef,undef,undef,undef,undef,undef,undef,undef,undef,undef,undef],defers:= [] }) ?assign ?body ?done ?stop)
 ·rintro r W ⟨args,e,f,h1,h2,h3,h4,h5,h6⟩
  exact⟨h5.out.cs,h5.out.fs,by omega⟩
 ·rintro r W ⟨args,e,f,h1,h2,h3,h4,h5,h6⟩
  exact⟨h5.out.cs,h5.out.fs⟩
 ·rintro r W l o o' hl ho hc ⟨args,e,f,h1,h2,h3,h4,h5,h6⟩
  exact⟨args,e,f,h1,h2,h3,h4,Hq (h5.out.put l o o' Om ho hc),h6⟩
 ·rintro r W l o o' hl ho hc ⟨args,e,f,h1,h2,h3,h4,h5,h6⟩
  exact⟨args,e,f,h1,h2,h3,h4,Hq (h5.out.put l o o' Om ho hc),h6⟩
 ·rintro c W l o o' hl ho hc ⟨rfl,good,args,e,r,h1,h4,h5,h6⟩
  exact⟨rfl,good,args,e,r,h1,h4,Hq (h5.out.put l o o' Om ho hc),h6⟩
 ·rintro W o hz ⟨args,e,f,h1,h2,h3,h4,h5,h6⟩
  exact⟨args,e,f,h1,h2,h3,h4,Hq (h5.out.alloc o),h6⟩
 ·rintro r W ⟨args,e,f,h1,h2,h3,h4,h5,h6⟩ hr
  have hx:(r.extract (aqA r) r.size).size=r.size - aqA r:=by rw [ByteArray.size_extract];omega
  refine⟨args,e,f,by omega,by omega,h3,h4,Hq (h5.out.set (w.heap.size+1+1+1) _ Om ?_ ?_ ?_ ?_),h6⟩
  ·rw [if_neg Om]
  ·rw [if_neg Om]
  ·rw [if_neg Om]
  rw [if_pos rfl]
 ·exact⟨[],1,256,by omega,by omega,by omega,by simp,HK0,hV0⟩
 case assign=>
  intro l r W K hK
  gi_wp2
  exact hK
 case body=>
  rintro l r W ⟨args,e,f,h1,h2,h3,h4,h5,h6⟩ hr
  have hpl:=dq9 r hr
  obtain⟨P,hP⟩: ∃P,r.extract 0 (aqA r)=P:=⟨_,rfl⟩
  have hPs:P.size=aqA r:=by rw [←hP,ByteArray.size_extract];omega
  have h0P:0<P.size:=by omega
  obtain⟨c,hc⟩: ∃c,r.data.toList.headD 0=c:=⟨_,rfl⟩
  have hPc:P[0]'h0P=c:=by
   rw [←hc, ←lqx r hr]
   simp only [←hP]
   simp [ByteArray.getElem_extract]
  have hrs: ¬r.size=0:=by omega
  obtain⟨f',rfl⟩: ∃f',f=f'+1:=⟨f - 1,by omega⟩
  have H6:=Hq (show(if r.size=0 then(true,args,e) else if c=41 then(true,args,e) else if aqD P.data.toList=false∨args.length=16 then(false,args,e) else cqG f' (r.extract (aqA r) r.size) (args++ [c]) (e+aqA r))=V0 by rw [←h6.out, ←hc, ←hP];rfl)
  rw [if_neg hrs] at H6
  rw [hP]
  clear h6 hP
  have HK:=h5
  have c2:=h5.out.c2
  have c5:=h5.out.c5
  have f2:=h5.out.f2
  have f5:=h5.out.f5
  clear h5
  by_cases h41:(c.toNat:Int)=41
  ·have hc41:c=41:=by
    rw [←UInt8.toNat_inj]
    exact_mod_cast h41
   have HV:=Hq H6.out
   rw [if_pos hc41] at HV
   gi_wp2
   exact⟨KeepsFrom.refl _ _,rfl,true,args,e,r,by omega,h4,HK,Hq HV.out.symm⟩
  have hc41: ¬c=41:=by
   intro e'
   rw [e'] at h41
   exact h41 rfl
  rw [if_neg hc41] at H6
  have HF:=Hq (fun W=>dqg P W Om)
  by_cases hfb:aqD P.data.toList=false
  ·rw [hfb] at HF
   rw [if_pos (.inl hfb)] at H6
   gi_wp2_with (refine⟨trivial, ?_⟩;gi_at_call 142;refine(CallsIn.inRound l (callsIn_wide.2 (HF.out _))).mono ?_;rintro e w5 ⟨rfl,hb5⟩;have HB5:=Hq hb5;have K5:=Hq (HK.out.below hb5);have c6:=K5.out.c6;have f6:=K5.out.f6;clear hb5)
   exact⟨(dqA HB5.out).trans ((KeepsOthers.setCell _ _ _).from _),rfl,false,args,e,r,by omega,h4,Hq (K5.out.set (w.heap.size+1+1) _ Om (by rw [if_neg Om]) (by rw [if_neg Om]) (by rw [if_pos rfl]) (by rw [if_neg Om])),Hq H6.out.symm⟩
  have hfb':aqD P.data.toList=true:=by simpa using hfb
  rw [hfb'] at HF
  by_cases h16:args.length=16
  ·rw [if_pos (.inr h16)] at H6
   have h16':((args.length:Int)==16)=true:=by simp;omega
   gi_wp2_with (refine⟨trivial, ?_⟩;gi_at_call 142;refine(CallsIn.inRound l (callsIn_wide.2 (HF.out _))).mono ?_;rintro e w5 ⟨rfl,hb5⟩;have HB5:=Hq hb5;have K5:=Hq (HK.out.below hb5);have c6:=K5.out.c6;have f6:=K5.out.f6;have c25:=K5.out.c2;clear hb5)
   exact⟨(dqA HB5.out).trans ((KeepsOthers.setCell _ _ _).from _),rfl,false,args,e,r,by omega,h4,Hq (K5.out.set (w.heap.size+1+1) _ Om (by rw [if_neg Om]) (by rw [if_neg Om]) (by rw [if_pos rfl]) (by rw [if_neg Om])),Hq H6.out.symm⟩
  rw [if_neg (by rw [hfb'];simp [h16])] at H6
  have h16':((args.length:Int)==16)=false:=by simp;omega
  gi_wp2_with (refine⟨trivial, ?_⟩;gi_at_call 142;refine(CallsIn.inRound l (callsIn_wide.2 (HF.out _))).mono ?_;rintro e w5 ⟨rfl,hb5⟩;have HB5:=Hq hb5;have K5:=Hq (HK.out.below hb5);have c25:=K5.out.c2;have f25:=K5.out.f2;have c55:=K5.out.c5;have f55:=K5.out.f5;clear hb5)
  have hfo:Tryz.prog.follows .mixedOrders=true:=by kernel_rfl
  have hsz1:(⟨args.toArray⟩:ByteArray).size=args.length:=by simp [ByteArray.size]
  have hsz2:(P.extract 0 1).size=1:=by rw [ByteArray.size_extract];omega
  have happ:(⟨args.toArray⟩:ByteArray)++P.extract 0 1=⟨(args++ [c]).toArray⟩:=oqe args P c h0P hPc
  refine wpIn_region_any hfo ?_
  have hbd:Below w5.heap.size w5 { w5 with drawn:=w5.drawn+1 }:=Rf9.drew
  have K6:=Hq (K5.out.below hbd)
  have KF6:=Hq ((dqA (B:=w4.heap.size) HB5.out).trans (dqA hbd))
  clear c25 f25 c55 f55 K5 HB5 hbd HF HK
  generalize { w5 with drawn:=w5.drawn+1 }=w6 at*
  have c26:=K6.out.c2
  have f26:=K6.out.f2
  have c56:=K6.out.c5
  have f56:=K6.out.f5
  refine wpAnyIn_ready (rs:= [0,1]) Kq9 Sp ?_
  refine AllReadyIn.cons rfl (fun K hK=> ?_) (AllReadyIn.cons rfl (fun K hK=> ?_) AllReadyIn.nil)
  ·refine bqq (by rfl) ?_
   gi_wp2
   try(refine hK _ _ ?_;clear hK K)
   try simp only [Act.put,List.setIfInBounds_toArray,List.set_cons_zero,List.set_cons_succ]
   refine wpAnyIn_ready (rs:= [1]) Kq9 Sp ?_
   refine AllReadyIn.cons rfl (fun K hK=> ?_) AllReadyIn.nil
   refine bqq (by rfl) ?_
   gi_wp2
   try(refine hK _ _ ?_;clear hK K)
   try simp only [Act.put,List.setIfInBounds_toArray,List.set_cons_zero,List.set_cons_succ]
   refine wpAnyIn_ready (rs:= [2]) Kq9 Sp ?_
   refine AllReadyIn.cons rfl (fun K hK=> ?_) AllReadyIn.nil
   refine bqq (by rfl) ?_
   gi_wp2
   try(refine hK _ _ ?_;clear hK K)
   try simp only [Act.put,List.setIfInBounds_toArray,List.set_cons_zero,List.set_cons_succ]
   refine wpAnyIn_ready (rs:= [3]) Kq9 Sp ?_
   refine AllReadyIn.cons rfl (fun K hK=> ?_) AllReadyIn.nil
   refine bqq (by rfl) ?_
   gi_wp2
   try(refine hK _ _ ?_;clear hK K)
   try simp only [Act.put,List.setIfInBounds_toArray,List.set_cons_zero,List.set_cons_succ]
   refine wpAnyIn_ready (rs:= [4]) Kq9 Sp ?_
   refine AllReadyIn.cons rfl (fun K hK=> ?_) AllReadyIn.nil
   refine bqq (by rfl) ?_
   gi_wp2
   try(refine hK _ _ ?_;clear hK K)
   try simp only [Act.put,List.setIfInBounds_toArray,List.set_cons_zero,List.set_cons_succ]
   refine wpAnyIn_done Kq9 ?_ _
   have K7:=Hq (K6.out.set (args':=args++ [c]) (w.heap.size) (.string ⟨(args++ [c]).toArray⟩) Om (by rw [if_pos rfl]) (by rw [if_neg Om]) (by rw [if_neg Om]) (by rw [if_neg Om]))
   have KF7:=Hq (KF6.out.trans ((KeepsOthers.setCell w6 ⟨w.heap.size,0,none⟩ (.string ⟨(args++ [c]).toArray⟩)).from _))
   generalize w6.setCell ⟨w.heap.size,0,none⟩ (.string ⟨(args++ [c]).toArray⟩)=w7 at*
   clear c26 f26 c56 f56 K6 KF6
   have c57:=K7.out.c5
   have f57:=K7.out.f5
   gi_wp2
   refine⟨KF7.out.trans ((KeepsOthers.setCell _ _ _).from _),args++ [c],e+aqA r,f',by omega,by omega,by omega,by simp;omega,Hq (K7.out.set (e':=e+aqA r) (w.heap.size+1) _ Om (by rw [if_neg Om]) (by rw [if_pos rfl, ←hPs];rfl) (by rw [if_neg Om]) (by rw [if_neg Om])),Hq H6.out⟩
  refine bqq (by rfl) ?_
  gi_wp2
  try(refine hK _ _ ?_;clear hK K)
  try simp only [Act.put,List.setIfInBounds_toArray,List.set_cons_zero,List.set_cons_succ]
  refine wpAnyIn_ready (rs:= [0,2]) Kq9 Sp ?_
  refine AllReadyIn.cons rfl (fun K hK=> ?_) (AllReadyIn.cons rfl (fun K hK=> ?_) AllReadyIn.nil)
  ·refine bqq (by rfl) ?_
   gi_wp2
   try(refine hK _ _ ?_;clear hK K)
   try simp only [Act.put,List.setIfInBounds_toArray,List.set_cons_zero,List.set_cons_succ]
   refine wpAnyIn_ready (rs:= [2]) Kq9 Sp ?_
   refine AllReadyIn.cons rfl (fun K hK=> ?_) AllReadyIn.nil
   refine bqq (by rfl) ?_
   gi_wp2
   try(refine hK _ _ ?_;clear hK K)
   try simp only [Act.put,List.setIfInBounds_toArray,List.set_cons_zero,List.set_cons_succ]
   refine wpAnyIn_ready (rs:= [3]) Kq9 Sp ?_
   refine AllReadyIn.cons rfl (fun K hK=> ?_) AllReadyIn.nil
   refine bqq (by rfl) ?_
   gi_wp2
   try(refine hK _ _ ?_;clear hK K)
   try simp only [Act.put,List.setIfInBounds_toArray,List.set_cons_zero,List.set_cons_succ]
   refine wpAnyIn_ready (rs:= [4]) Kq9 Sp ?_
   refine AllReadyIn.cons rfl (fun K hK=> ?_) AllReadyIn.nil
   refine bqq (by rfl) ?_
   gi_wp2
   try(refine hK _ _ ?_;clear hK K)
   try simp only [Act.put,List.setIfInBounds_toArray,List.set_cons_zero,List.set_cons_succ]
   refine wpAnyIn_done Kq9 ?_ _
   have K7:=Hq (K6.out.set (args':=args++ [c]) (w.heap.size) (.string ⟨(args++ [c]).toArray⟩) Om (by rw [if_pos rfl]) (by rw [if_neg Om]) (by rw [if_neg Om]) (by rw [if_neg Om]))
   have KF7:=Hq (KF6.out.trans ((KeepsOthers.setCell w6 ⟨w.heap.size,0,none⟩ (.string ⟨(args++ [c]).toArray⟩)).from _))
   generalize w6.setCell ⟨w.heap.size,0,none⟩ (.string ⟨(args++ [c]).toArray⟩)=w7 at*
   clear c26 f26 c56 f56 K6 KF6
   have c57:=K7.out.c5
   have f57:=K7.out.f5
   gi_wp2
   refine⟨KF7.out.trans ((KeepsOthers.setCell _ _ _).from _),args++ [c],e+aqA r,f',by omega,by omega,by omega,by simp;omega,Hq (K7.out.set (e':=e+aqA r) (w.heap.size+1) _ Om (by rw [if_neg Om]) (by rw [if_pos rfl, ←hPs];rfl) (by rw [if_neg Om]) (by rw [if_neg Om])),Hq H6.out⟩
  refine bqq (by rfl) ?_
  gi_wp2
  try(refine hK _ _ ?_;clear hK K)
  try simp only [Act.put,List.setIfInBounds_toArray,List.set_cons_zero,List.set_cons_succ]
  refine wpAnyIn_ready (rs:= [0]) Kq9 Sp ?_
  refine AllReadyIn.cons rfl (fun K hK=> ?_) AllReadyIn.nil
  refine bqq (by rfl) ?_
  gi_wp2
  try(refine hK _ _ ?_;clear hK K)
  try simp only [Act.put,List.setIfInBounds_toArray,List.set_cons_zero,List.set_cons_succ]
  refine wpAnyIn_ready (rs:= [3]) Kq9 Sp ?_
  refine AllReadyIn.cons rfl (fun K hK=> ?_) AllReadyIn.nil
  refine bqq (by rfl) ?_
  gi_wp2
  try(refine hK _ _ ?_;clear hK K)
  try simp only [Act.put,List.setIfInBounds_toArray,List.set_cons_zero,List.set_cons_succ]
  refine wpAnyIn_ready (rs:= [4]) Kq9 Sp ?_
  refine AllReadyIn.cons rfl (fun K hK=> ?_) AllReadyIn.nil
  refine bqq (by rfl) ?_
  gi_wp2
  try(refine hK _ _ ?_;clear hK K)
  try simp only [Act.put,List.setIfInBounds_toArray,List.set_cons_zero,List.set_cons_succ]
  refine wpAnyIn_done Kq9 ?_ _
  have K7:=Hq (K6.out.set (args':=args++ [c]) (w.heap.size) (.string ⟨(args++ [c]).toArray⟩) Om (by rw [if_pos rfl]) (by rw [if_neg Om]) (by rw [if_neg Om]) (by rw [if_neg Om]))
  have KF7:=Hq (KF6.out.trans ((KeepsOthers.setCell w6 ⟨w.heap.size,0,none⟩ (.string ⟨(args++ [c]).toArray⟩)).from _))
  generalize w6.setCell ⟨w.heap.size,0,none⟩ (.string ⟨(args++ [c]).toArray⟩)=w7 at*
  clear c26 f26 c56 f56 K6 KF6
  have c57:=K7.out.c5
  have f57:=K7.out.f5
  gi_wp2
  refine⟨KF7.out.trans ((KeepsOthers.setCell _ _ _).from _),args++ [c],e+aqA r,f',by omega,by omega,by omega,by simp;omega,Hq (K7.out.set (e':=e+aqA r) (w.heap.size+1) _ Om (by rw [if_neg Om]) (by rw [if_pos rfl, ←hPs];rfl) (by rw [if_neg Om]) (by rw [if_neg Om])),Hq H6.out⟩
 case done=>
  rintro D W hD ⟨args,e,f,h1,h2,h3,h4,h5,h6⟩ hK
  have he:e=s.size:=by have:(⟨#[]⟩:ByteArray).size=0:=rfl;omega
  obtain⟨good,hgd⟩: ∃g:Bool,g=true:=⟨true,rfl⟩
  have HVV:=Hq (show V0=(good,args,e) by
   rw [hgd, ←h6.out]
   obtain⟨f',rfl⟩: ∃f',f=f'+1:=⟨f - 1,by have:(⟨#[]⟩:ByteArray).size=0:=rfl;omega⟩
   rfl)
  have K5:Hid (KSt w args e good ⟨#[]⟩ W):=by rw [hgd];exact h5
  clear h5 h6 hgd h1 h2
  have hkv:=jqB s V0 h0 h1s h40 hV0.out
  have d2:=K5.out.c2
  have d5:=K5.out.c5
  have d6:=K5.out.c6
  have e2:=K5.out.f2
  cases good
  ·have HV:=Hq (show aqB s=bqn by rw [hkv,HVV.out];simp)
   go_wp2
   exact bqH (World.cell?_setCell_same' _ _ _ (by rw [d2];rfl)) (K5.out.bel.setCell (p:=⟨w.heap.size,0,none⟩) Nr _) Om ((KeepsOthers.setCell W ⟨w.heap.size,0,none⟩ _).same D _ hK rfl) rfl rfl rfl HV.out
  by_cases hes:s.size≤e
  ·have HV:=Hq (show aqB s=bqn by rw [hkv,HVV.out];simp [hes])
   have hge:decide ((e:Int)≥(s.size:Int))=true:=by simp;omega
   go_wp2
   exact bqH (World.cell?_setCell_same' _ _ _ (by rw [d2];rfl)) (K5.out.bel.setCell (p:=⟨w.heap.size,0,none⟩) Nr _) Om ((KeepsOthers.setCell W ⟨w.heap.size,0,none⟩ _).same D _ hK rfl) rfl rfl rfl HV.out
  exact absurd (Nat.le_of_eq he.symm) hes
 case stop=>
  rintro D c W hD ⟨rfl,good,args,e,r,h1,h4,K5,h6⟩ hK
  have HVV:=h6
  refine wpIn_exit ?_
  clear h6
  have hkv:=jqB s V0 h0 h1s h40 hV0.out
  have d2:=K5.out.c2
  have d5:=K5.out.c5
  have d6:=K5.out.c6
  have e2:=K5.out.f2
  cases good
  ·have HV:=Hq (show aqB s=bqn by rw [hkv,HVV.out];simp)
   go_wp2
   exact bqH (World.cell?_setCell_same' _ _ _ (by rw [d2];rfl)) (K5.out.bel.setCell (p:=⟨w.heap.size,0,none⟩) Nr _) Om ((KeepsOthers.setCell W ⟨w.heap.size,0,none⟩ _).same D _ hK rfl) rfl rfl rfl HV.out
  by_cases hes:s.size≤e
  ·have HV:=Hq (show aqB s=bqn by rw [hkv,HVV.out];simp [hes])
   have hge:decide ((e:Int)≥(s.size:Int))=true:=by simp;omega
   go_wp2
   exact bqH (World.cell?_setCell_same' _ _ _ (by rw [d2];rfl)) (K5.out.bel.setCell (p:=⟨w.heap.size,0,none⟩) Nr _) Om ((KeepsOthers.setCell W ⟨w.heap.size,0,none⟩ _).same D _ hK rfl) rfl rfl rfl HV.out
  have hge:decide ((e:Int)≥(s.size:Int))=false:=by simp;omega
  have hel:e<s.size:=by omega
  have hgd:s.data.toList.getD e 0=s[e]'hel:=by rw [List.getD_eq_getElem?_getD,aqU hel];rfl
  by_cases h41:((s[e]'hel).toNat:Int)=41
  ·have k41:s[e]'hel=41:=by
    rw [←UInt8.toNat_inj]
    exact_mod_cast h41
   obtain⟨rt,hrt⟩: ∃rt,s.extract (e+1) s.size=rt:=⟨_,rfl⟩
   have hrs:rt.size≤255:=by rw [←hrt,ByteArray.size_extract];omega
   have HF:=Hq (fun W=>dqg rt W Om)
   obtain⟨bv,hbv⟩: ∃bv,bv=(rt.data.toList== [86]):=⟨_,rfl⟩
   have ev:(rt.toList== [86])=bv:=by rw [ByteArray.toList_eq,hbv]
   have HV:=Hq (show aqB s=if bv=false∧aqD rt.data.toList=false then bqn else(⟨args.toArray⟩,rt.extract 0 1,true) by
    rw [hkv,HVV.out]
    simp only
    rw [hgd,k41,hrt,if_neg Sd,hbv]
    by_cases hq:rt.data.toList= [86]
    ·rw [hq];rfl
    have:(rt.data.toList== [86])=false:=by simpa using hq
    rw [this];simp [hq])
   have HB:=Hq hbv
   clear hkv hgd hbv
   cases bv
   ·by_cases hfr:aqD rt.data.toList=false
    ·rw [hfr] at HF HV
     rw [if_pos ⟨rfl,rfl⟩] at HV
     go_wp2_with (go_at_call 142;refine(HF.out _).mono ?_;rintro e' w5 ⟨rfl,hb5⟩;have K6:=Hq (K5.out.below hb5);have hK6:=(hb5.block D (Array.getElem?_eq_some_iff.1 hK).1).trans hK;have d26:=K6.out.c2;have e26:=K6.out.f2;clear hb5)
     exact bqH (World.cell?_setCell_same' _ _ _ (by rw [d26];rfl)) (K6.out.bel.setCell (p:=⟨w.heap.size,0,none⟩) Nr _) Om ((KeepsOthers.setCell _ ⟨w.heap.size,0,none⟩ _).same D _ hK6 rfl) rfl rfl rfl HV.out
    have hfr':aqD rt.data.toList=true:=by simpa using hfr
    have hr1:1≤rt.size:=by
     rcases Nat.eq_zero_or_pos rt.size with h0|h0
     ·exfalso
      have hl:rt.data.toList.length=rt.size:=Array.length_toList
      have:rt.data.toList= []:=List.eq_nil_of_length_eq_zero Om
      rw [this] at hfr'
      exact absurd hfr' Dd9
     exact h0
    rw [hfr'] at HF HV
    rw [if_neg Sp] at HV
    go_wp2_with (go_at_call 142;refine(HF.out _).mono ?_;rintro e' w5 ⟨rfl,hb5⟩;have K6:=Hq (K5.out.below hb5);have hK6:=(hb5.block D (Array.getElem?_eq_some_iff.1 hK).1).trans hK;have d26:=K6.out.c2;have e26:=K6.out.f2;clear hb5)
    refine gqs ?_
    have KD:=Hq (K6.out.below (Rf9.drew))
    have hkd:=hK6
    refine wp_region_held_drew (S:=fun w'=>w'.cell? ⟨w.heap.size,0,none⟩=some (.string ⟨args.toArray⟩)) rfl KD.out.c2 (fun hS=> ?_)
    refine wpAnyH_take (i:=1) (oi:={ dst:=some 69,op:=Op.move (Operand.tmp 3),type:=9,pos:= "desc.go:96",after:= #[],guard:=none }) (v:= .string rt) rfl Kq9 Kq9 Kq9 (fun _ _ _ h=>h) (Or.inl ⟨by rfl,fun w' hw'=> ?_⟩) hS ?_
    ·go_simp
    try simp only [Act.put,List.setIfInBounds_toArray,List.set_cons_zero,List.set_cons_succ]
    refine wpAnyH_take (i:=2) (oi:={ dst:=some 70,op:=Op.slice 9 (Operand.tmp 69) none (some (Operand.const (Value.int IntKind.i64 1))) none,type:=9,pos:= "desc.go:96",after:= #[{ on:=1,ground:=Ground.data }],guard:=none }) (v:= .string (rt.extract 0 1)) rfl Kq9 Kq9 Kq9 (fun _ _ _ h=>h) (Or.inl ⟨by rfl,fun w' hw'=> ?_⟩) hS ?_
    ·go_simp
     try(intro hlt;omega)
    try simp only [Act.put,List.setIfInBounds_toArray,List.set_cons_zero,List.set_cons_succ]
    refine wpAnyH_take (i:=0) (oi:={ dst:=some 68,op:=Op.load 9 (Operand.tmp 2),type:=9,pos:= "desc.go:96",after:= #[],guard:=none }) (v:= .string ⟨args.toArray⟩) rfl Kq9 Kq9 Kq9 (fun _ _ _ h=>h) (Or.inl ⟨by rfl,fun w' hw'=> ?_⟩) hS ?_
    ·go_simp
    try simp only [Act.put,List.setIfInBounds_toArray,List.set_cons_zero,List.set_cons_succ]
    refine wpAnyH_ready (rs:= [3]) Kq9 Sp ?_
    refine AllReadyH.cons rfl (fun K hK=> ?_) AllReadyH.nil
    refine bqq (by rfl) ?_
    have z2:=KD.out.f2
    go_wp2
    refine hK.out _ _ (World.cell?_setCell_same' _ _ _ (by rw [d26];rfl)) (fun hS2=> ?_)
    clear hK K
    try simp only [Act.put,List.setIfInBounds_toArray,List.set_cons_zero,List.set_cons_succ]
    refine wpAnyH_ready (rs:= [4]) Kq9 Sp ?_
    refine AllReadyH.cons rfl (fun K hK=> ?_) AllReadyH.nil
    go_simp
    refine hK.out _ _ hS2 (fun _=> ?_)
    clear hK K
    try simp only [Act.put,List.setIfInBounds_toArray,List.set_cons_zero,List.set_cons_succ]
    refine wpAnyH_ready (rs:= [5]) Kq9 Sp ?_
    refine AllReadyH.cons rfl (fun K hK=> ?_) AllReadyH.nil
    go_simp
    refine hK.out _ _ hS2 (fun _=> ?_)
    clear hK K
    try simp only [Act.put,List.setIfInBounds_toArray,List.set_cons_zero,List.set_cons_succ]
    refine wpAnyH_done Kq9 ?_ _
    refine eqo ?_
    go_wp2
    exact bqH hS2 (KD.out.bel.setCell (p:=⟨w.heap.size,0,none⟩) Nr _) Om ((KeepsOthers.setCell _ ⟨w.heap.size,0,none⟩ _).same D _ hkd rfl) rfl rfl rfl HV.out
   have hr1:1≤rt.size:=by
    have hl:rt.data.toList.length=rt.size:=Array.length_toList
    have:rt.data.toList= [86]:=by simpa using HB.out.symm
    rw [this] at hl
    simp at hl
    omega
   rw [if_neg Sp] at HV
   go_wp2
   refine gqs ?_
   have KD:=Hq (K5.out.below (Rf9.drew))
   have hkd:=hK
   refine wp_region_held_drew (S:=fun w'=>w'.cell? ⟨w.heap.size,0,none⟩=some (.string ⟨args.toArray⟩)) rfl KD.out.c2 (fun hS=> ?_)
   refine wpAnyH_take (i:=1) (oi:={ dst:=some 69,op:=Op.move (Operand.tmp 3),type:=9,pos:= "desc.go:96",after:= #[],guard:=none }) (v:= .string rt) rfl Kq9 Kq9 Kq9 (fun _ _ _ h=>h) (Or.inl ⟨by rfl,fun w' hw'=> ?_⟩) hS ?_
   ·go_simp
   try simp only [Act.put,List.setIfInBounds_toArray,List.set_cons_zero,List.set_cons_succ]
   refine wpAnyH_take (i:=2) (oi:={ dst:=some 70,op:=Op.slice 9 (Operand.tmp 69) none (some (Operand.const (Value.int IntKind.i64 1))) none,type:=9,pos:= "desc.go:96",after:= #[{ on:=1,ground:=Ground.data }],guard:=none }) (v:= .string (rt.extract 0 1)) rfl Kq9 Kq9 Kq9 (fun _ _ _ h=>h) (Or.inl ⟨by rfl,fun w' hw'=> ?_⟩) hS ?_
   ·go_simp
    try(intro hlt;omega)
   try simp only [Act.put,List.setIfInBounds_toArray,List.set_cons_zero,List.set_cons_succ]
   refine wpAnyH_take (i:=0) (oi:={ dst:=some 68,op:=Op.load 9 (Operand.tmp 2),type:=9,pos:= "desc.go:96",after:= #[],guard:=none }) (v:= .string ⟨args.toArray⟩) rfl Kq9 Kq9 Kq9 (fun _ _ _ h=>h) (Or.inl ⟨by rfl,fun w' hw'=> ?_⟩) hS ?_
   ·go_simp
   try simp only [Act.put,List.setIfInBounds_toArray,List.set_cons_zero,List.set_cons_succ]
   refine wpAnyH_ready (rs:= [3]) Kq9 Sp ?_
   refine AllReadyH.cons rfl (fun K hK=> ?_) AllReadyH.nil
   refine bqq (by rfl) ?_
   have z2:=KD.out.f2
   go_wp2
   refine hK.out _ _ (World.cell?_setCell_same' _ _ _ (by rw [d2];rfl)) (fun hS2=> ?_)
   clear hK K
   try simp only [Act.put,List.setIfInBounds_toArray,List.set_cons_zero,List.set_cons_succ]
   refine wpAnyH_ready (rs:= [4]) Kq9 Sp ?_
   refine AllReadyH.cons rfl (fun K hK=> ?_) AllReadyH.nil
   go_simp
   refine hK.out _ _ hS2 (fun _=> ?_)
   clear hK K
   try simp only [Act.put,List.setIfInBounds_toArray,List.set_cons_zero,List.set_cons_succ]
   refine wpAnyH_ready (rs:= [5]) Kq9 Sp ?_
   refine AllReadyH.cons rfl (fun K hK=> ?_) AllReadyH.nil
   go_simp
   refine hK.out _ _ hS2 (fun _=> ?_)
   clear hK K
   try simp only [Act.put,List.setIfInBounds_toArray,List.set_cons_zero,List.set_cons_succ]
   refine wpAnyH_done Kq9 ?_ _
   refine eqo ?_
   go_wp2
   exact bqH hS2 (KD.out.bel.setCell (p:=⟨w.heap.size,0,none⟩) Nr _) Om ((KeepsOthers.setCell _ ⟨w.heap.size,0,none⟩ _).same D _ hkd rfl) rfl rfl rfl HV.out
  have HV:=Hq (show aqB s=bqn by
   rw [hkv,HVV.out]
   simp only
   rw [hgd,if_pos]
   right
   right
   intro e'
   rw [e'] at h41
   exact h41 rfl)
  clear hkv hgd
  go_wp2
  exact bqH (World.cell?_setCell_same' _ _ _ (by rw [d2];rfl)) (K5.out.bel.setCell (p:=⟨w.heap.size,0,none⟩) Nr _) Om ((KeepsOthers.setCell W ⟨w.heap.size,0,none⟩ _).same D _ hK rfl) rfl rfl rfl HV.out
theorem dqi (s:ByteArray) (w:World) (hm:s.size≤9223372036854775807):
  Calls Tryz.prog 160 #[.string s] w fun e w'=>e= .returned (.tuple #[.string (aqB s).1, .string (aqB s).2.1, .bool (aqB s).2.2])∧Below w.heap.size w w':=by
 by_cases h0:0<s.size
 ·have hh:s.data.toList.headD 0=s[0]'h0:=(lqx s h0).symm
  have hne:(s.toList== [])=false:=by
   have hl:s.data.toList.length=s.size:=Array.length_toList
   rw [ByteArray.toList_eq,beq_eq_false_iff_ne]
   intro e
   rw [e] at hl
   simp at hl
   omega
  by_cases h40:((s[0]'h0).toNat:Int)=40
  ·by_cases h1:s.size≤255
   ·exact callsIn_wide.1 (nqa s w h0 h1 h40)
   have c2:decide ((s.size:Int) >255)=true:=by simp;omega
   have HV:=Hq (show aqB s=bqn by unfold aqB;rw [if_pos];right;right;omega)
   rw [HV.out]
   go_enter Tryz.func160,Tryz.ntmps160
   go_wp2
   go_step3
   go_wp2
   simp only [Exit.noGoto_ret]
   refine bodyPost_ret (dqz (x:= .string ⟨#[]⟩) (g:=w.heap.size) rfl rfl rfl rfl ?_ Tryz.underlying9 rfl) rfl ?_
   ·simp [go_sem]
   exact⟨rfl,Rf9.alloc Nr _⟩
  have HV:=Hq (show aqB s=bqn by
   unfold aqB
   rw [if_pos]
   right
   left
   intro e
   rw [hh] at e
   rw [e] at h40
   exact h40 rfl)
  rw [HV.out]
  go_enter Tryz.func160,Tryz.ntmps160
  go_wp2
  go_step3
  go_wp2
  simp only [Exit.noGoto_ret]
  refine bodyPost_ret (dqz (x:= .string ⟨#[]⟩) (g:=w.heap.size) rfl rfl rfl rfl ?_ Tryz.underlying9 rfl) rfl ?_
  ·simp [go_sem]
  exact⟨rfl,Rf9.alloc Nr _⟩
 have hz:s.size=0:=by omega
 have HV:=Hq (show aqB s=bqn by unfold aqB;rw [if_pos];exact .inl hz)
 have hs:s=⟨#[]⟩:=ByteArray.ext (Array.eq_empty_of_size_eq_zero hz)
 rw [HV.out]
 clear HV
 subst hs
 go_enter Tryz.func160,Tryz.ntmps160
 go_wp2
 go_step3
 go_wp2
 simp only [Exit.noGoto_ret]
 refine bodyPost_ret (dqz (x:= .string ⟨#[]⟩) (g:=w.heap.size) rfl rfl rfl rfl ?_ Tryz.underlying9 rfl) rfl ?_
 ·simp [go_sem]
 exact⟨rfl,Rf9.alloc Nr _⟩
end Go.Proofs.YtdbniocnjhfhdaaGreatDoor
