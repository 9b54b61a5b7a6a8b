/-
  What the laws rest on, part 18: walks of the program's functions and plain laws. Conditions: none but those that each theorem names.
-/
import Derived.WalkMore
import Derived.Deep.RegionHeld2
import Derived.Test.YtpbnjakeielipaaGreatDoorB17
import Derived.Test.YtpbnjakeielipaaGreatDoorB16
import Derived.Test.YtpbnjakeielipaaGreatDoorB00
import Derived.Handy
set_option linter.unusedSimpArgs false
set_option linter.unusedVariables false
set_option maxRecDepth 100000
set_option maxHeartbeats 8000000
namespace Go.Proofs.YtpbnjakeielipaaGreatDoor
open Go Go.RowKit Lib Go.Shelf
attribute [local go_sem] Oper.semAt_some
def argsK:Nat→ByteArray→List UInt8→Nat→Bool×List UInt8×Nat
 |0,_,args,e=> (true,args,e)
 |f+1,r,args,e=>if r.size=0 then(true,args,e) else if r.data.toList.headD 0=41 then(true,args,e)
  else if fieldB (r.extract 0 (partLen r)).data.toList=false∨args.length=16 then(false,args,e)
  else argsK f (r.extract (partLen r) r.size) (args++ [r.data.toList.headD 0]) (e+partLen r)
def noKinds:ByteArray×ByteArray×Bool:=(⟨#[]⟩,⟨#[]⟩,false)
def kindsV (s:ByteArray):ByteArray×ByteArray×Bool:=
 if s.size=0∨s.data.toList.headD 0≠40∨255<s.size then noKinds
 else match argsK 256 (s.extract 1 s.size) [] 1 with
  | (good,args,e)=>if good=false∨s.size≤e∨s.data.toList.getD e 0≠41 then noKinds
   else if(s.extract (e+1) s.size).data.toList≠ [86]∧fieldB (s.extract (e+1) s.size).data.toList=false then noKinds
   else(⟨args.toArray⟩,(s.extract (e+1) s.size).extract 0 1,true)
structure KSt (w:World) (args:List UInt8) (e:Nat) (good:Bool) (r:ByteArray) (W:World):Prop where
 c2:W.cell? ⟨w.heap.size,0,none⟩=some (.string ⟨args.toArray⟩)
 c5:W.cell? ⟨w.heap.size+1,0,none⟩=some (.int .i64 e)
 c6:W.cell? ⟨w.heap.size+1+1,0,none⟩=some (.bool good)
 cs:W.cell? ⟨w.heap.size+1+1+1,0,none⟩=some (.string r)
 f2:W.frozen? ⟨w.heap.size,0,none⟩=false
 f5:W.frozen? ⟨w.heap.size+1,0,none⟩=false
 f6:W.frozen? ⟨w.heap.size+1+1,0,none⟩=false
 fs:W.frozen? ⟨w.heap.size+1+1+1,0,none⟩=false
 bel:Below w.heap.size w W
theorem cells_lt {W:World} {b o:Nat} {v:Value} (h:W.cell? ⟨b,o,none⟩=some v):b<W.heap.size:=by
 obtain⟨ob,ho,_⟩:=cells_of_cell h
 exact(Array.getElem?_eq_some_iff.1 ho).1
def stopPan (Q:Exit→Act→World→Prop):Exit→Act→World→Prop
 | .panic _,_,_=>False
 |e,a,w=>Q e a w
theorem wp_stopPan {P:Program} {c:Code} {Q:Exit→Act→World→Prop} {a:Act} {w:World} (h:c.wp P (stopPan Q) a w):c.wp P Q a w:=wp_mono h fun e a w hq=>by
 cases e<;>first|exact hq|exact hq.elim
theorem stopPan_normal {Q:Exit→Act→World→Prop} {a:Act} {w:World} (h:Q .normal a w):stopPan Q .normal a w:=h
theorem results_ctt {P:Program} {fn:Func} {tmps:Array Value} {a b c:Tmp} {T:TypeId} {g:Nat} {x y z:Value} {w:World} {d:TypeDesc} (hr:fn.results= #[.cell a T, .tmp b, .tmp c]) (ha:tmps.getD a undef= .pointer (some ⟨g,0,none⟩)) (hb:tmps.getD b undef=y) (hc:tmps.getD c undef=z)
  (hx:w.cell? ⟨g,0,none⟩=some x) (hu:P.underlying T=some d) (hd:(match d with| .struct _=>true| .array _ _=>true|_=>false)=false):(results fn tmps).run P w= .ok (.tuple #[x,y,z]) w:=by
 have k2:(loadVar T ⟨g,0,none⟩).run P w= .ok x w:=by
  simp only [loadVar,isAgg,run_underlying hu,Sem.run_bind,Result.andThen]
  cases d<;>simp_all [go_sem]
 unfold results
 rw [hr]
 rw [Array.getD_eq_getD_getElem?] at ha hb hc
 simp [ha,hb,hc,asAddr,k2,Result.andThen]
theorem kinds_close {s:ByteArray} {w W:World} {x y:ByteArray} {z:Bool} {D:Nat} {tmps:Array Value} (h2:W.cell? ⟨w.heap.size,0,none⟩=some (.string x)) (hb:Below w.heap.size w W) (hD:w.heap.size≤D) (hK:W.heap[D]?=some (.deferred (some [])))
  (t2:tmps.getD 2 undef= .pointer (some ⟨w.heap.size,0,none⟩)) (t3:tmps.getD 3 undef= .string y) (t4:tmps.getD 4 undef= .bool z) (hv:kindsV s=(x,y,z)):
  bodyPostM Fence.wide 3 Tryz.prog Tryz.f157 (fun e w'=>e= .returned (.tuple #[.string (kindsV s).1, .string (kindsV s).2.1, .bool (kindsV s).2.2])∧Below w.heap.size w w') .ret { tmps:=tmps,defers:= [{ target:= .collected D,args:= #[] }] } W:=by
 refine⟨by simp, .inl ⟨_,_,rfl,run_takeDeferred hK, ?_⟩⟩
 have hr:=results_ctt (P:=Tryz.prog) (fn:=Tryz.f157) (w:=W.putObj D (.deferred none)) rfl t2 t3 t4 (cell_kept h2 (grownBy_putObj' W D (.deferred none)) (fun r e=>by cases e;exact⟨_,hK,rfl⟩)) Tryz.underlying9 rfl
 refine⟨_,hr, ?_, ?_⟩
 ·rw [hv]
 ·exact hb.trans (belowK_b (w:=w) (Nat.le_refl _) W D _ _ hD hK rfl rfl)
theorem kinds_eq (s:ByteArray) (V:Bool×List UInt8×Nat) (h0:0<s.size) (h1:s.size≤255) (h40:((s[0]'h0).toNat:Int)=40) (hV:argsK 256 (s.extract 1 s.size) [] 1=V):
  kindsV s=if V.1=false∨s.size≤V.2.2∨s.data.toList.getD V.2.2 0≠41 then noKinds else if(s.extract (V.2.2+1) s.size).data.toList≠ [86]∧fieldB (s.extract (V.2.2+1) s.size).data.toList=false then noKinds else(⟨V.2.1.toArray⟩,(s.extract (V.2.2+1) s.size).extract 0 1,true):=by
 have hh:s.data.toList.headD 0=40:=by
  rw [List.headD_eq_head?_getD,List.head?_eq_getElem?,byte_list (s:=s) (j:=0) h0]
  show s[0]'h0=40
  rw [←UInt8.toNat_inj]
  exact_mod_cast h40
 unfold kindsV
 rw [hV,hh,if_neg (by rintro(h|h|h) <;>first|omega|exact h rfl)]
theorem if_yes {c:Bool} {p q:Prop} (h:c=true) (hp:p):if c=true then p else q:=by rw [if_pos h];exact hp
theorem app_one (args:List UInt8) (P:ByteArray) (c:UInt8) (h:0<P.size) (hc:P[0]'h=c):(⟨args.toArray⟩:ByteArray)++P.extract 0 1=⟨(args++ [c]).toArray⟩:=by
 have e1:(P.extract 0 1).data= #[c]:=by
  have hl:P.data.toList[0]?=some c:=by rw [byte_list h,hc]
  have h2:=extract_list P 0 1
  rw [List.drop_zero] at h2
  have h3:P.data.toList.take 1= [c]:=by
   cases hq:P.data.toList with
   |nil=>rw [hq] at hl;cases hl
   |cons x l=>rw [hq] at hl;simp at hl;simp [hl]
  have h4:(P.extract 0 1).data.toList= [c]:=by rw [h2];exact h3
  exact Array.toList_inj.1 h4
 apply ByteArray.ext
 rw [ByteArray.data_append,e1]
 simp
theorem keeps_below {B:Nat} {W W':World} (h:Below W.heap.size W W'):KeepsFrom B W W':=⟨h.size,fun k o _ hk _=> (h.block k (Array.getElem?_eq_some_iff.1 hk).1).trans hk⟩
theorem head_at (r:ByteArray) (h:0<r.size):r[0]'h=r.data.toList.headD 0:=by
 rw [List.headD_eq_head?_getD,List.head?_eq_getElem?,byte_list (s:=r) (j:=0) h]
 rfl
theorem KSt.kept {w:World} {args:List UInt8} {e:Nat} {good:Bool} {r:ByteArray} {W W':World} {row:Option Nat} (h:KSt w args e good r W) (hg:W.grownBy W' row) (hr: ∀q,row=some q→ ∃o:Obj,W.heap[q]?=some o∧o.isCells=false) (hb:Below w.heap.size W W'):KSt w args e good r W':=
 ⟨cell_kept h.c2 hg hr,cell_kept h.c5 hg hr,cell_kept h.c6 hg hr,cell_kept h.cs hg hr,(frozen_kept h.c2 hg hr).trans h.f2,(frozen_kept h.c5 hg hr).trans h.f5,(frozen_kept h.c6 hg hr).trans h.f6,(frozen_kept h.cs hg hr).trans h.fs,h.bel.trans hb⟩
theorem KSt.put {w:World} {args:List UInt8} {e:Nat} {good:Bool} {r:ByteArray} {W:World} (h:KSt w args e good r W) (l:Nat) (o o':Obj) (hl:w.heap.size≤l) (ho:W.heap[l]?=some o) (hc:o.isCells=false):KSt w args e good r (W.putObj l o'):=
 h.kept (grownBy_putObj' W l o') (fun q e=>by cases e;exact⟨o,ho,hc⟩) ((Below.refl w.heap.size W).grown (grownBy_putObj' W l o') (by have:=(Array.getElem?_eq_some_iff.1 ho).1;omega) (fun k e=>by cases e;omega))
theorem KSt.alloc {w:World} {args:List UInt8} {e:Nat} {good:Bool} {r:ByteArray} {W:World} (h:KSt w args e good r W) (o:Obj):KSt w args e good r (W.alloc o):=
 h.kept (World.grownBy_alloc W o none) (fun q e=>by cases e) ((Below.refl w.heap.size W).alloc h.bel.size o)
theorem KSt.below {w:World} {args:List UInt8} {e:Nat} {good:Bool} {r:ByteArray} {W W':World} (h:KSt w args e good r W) (hb:Below W.heap.size W W'):KSt w args e good r W':=by
 have q2:=cells_lt h.c2
 have q5:=cells_lt h.c5
 have q6:=cells_lt h.c6
 have qs:=cells_lt h.cs
 exact⟨(hb.cell (p:=⟨w.heap.size,0,none⟩) q2).trans h.c2,(hb.cell (p:=⟨w.heap.size+1,0,none⟩) q5).trans h.c5,(hb.cell (p:=⟨w.heap.size+1+1,0,none⟩) q6).trans h.c6,(hb.cell (p:=⟨w.heap.size+1+1+1,0,none⟩) qs).trans h.cs,
  (hb.frozen (p:=⟨w.heap.size,0,none⟩) q2).trans h.f2,(hb.frozen (p:=⟨w.heap.size+1,0,none⟩) q5).trans h.f5,(hb.frozen (p:=⟨w.heap.size+1+1,0,none⟩) q6).trans h.f6,(hb.frozen (p:=⟨w.heap.size+1+1+1,0,none⟩) qs).trans h.fs,h.bel.trans (hb.mono h.bel.size)⟩
theorem KSt.set {w:World} {args args':List UInt8} {e e':Nat} {good good':Bool} {r r':ByteArray} {W:World} (h:KSt w args e good r W) (b:Nat) (u:Value) (hb:w.heap.size≤b)
  (h2:if b=w.heap.size then u= .string ⟨args'.toArray⟩ else args'=args) (h5:if b=w.heap.size+1 then u= .int .i64 e' else e'=e) (h6:if b=w.heap.size+1+1 then u= .bool good' else good'=good) (hs:if b=w.heap.size+1+1+1 then u= .string r' else r'=r):KSt w args' e' good' r' (W.setCell ⟨b,0,none⟩ u):=by
 have go: ∀(k:Nat) (x x':Value),W.cell? ⟨k,0,none⟩=some x→(if b=k then u=x' else x'=x)→(W.setCell ⟨b,0,none⟩ u).cell? ⟨k,0,none⟩=some x':=by
  intro k x x' hx hif
  by_cases e:b=k
  ·rw [if_pos e] at hif
   subst e
   rw [←hif]
   exact World.cell?_setCell_same' _ _ _ (by rw [hx];rfl)
  ·rw [if_neg e] at hif
   rw [hif]
   exact(World.cell?_setCell_other _ _ _ _ (by intro e';injection e' with e';exact e (by first|exact e'|exact e'.symm))).trans hx
 refine⟨go _ _ _ h.c2 ?_,go _ _ _ h.c5 ?_,go _ _ _ h.c6 ?_,go _ _ _ h.cs ?_,by rw [World.frozen?_setCell];exact h.f2,by rw [World.frozen?_setCell];exact h.f5,by rw [World.frozen?_setCell];exact h.f6,by rw [World.frozen?_setCell];exact h.fs,h.bel.setCell (p:=⟨b,0,none⟩) hb u⟩
 ·split at h2<;>simp_all
 ·split at h5<;>simp_all
 ·split at h6<;>simp_all
 ·split at hs<;>simp_all
theorem parts_any (s:ByteArray) (w:World):Calls Tryz.prog 170 #[.string s] w fun e w'=>e= .returned (.func (.func 171) #[] #[.pointer (some ⟨w.heap.size,0,none⟩)])∧w'=w.alloc (.cells #[.string s] 9):=by
 go_enter Tryz.func170,Tryz.ntmps170
 go_wp2_with fail
 go_ret
 exact⟨rfl,rfl⟩
theorem kinds_in (s:ByteArray) (w:World) (h0:0<s.size) (h1:s.size≤255) (h40:((s[0]'h0).toNat:Int)=40):
  CallsIn Fence.wide 3 Tryz.prog 157 #[.string s] w fun e w'=>e= .returned (.tuple #[.string (kindsV s).1, .string (kindsV s).2.1, .bool (kindsV s).2.2])∧Below w.heap.size w w':=by
 have hne:(s.toList== [])=false:=by
  have hl:s.data.toList.length=s.size:=Array.length_toList
  rw [ByteArray.toList_eq,beq_eq_false_iff_ne]
  intro e
  rw [e] at hl
  simp at hl
  omega
 have c2:decide ((s.size:Int) >255)=false:=by simp;omega
 refine callsIn_of_wp_marks Tryz.func157 rfl trivial ?_ rfl
 simp only [Tryz.ntmps157,List.size_toArray,List.length_cons,List.length_nil,Nat.reduceAdd,Nat.reduceSub,Array.replicate_succ,Array.replicate_zero,List.push_toArray,List.append_toArray,List.nil_append,List.cons_append]
 refine wpIn_wide.2 ?_
 go_wp2
 go_step3
 go_wp2
 go_step3
 go_wp2_with (go_at_call 170;refine(parts_any _ _).mono ?_;rintro e w' ⟨rfl,rfl⟩)
 obtain⟨V0,hV0'⟩: ∃V,argsK 256 (s.extract 1 s.size) [] 1=V:=⟨_,rfl⟩
 have hV0:=Lib.hid hV0'
 clear hV0'
 have h1s:=h1
 have hB0:=(((((Below.refl w.heap.size w).alloc (Nat.le_refl _) (.cells #[.string ⟨#[]⟩] 9)).alloc (by simp) (.cells #[.int .i64 1] 3)).alloc (by simp;omega) (.cells #[.bool true] 4)).alloc (by simp;omega) (.cells #[.string (s.extract 1 s.size)] 9))
 have K0:KSt w [] 1 true (s.extract 1 s.size) ((((w.alloc (.cells #[.string ⟨#[]⟩] 9)).alloc (.cells #[.int .i64 1] 3)).alloc (.cells #[.bool true] 4)).alloc (.cells #[.string (s.extract 1 s.size)] 9)):=by
  refine⟨by simp [go_sem],by simp [go_sem],by simp [go_sem],by simp [go_sem],by simp [go_sem],by simp [go_sem],by simp [go_sem],by simp [go_sem],hB0⟩
 have HK0:=Lib.hid K0
 have hzw:((((w.alloc (.cells #[.string ⟨#[]⟩] 9)).alloc (.cells #[.int .i64 1] 3)).alloc (.cells #[.bool true] 4)).alloc (.cells #[.string (s.extract 1 s.size)] 9)).heap.size=w.heap.size+4:=by simp
 have hxs:(s.extract 1 s.size).size=s.size - 1:=by rw [ByteArray.size_extract];omega
 clear K0 hB0
 generalize (((w.alloc (.cells #[.string ⟨#[]⟩] 9)).alloc (.cells #[.int .i64 1] 3)).alloc (.cells #[.bool true] 4)).alloc (.cells #[.string (s.extract 1 s.size)] 9)=w4 at*
 refine wpIn_wide.1 (range_parts (n:=3) (bs:=w.heap.size+1+1+1) (by omega) rfl (by omega)
  (fun r W=> ∃(args:List UInt8) (e f:Nat),r.size<f∧e+r.size=s.size∧1≤e∧args.length≤16∧Hid (KSt w args e true r W)∧Hid (argsK f r args e=V0))
  (fun r W=> ∃(args:List UInt8) (e f:Nat),r.size - partLen r<f∧e+(r.size - partLen r)=s.size∧1≤e∧args.length≤16∧Hid (KSt w args e true r W)∧Hid (argsK f (r.extract (partLen r) r.size) args e=V0))
  (fun c W=>c= .exit 0∧ ∃(good:Bool) (args:List UInt8) (e:Nat) (r:ByteArray),e≤s.size∧args.length≤16∧Hid (KSt w args e good r W)∧Hid (V0=(good,args,e)))
  (s.extract 1 s.size) ?_ ?_ ?_ ?_ ?_ ?_ ?_ ?_ (fun r=> { tmps:= #[.string s,undef, .pointer (some ⟨w.heap.size,0,none⟩), .string ⟨#[]⟩, .bool false, .pointer (some ⟨w.heap.size+1,0,none⟩), .pointer (some ⟨w.heap.size+1+1,0,none⟩), .string (r.extract 0 (partLen r)), .string s, .bool false, .bool false, .string s, .int .u8 40, .bool false, .bool false, .bool false, .string s, .int .i64 s.size, .bool false, .bool false, .string s, .string (s.extract 1 s.size), .func (.func 171) #[] #[.pointer (some ⟨w.heap.size+1+1+1,0,none⟩)], .string (r.extract 0 (partLen r)),undef,undef,undef,undef,undef,undef,undef,undef,undef,undef,undef,undef,undef,undef,undef,undef,undef,undef,undef,undef,undef,undef,undef,undef,undef,undef,undef,undef,undef,undef,undef,undef,undef,undef,undef,undef,undef,undef,undef,undef,undef,undef,undef,undef,undef,undef,undef],defers:= [] }) ?assign ?body ?done ?stop)
 ·rintro r W ⟨args,e,f,h1,h2,h3,h4,h5,h6⟩
  exact⟨h5.out.cs,h5.out.fs,by omega⟩
 ·rintro r W ⟨args,e,f,h1,h2,h3,h4,h5,h6⟩
  exact⟨h5.out.cs,h5.out.fs⟩
 ·rintro r W l o o' hl ho hc ⟨args,e,f,h1,h2,h3,h4,h5,h6⟩
  exact⟨args,e,f,h1,h2,h3,h4,Lib.hid (h5.out.put l o o' (by omega) ho hc),h6⟩
 ·rintro r W l o o' hl ho hc ⟨args,e,f,h1,h2,h3,h4,h5,h6⟩
  exact⟨args,e,f,h1,h2,h3,h4,Lib.hid (h5.out.put l o o' (by omega) ho hc),h6⟩
 ·rintro c W l o o' hl ho hc ⟨rfl,good,args,e,r,h1,h4,h5,h6⟩
  exact⟨rfl,good,args,e,r,h1,h4,Lib.hid (h5.out.put l o o' (by omega) ho hc),h6⟩
 ·rintro W o hz ⟨args,e,f,h1,h2,h3,h4,h5,h6⟩
  exact⟨args,e,f,h1,h2,h3,h4,Lib.hid (h5.out.alloc o),h6⟩
 ·rintro r W ⟨args,e,f,h1,h2,h3,h4,h5,h6⟩ hr
  have hx:(r.extract (partLen r) r.size).size=r.size - partLen r:=by rw [ByteArray.size_extract];omega
  refine⟨args,e,f,by omega,by omega,h3,h4,Lib.hid (h5.out.set (w.heap.size+1+1+1) _ (by omega) ?_ ?_ ?_ ?_),h6⟩
  ·rw [if_neg (by omega)]
  ·rw [if_neg (by omega)]
  ·rw [if_neg (by omega)]
  ·rw [if_pos rfl]
 ·exact⟨[],1,256,by omega,by omega,by omega,by simp,HK0,hV0⟩
 case assign=>
  intro l r W K hK
  gi_wp2
  exact hK
 case body=>
  rintro l r W ⟨args,e,f,h1,h2,h3,h4,h5,h6⟩ hr
  have hpl:=partLen_ok r hr
  obtain⟨P,hP⟩: ∃P,r.extract 0 (partLen r)=P:=⟨_,rfl⟩
  have hPs:P.size=partLen r:=by rw [←hP,ByteArray.size_extract];omega
  have h0P:0<P.size:=by omega
  obtain⟨c,hc⟩: ∃c,r.data.toList.headD 0=c:=⟨_,rfl⟩
  have hPc:P[0]'h0P=c:=by
   rw [←hc, ←head_at r hr]
   simp only [←hP]
   simp [ByteArray.getElem_extract]
  have hrs: ¬r.size=0:=by omega
  obtain⟨f',rfl⟩: ∃f',f=f'+1:=⟨f - 1,by omega⟩
  have H6:=Lib.hid (show(if r.size=0 then(true,args,e) else if c=41 then(true,args,e) else if fieldB P.data.toList=false∨args.length=16 then(false,args,e) else argsK f' (r.extract (partLen r) r.size) (args++ [c]) (e+partLen r))=V0 by rw [←h6.out, ←hc, ←hP];rfl)
  rw [if_neg hrs] at H6
  rw [hP]
  clear h6 hP
  have HK:=h5
  have c2:=h5.out.c2
  have c5:=h5.out.c5
  have f2:=h5.out.f2
  have f5:=h5.out.f5
  clear h5
  by_cases h41:(c.toNat:Int)=41
  ·have hc41:c=41:=by
    rw [←UInt8.toNat_inj]
    exact_mod_cast h41
   have HV:=Lib.hid H6.out
   rw [if_pos hc41] at HV
   gi_wp2
   exact⟨KeepsFrom.refl _ _,rfl,true,args,e,r,by omega,h4,HK,Lib.hid HV.out.symm⟩
  ·have hc41: ¬c=41:=by
    intro e'
    rw [e'] at h41
    exact h41 rfl
   rw [if_neg hc41] at H6
   have HF:=Lib.hid (fun W=>dfield_any P W (by omega))
   by_cases hfb:fieldB P.data.toList=false
   ·rw [hfb] at HF
    rw [if_pos (.inl hfb)] at H6
    gi_wp2_with (refine⟨trivial, ?_⟩;gi_at_call 139;refine(CallsIn.inRound l (callsIn_wide.2 (HF.out _))).mono ?_;rintro e w5 ⟨rfl,hb5⟩;have HB5:=Lib.hid hb5;have K5:=Lib.hid (HK.out.below hb5);have c6:=K5.out.c6;have f6:=K5.out.f6;clear hb5)
    exact⟨(keeps_below HB5.out).trans ((KeepsOthers.setCell _ _ _).from _),rfl,false,args,e,r,by omega,h4,Lib.hid (K5.out.set (w.heap.size+1+1) _ (by omega) (by rw [if_neg (by omega)]) (by rw [if_neg (by omega)]) (by rw [if_pos rfl]) (by rw [if_neg (by omega)])),Lib.hid H6.out.symm⟩
   ·have hfb':fieldB P.data.toList=true:=by simpa using hfb
    rw [hfb'] at HF
    by_cases h16:args.length=16
    ·rw [if_pos (.inr h16)] at H6
     have h16':((args.length:Int)==16)=true:=by simp;omega
     gi_wp2_with (refine⟨trivial, ?_⟩;gi_at_call 139;refine(CallsIn.inRound l (callsIn_wide.2 (HF.out _))).mono ?_;rintro e w5 ⟨rfl,hb5⟩;have HB5:=Lib.hid hb5;have K5:=Lib.hid (HK.out.below hb5);have c6:=K5.out.c6;have f6:=K5.out.f6;have c25:=K5.out.c2;clear hb5)
     exact⟨(keeps_below HB5.out).trans ((KeepsOthers.setCell _ _ _).from _),rfl,false,args,e,r,by omega,h4,Lib.hid (K5.out.set (w.heap.size+1+1) _ (by omega) (by rw [if_neg (by omega)]) (by rw [if_neg (by omega)]) (by rw [if_pos rfl]) (by rw [if_neg (by omega)])),Lib.hid H6.out.symm⟩
    ·rw [if_neg (by rw [hfb'];simp [h16])] at H6
     have h16':((args.length:Int)==16)=false:=by simp;omega
     gi_wp2_with (refine⟨trivial, ?_⟩;gi_at_call 139;refine(CallsIn.inRound l (callsIn_wide.2 (HF.out _))).mono ?_;rintro e w5 ⟨rfl,hb5⟩;have HB5:=Lib.hid hb5;have K5:=Lib.hid (HK.out.below hb5);have c25:=K5.out.c2;have f25:=K5.out.f2;have c55:=K5.out.c5;have f55:=K5.out.f5;clear hb5)
     have hfo:Tryz.prog.follows .mixedOrders=true:=by kernel_rfl
     have hsz1:(⟨args.toArray⟩:ByteArray).size=args.length:=by simp [ByteArray.size]
     have hsz2:(P.extract 0 1).size=1:=by rw [ByteArray.size_extract];omega
     have happ:(⟨args.toArray⟩:ByteArray)++P.extract 0 1=⟨(args++ [c]).toArray⟩:=app_one args P c h0P hPc
     refine wpIn_region_any hfo ?_
     have hbd:Below w5.heap.size w5 { w5 with drawn:=w5.drawn+1 }:=(Below.refl _ _).drew
     have K6:=Lib.hid (K5.out.below hbd)
     have KF6:=Lib.hid ((keeps_below (B:=w4.heap.size) HB5.out).trans (keeps_below hbd))
     clear c25 f25 c55 f55 K5 HB5 hbd HF HK
     generalize { w5 with drawn:=w5.drawn+1 }=w6 at*
     have c26:=K6.out.c2
     have f26:=K6.out.f2
     have c56:=K6.out.c5
     have f56:=K6.out.f5
     refine wpAnyIn_ready (rs:= [0,1]) (by kernel_rfl) (by simp) ?_
     refine AllReadyIn.cons rfl (fun K hK=> ?_) (AllReadyIn.cons rfl (fun K hK=> ?_) AllReadyIn.nil)
     ·refine if_yes (by rfl) ?_
      gi_wp2
      try(refine hK _ _ ?_;clear hK K)
      try simp only [Act.put,List.setIfInBounds_toArray,List.set_cons_zero,List.set_cons_succ]
      refine wpAnyIn_ready (rs:= [1]) (by kernel_rfl) (by simp) ?_
      refine AllReadyIn.cons rfl (fun K hK=> ?_) AllReadyIn.nil
      refine if_yes (by rfl) ?_
      gi_wp2
      try(refine hK _ _ ?_;clear hK K)
      try simp only [Act.put,List.setIfInBounds_toArray,List.set_cons_zero,List.set_cons_succ]
      refine wpAnyIn_ready (rs:= [2]) (by kernel_rfl) (by simp) ?_
      refine AllReadyIn.cons rfl (fun K hK=> ?_) AllReadyIn.nil
      refine if_yes (by rfl) ?_
      gi_wp2
      try(refine hK _ _ ?_;clear hK K)
      try simp only [Act.put,List.setIfInBounds_toArray,List.set_cons_zero,List.set_cons_succ]
      refine wpAnyIn_ready (rs:= [3]) (by kernel_rfl) (by simp) ?_
      refine AllReadyIn.cons rfl (fun K hK=> ?_) AllReadyIn.nil
      refine if_yes (by rfl) ?_
      gi_wp2
      try(refine hK _ _ ?_;clear hK K)
      try simp only [Act.put,List.setIfInBounds_toArray,List.set_cons_zero,List.set_cons_succ]
      refine wpAnyIn_ready (rs:= [4]) (by kernel_rfl) (by simp) ?_
      refine AllReadyIn.cons rfl (fun K hK=> ?_) AllReadyIn.nil
      refine if_yes (by rfl) ?_
      gi_wp2
      try(refine hK _ _ ?_;clear hK K)
      try simp only [Act.put,List.setIfInBounds_toArray,List.set_cons_zero,List.set_cons_succ]
      refine wpAnyIn_done (by kernel_rfl) ?_ _
      have K7:=Lib.hid (K6.out.set (args':=args++ [c]) (w.heap.size) (.string ⟨(args++ [c]).toArray⟩) (by omega) (by rw [if_pos rfl]) (by rw [if_neg (by omega)]) (by rw [if_neg (by omega)]) (by rw [if_neg (by omega)]))
      have KF7:=Lib.hid (KF6.out.trans ((KeepsOthers.setCell w6 ⟨w.heap.size,0,none⟩ (.string ⟨(args++ [c]).toArray⟩)).from _))
      generalize w6.setCell ⟨w.heap.size,0,none⟩ (.string ⟨(args++ [c]).toArray⟩)=w7 at*
      clear c26 f26 c56 f56 K6 KF6
      have c57:=K7.out.c5
      have f57:=K7.out.f5
      gi_wp2
      refine⟨KF7.out.trans ((KeepsOthers.setCell _ _ _).from _),args++ [c],e+partLen r,f',by omega,by omega,by omega,by simp;omega,Lib.hid (K7.out.set (e':=e+partLen r) (w.heap.size+1) _ (by omega) (by rw [if_neg (by omega)]) (by rw [if_pos rfl, ←hPs];rfl) (by rw [if_neg (by omega)]) (by rw [if_neg (by omega)])),Lib.hid H6.out⟩
     ·refine if_yes (by rfl) ?_
      gi_wp2
      try(refine hK _ _ ?_;clear hK K)
      try simp only [Act.put,List.setIfInBounds_toArray,List.set_cons_zero,List.set_cons_succ]
      refine wpAnyIn_ready (rs:= [0,2]) (by kernel_rfl) (by simp) ?_
      refine AllReadyIn.cons rfl (fun K hK=> ?_) (AllReadyIn.cons rfl (fun K hK=> ?_) AllReadyIn.nil)
      ·refine if_yes (by rfl) ?_
       gi_wp2
       try(refine hK _ _ ?_;clear hK K)
       try simp only [Act.put,List.setIfInBounds_toArray,List.set_cons_zero,List.set_cons_succ]
       refine wpAnyIn_ready (rs:= [2]) (by kernel_rfl) (by simp) ?_
       refine AllReadyIn.cons rfl (fun K hK=> ?_) AllReadyIn.nil
       refine if_yes (by rfl) ?_
       gi_wp2
       try(refine hK _ _ ?_;clear hK K)
       try simp only [Act.put,List.setIfInBounds_toArray,List.set_cons_zero,List.set_cons_succ]
       refine wpAnyIn_ready (rs:= [3]) (by kernel_rfl) (by simp) ?_
       refine AllReadyIn.cons rfl (fun K hK=> ?_) AllReadyIn.nil
       refine if_yes (by rfl) ?_
       gi_wp2
       try(refine hK _ _ ?_;clear hK K)
       try simp only [Act.put,List.setIfInBounds_toArray,List.set_cons_zero,List.set_cons_succ]
       refine wpAnyIn_ready (rs:= [4]) (by kernel_rfl) (by simp) ?_
       refine AllReadyIn.cons rfl (fun K hK=> ?_) AllReadyIn.nil
       refine if_yes (by rfl) ?_
       gi_wp2
       try(refine hK _ _ ?_;clear hK K)
       try simp only [Act.put,List.setIfInBounds_toArray,List.set_cons_zero,List.set_cons_succ]
       refine wpAnyIn_done (by kernel_rfl) ?_ _
       have K7:=Lib.hid (K6.out.set (args':=args++ [c]) (w.heap.size) (.string ⟨(args++ [c]).toArray⟩) (by omega) (by rw [if_pos rfl]) (by rw [if_neg (by omega)]) (by rw [if_neg (by omega)]) (by rw [if_neg (by omega)]))
       have KF7:=Lib.hid (KF6.out.trans ((KeepsOthers.setCell w6 ⟨w.heap.size,0,none⟩ (.string ⟨(args++ [c]).toArray⟩)).from _))
       generalize w6.setCell ⟨w.heap.size,0,none⟩ (.string ⟨(args++ [c]).toArray⟩)=w7 at*
       clear c26 f26 c56 f56 K6 KF6
       have c57:=K7.out.c5
       have f57:=K7.out.f5
       gi_wp2
       refine⟨KF7.out.trans ((KeepsOthers.setCell _ _ _).from _),args++ [c],e+partLen r,f',by omega,by omega,by omega,by simp;omega,Lib.hid (K7.out.set (e':=e+partLen r) (w.heap.size+1) _ (by omega) (by rw [if_neg (by omega)]) (by rw [if_pos rfl, ←hPs];rfl) (by rw [if_neg (by omega)]) (by rw [if_neg (by omega)])),Lib.hid H6.out⟩
      ·refine if_yes (by rfl) ?_
       gi_wp2
       try(refine hK _ _ ?_;clear hK K)
       try simp only [Act.put,List.setIfInBounds_toArray,List.set_cons_zero,List.set_cons_succ]
       refine wpAnyIn_ready (rs:= [0]) (by kernel_rfl) (by simp) ?_
       refine AllReadyIn.cons rfl (fun K hK=> ?_) AllReadyIn.nil
       refine if_yes (by rfl) ?_
       gi_wp2
       try(refine hK _ _ ?_;clear hK K)
       try simp only [Act.put,List.setIfInBounds_toArray,List.set_cons_zero,List.set_cons_succ]
       refine wpAnyIn_ready (rs:= [3]) (by kernel_rfl) (by simp) ?_
       refine AllReadyIn.cons rfl (fun K hK=> ?_) AllReadyIn.nil
       refine if_yes (by rfl) ?_
       gi_wp2
       try(refine hK _ _ ?_;clear hK K)
       try simp only [Act.put,List.setIfInBounds_toArray,List.set_cons_zero,List.set_cons_succ]
       refine wpAnyIn_ready (rs:= [4]) (by kernel_rfl) (by simp) ?_
       refine AllReadyIn.cons rfl (fun K hK=> ?_) AllReadyIn.nil
       refine if_yes (by rfl) ?_
       gi_wp2
       try(refine hK _ _ ?_;clear hK K)
       try simp only [Act.put,List.setIfInBounds_toArray,List.set_cons_zero,List.set_cons_succ]
       refine wpAnyIn_done (by kernel_rfl) ?_ _
       have K7:=Lib.hid (K6.out.set (args':=args++ [c]) (w.heap.size) (.string ⟨(args++ [c]).toArray⟩) (by omega) (by rw [if_pos rfl]) (by rw [if_neg (by omega)]) (by rw [if_neg (by omega)]) (by rw [if_neg (by omega)]))
       have KF7:=Lib.hid (KF6.out.trans ((KeepsOthers.setCell w6 ⟨w.heap.size,0,none⟩ (.string ⟨(args++ [c]).toArray⟩)).from _))
       generalize w6.setCell ⟨w.heap.size,0,none⟩ (.string ⟨(args++ [c]).toArray⟩)=w7 at*
       clear c26 f26 c56 f56 K6 KF6
       have c57:=K7.out.c5
       have f57:=K7.out.f5
       gi_wp2
       refine⟨KF7.out.trans ((KeepsOthers.setCell _ _ _).from _),args++ [c],e+partLen r,f',by omega,by omega,by omega,by simp;omega,Lib.hid (K7.out.set (e':=e+partLen r) (w.heap.size+1) _ (by omega) (by rw [if_neg (by omega)]) (by rw [if_pos rfl, ←hPs];rfl) (by rw [if_neg (by omega)]) (by rw [if_neg (by omega)])),Lib.hid H6.out⟩
 case done=>
  rintro D W hD ⟨args,e,f,h1,h2,h3,h4,h5,h6⟩ hK
  have he:e=s.size:=by have:(⟨#[]⟩:ByteArray).size=0:=rfl;omega
  obtain⟨good,hgd⟩: ∃g:Bool,g=true:=⟨true,rfl⟩
  have HVV:=Lib.hid (show V0=(good,args,e) by
   rw [hgd, ←h6.out]
   obtain⟨f',rfl⟩: ∃f',f=f'+1:=⟨f - 1,by have:(⟨#[]⟩:ByteArray).size=0:=rfl;omega⟩
   rfl)
  have K5:Hid (KSt w args e good ⟨#[]⟩ W):=by rw [hgd];exact h5
  clear h5 h6 hgd h1 h2
  have hkv:=kinds_eq s V0 h0 h1s h40 hV0.out
  have d2:=K5.out.c2
  have d5:=K5.out.c5
  have d6:=K5.out.c6
  have e2:=K5.out.f2
  cases good
  ·have HV:=Lib.hid (show kindsV s=noKinds by rw [hkv,HVV.out];simp)
   go_wp2
   exact kinds_close (World.cell?_setCell_same' _ _ _ (by rw [d2];rfl)) (K5.out.bel.setCell (p:=⟨w.heap.size,0,none⟩) (Nat.le_refl _) _) (by omega) ((KeepsOthers.setCell W ⟨w.heap.size,0,none⟩ _).same D _ hK rfl) rfl rfl rfl HV.out
  ·by_cases hes:s.size≤e
   ·have HV:=Lib.hid (show kindsV s=noKinds by rw [hkv,HVV.out];simp [hes])
    have hge:decide ((e:Int)≥(s.size:Int))=true:=by simp;omega
    go_wp2
    exact kinds_close (World.cell?_setCell_same' _ _ _ (by rw [d2];rfl)) (K5.out.bel.setCell (p:=⟨w.heap.size,0,none⟩) (Nat.le_refl _) _) (by omega) ((KeepsOthers.setCell W ⟨w.heap.size,0,none⟩ _).same D _ hK rfl) rfl rfl rfl HV.out
   ·exact absurd (Nat.le_of_eq he.symm) hes
 case stop=>
  rintro D c W hD ⟨rfl,good,args,e,r,h1,h4,K5,h6⟩ hK
  have HVV:=h6
  refine wpIn_exit ?_
  clear h6
  have hkv:=kinds_eq s V0 h0 h1s h40 hV0.out
  have d2:=K5.out.c2
  have d5:=K5.out.c5
  have d6:=K5.out.c6
  have e2:=K5.out.f2
  cases good
  ·have HV:=Lib.hid (show kindsV s=noKinds by rw [hkv,HVV.out];simp)
   go_wp2
   exact kinds_close (World.cell?_setCell_same' _ _ _ (by rw [d2];rfl)) (K5.out.bel.setCell (p:=⟨w.heap.size,0,none⟩) (Nat.le_refl _) _) (by omega) ((KeepsOthers.setCell W ⟨w.heap.size,0,none⟩ _).same D _ hK rfl) rfl rfl rfl HV.out
  ·by_cases hes:s.size≤e
   ·have HV:=Lib.hid (show kindsV s=noKinds by rw [hkv,HVV.out];simp [hes])
    have hge:decide ((e:Int)≥(s.size:Int))=true:=by simp;omega
    go_wp2
    exact kinds_close (World.cell?_setCell_same' _ _ _ (by rw [d2];rfl)) (K5.out.bel.setCell (p:=⟨w.heap.size,0,none⟩) (Nat.le_refl _) _) (by omega) ((KeepsOthers.setCell W ⟨w.heap.size,0,none⟩ _).same D _ hK rfl) rfl rfl rfl HV.out
   ·have hge:decide ((e:Int)≥(s.size:Int))=false:=by simp;omega
    have hel:e<s.size:=by omega
    have hgd:s.data.toList.getD e 0=s[e]'hel:=by rw [List.getD_eq_getElem?_getD,byte_list hel];rfl
    by_cases h41:((s[e]'hel).toNat:Int)=41
    ·have k41:s[e]'hel=41:=by
      rw [←UInt8.toNat_inj]
      exact_mod_cast h41
     obtain⟨rt,hrt⟩: ∃rt,s.extract (e+1) s.size=rt:=⟨_,rfl⟩
     have hrs:rt.size≤255:=by rw [←hrt,ByteArray.size_extract];omega
     have HF:=Lib.hid (fun W=>dfield_any rt W (by omega))
     obtain⟨bv,hbv⟩: ∃bv,bv=(rt.data.toList== [86]):=⟨_,rfl⟩
     have ev:(rt.toList== [86])=bv:=by rw [ByteArray.toList_eq,hbv]
     have HV:=Lib.hid (show kindsV s=if bv=false∧fieldB rt.data.toList=false then noKinds else(⟨args.toArray⟩,rt.extract 0 1,true) by
      rw [hkv,HVV.out]
      simp only
      rw [hgd,k41,hrt,if_neg (by simp;omega),hbv]
      by_cases hq:rt.data.toList= [86]
      ·rw [hq];rfl
      ·have:(rt.data.toList== [86])=false:=by simpa using hq
       rw [this];simp [hq])
     have HB:=Lib.hid hbv
     clear hkv hgd hbv
     cases bv
     ·by_cases hfr:fieldB rt.data.toList=false
      ·rw [hfr] at HF HV
       rw [if_pos ⟨rfl,rfl⟩] at HV
       go_wp2_with (go_at_call 139;refine(HF.out _).mono ?_;rintro e' w5 ⟨rfl,hb5⟩;have K6:=Lib.hid (K5.out.below hb5);have hK6:=(hb5.block D (Array.getElem?_eq_some_iff.1 hK).1).trans hK;have d26:=K6.out.c2;have e26:=K6.out.f2;clear hb5)
       exact kinds_close (World.cell?_setCell_same' _ _ _ (by rw [d26];rfl)) (K6.out.bel.setCell (p:=⟨w.heap.size,0,none⟩) (Nat.le_refl _) _) (by omega) ((KeepsOthers.setCell _ ⟨w.heap.size,0,none⟩ _).same D _ hK6 rfl) rfl rfl rfl HV.out
      ·have hfr':fieldB rt.data.toList=true:=by simpa using hfr
       have hr1:1≤rt.size:=by
        rcases Nat.eq_zero_or_pos rt.size with h0|h0
        ·exfalso
         have hl:rt.data.toList.length=rt.size:=Array.length_toList
         have:rt.data.toList= []:=List.eq_nil_of_length_eq_zero (by omega)
         rw [this] at hfr'
         exact absurd hfr' (by decide)
        ·exact h0
       rw [hfr'] at HF HV
       rw [if_neg (by simp)] at HV
       go_wp2_with (go_at_call 139;refine(HF.out _).mono ?_;rintro e' w5 ⟨rfl,hb5⟩;have K6:=Lib.hid (K5.out.below hb5);have hK6:=(hb5.block D (Array.getElem?_eq_some_iff.1 hK).1).trans hK;have d26:=K6.out.c2;have e26:=K6.out.f2;clear hb5)
       refine wp_stopPan ?_
       have KD:=Lib.hid (K6.out.below ((Below.refl _ _).drew))
       have hkd:=hK6
       refine wp_region_held_drew (S:=fun w'=>w'.cell? ⟨w.heap.size,0,none⟩=some (.string ⟨args.toArray⟩)) rfl KD.out.c2 (fun hS=> ?_)
       refine wpAnyH_take (i:=1) (oi:={ dst:=some 69,op:=Op.move (Operand.tmp 3),type:=9,pos:= "desc.go:96",after:= #[],guard:=none }) (v:= .string rt) rfl (by kernel_rfl) (by kernel_rfl) (by kernel_rfl) (fun _ _ _ h=>h) (Or.inl ⟨by rfl,fun w' hw'=> ?_⟩) hS ?_
       ·go_simp
       try simp only [Act.put,List.setIfInBounds_toArray,List.set_cons_zero,List.set_cons_succ]
       refine wpAnyH_take (i:=2) (oi:={ dst:=some 70,op:=Op.slice 9 (Operand.tmp 69) none (some (Operand.const (Value.int IntKind.i64 1))) none,type:=9,pos:= "desc.go:96",after:= #[{ on:=1,ground:=Ground.data }],guard:=none }) (v:= .string (rt.extract 0 1)) rfl (by kernel_rfl) (by kernel_rfl) (by kernel_rfl) (fun _ _ _ h=>h) (Or.inl ⟨by rfl,fun w' hw'=> ?_⟩) hS ?_
       ·go_simp
        try(intro hlt;omega)
       try simp only [Act.put,List.setIfInBounds_toArray,List.set_cons_zero,List.set_cons_succ]
       refine wpAnyH_take (i:=0) (oi:={ dst:=some 68,op:=Op.load 9 (Operand.tmp 2),type:=9,pos:= "desc.go:96",after:= #[],guard:=none }) (v:= .string ⟨args.toArray⟩) rfl (by kernel_rfl) (by kernel_rfl) (by kernel_rfl) (fun _ _ _ h=>h) (Or.inl ⟨by rfl,fun w' hw'=> ?_⟩) hS ?_
       ·go_simp
       try simp only [Act.put,List.setIfInBounds_toArray,List.set_cons_zero,List.set_cons_succ]
       refine wpAnyH_ready (rs:= [3]) (by kernel_rfl) (by simp) ?_
       refine AllReadyH.cons rfl (fun K hK=> ?_) AllReadyH.nil
       refine if_yes (by rfl) ?_
       have z2:=KD.out.f2
       go_wp2
       refine hK.out _ _ (World.cell?_setCell_same' _ _ _ (by rw [d26];rfl)) (fun hS2=> ?_)
       clear hK K
       try simp only [Act.put,List.setIfInBounds_toArray,List.set_cons_zero,List.set_cons_succ]
       refine wpAnyH_ready (rs:= [4]) (by kernel_rfl) (by simp) ?_
       refine AllReadyH.cons rfl (fun K hK=> ?_) AllReadyH.nil
       go_simp
       refine hK.out _ _ hS2 (fun _=> ?_)
       clear hK K
       try simp only [Act.put,List.setIfInBounds_toArray,List.set_cons_zero,List.set_cons_succ]
       refine wpAnyH_ready (rs:= [5]) (by kernel_rfl) (by simp) ?_
       refine AllReadyH.cons rfl (fun K hK=> ?_) AllReadyH.nil
       go_simp
       refine hK.out _ _ hS2 (fun _=> ?_)
       clear hK K
       try simp only [Act.put,List.setIfInBounds_toArray,List.set_cons_zero,List.set_cons_succ]
       refine wpAnyH_done (by kernel_rfl) ?_ _
       refine stopPan_normal ?_
       go_wp2
       exact kinds_close hS2 (KD.out.bel.setCell (p:=⟨w.heap.size,0,none⟩) (Nat.le_refl _) _) (by omega) ((KeepsOthers.setCell _ ⟨w.heap.size,0,none⟩ _).same D _ hkd rfl) rfl rfl rfl HV.out
     ·have hr1:1≤rt.size:=by
       have hl:rt.data.toList.length=rt.size:=Array.length_toList
       have:rt.data.toList= [86]:=by simpa using HB.out.symm
       rw [this] at hl
       simp at hl
       omega
      rw [if_neg (by simp)] at HV
      go_wp2
      refine wp_stopPan ?_
      have KD:=Lib.hid (K5.out.below ((Below.refl _ _).drew))
      have hkd:=hK
      refine wp_region_held_drew (S:=fun w'=>w'.cell? ⟨w.heap.size,0,none⟩=some (.string ⟨args.toArray⟩)) rfl KD.out.c2 (fun hS=> ?_)
      refine wpAnyH_take (i:=1) (oi:={ dst:=some 69,op:=Op.move (Operand.tmp 3),type:=9,pos:= "desc.go:96",after:= #[],guard:=none }) (v:= .string rt) rfl (by kernel_rfl) (by kernel_rfl) (by kernel_rfl) (fun _ _ _ h=>h) (Or.inl ⟨by rfl,fun w' hw'=> ?_⟩) hS ?_
      ·go_simp
      try simp only [Act.put,List.setIfInBounds_toArray,List.set_cons_zero,List.set_cons_succ]
      refine wpAnyH_take (i:=2) (oi:={ dst:=some 70,op:=Op.slice 9 (Operand.tmp 69) none (some (Operand.const (Value.int IntKind.i64 1))) none,type:=9,pos:= "desc.go:96",after:= #[{ on:=1,ground:=Ground.data }],guard:=none }) (v:= .string (rt.extract 0 1)) rfl (by kernel_rfl) (by kernel_rfl) (by kernel_rfl) (fun _ _ _ h=>h) (Or.inl ⟨by rfl,fun w' hw'=> ?_⟩) hS ?_
      ·go_simp
       try(intro hlt;omega)
      try simp only [Act.put,List.setIfInBounds_toArray,List.set_cons_zero,List.set_cons_succ]
      refine wpAnyH_take (i:=0) (oi:={ dst:=some 68,op:=Op.load 9 (Operand.tmp 2),type:=9,pos:= "desc.go:96",after:= #[],guard:=none }) (v:= .string ⟨args.toArray⟩) rfl (by kernel_rfl) (by kernel_rfl) (by kernel_rfl) (fun _ _ _ h=>h) (Or.inl ⟨by rfl,fun w' hw'=> ?_⟩) hS ?_
      ·go_simp
      try simp only [Act.put,List.setIfInBounds_toArray,List.set_cons_zero,List.set_cons_succ]
      refine wpAnyH_ready (rs:= [3]) (by kernel_rfl) (by simp) ?_
      refine AllReadyH.cons rfl (fun K hK=> ?_) AllReadyH.nil
      refine if_yes (by rfl) ?_
      have z2:=KD.out.f2
      go_wp2
      refine hK.out _ _ (World.cell?_setCell_same' _ _ _ (by rw [d2];rfl)) (fun hS2=> ?_)
      clear hK K
      try simp only [Act.put,List.setIfInBounds_toArray,List.set_cons_zero,List.set_cons_succ]
      refine wpAnyH_ready (rs:= [4]) (by kernel_rfl) (by simp) ?_
      refine AllReadyH.cons rfl (fun K hK=> ?_) AllReadyH.nil
      go_simp
      refine hK.out _ _ hS2 (fun _=> ?_)
      clear hK K
      try simp only [Act.put,List.setIfInBounds_toArray,List.set_cons_zero,List.set_cons_succ]
      refine wpAnyH_ready (rs:= [5]) (by kernel_rfl) (by simp) ?_
      refine AllReadyH.cons rfl (fun K hK=> ?_) AllReadyH.nil
      go_simp
      refine hK.out _ _ hS2 (fun _=> ?_)
      clear hK K
      try simp only [Act.put,List.setIfInBounds_toArray,List.set_cons_zero,List.set_cons_succ]
      refine wpAnyH_done (by kernel_rfl) ?_ _
      refine stopPan_normal ?_
      go_wp2
      exact kinds_close hS2 (KD.out.bel.setCell (p:=⟨w.heap.size,0,none⟩) (Nat.le_refl _) _) (by omega) ((KeepsOthers.setCell _ ⟨w.heap.size,0,none⟩ _).same D _ hkd rfl) rfl rfl rfl HV.out
    ·have HV:=Lib.hid (show kindsV s=noKinds by
      rw [hkv,HVV.out]
      simp only
      rw [hgd,if_pos]
      right
      right
      intro e'
      rw [e'] at h41
      exact h41 rfl)
     clear hkv hgd
     go_wp2
     exact kinds_close (World.cell?_setCell_same' _ _ _ (by rw [d2];rfl)) (K5.out.bel.setCell (p:=⟨w.heap.size,0,none⟩) (Nat.le_refl _) _) (by omega) ((KeepsOthers.setCell W ⟨w.heap.size,0,none⟩ _).same D _ hK rfl) rfl rfl rfl HV.out
theorem kinds_any (s:ByteArray) (w:World) (hm:s.size≤9223372036854775807):
  Calls Tryz.prog 157 #[.string s] w fun e w'=>e= .returned (.tuple #[.string (kindsV s).1, .string (kindsV s).2.1, .bool (kindsV s).2.2])∧Below w.heap.size w w':=by
 by_cases h0:0<s.size
 ·have hh:s.data.toList.headD 0=s[0]'h0:=(head_at s h0).symm
  have hne:(s.toList== [])=false:=by
   have hl:s.data.toList.length=s.size:=Array.length_toList
   rw [ByteArray.toList_eq,beq_eq_false_iff_ne]
   intro e
   rw [e] at hl
   simp at hl
   omega
  by_cases h40:((s[0]'h0).toNat:Int)=40
  ·by_cases h1:s.size≤255
   ·exact callsIn_wide.1 (kinds_in s w h0 h1 h40)
   ·have c2:decide ((s.size:Int) >255)=true:=by simp;omega
    have HV:=Lib.hid (show kindsV s=noKinds by unfold kindsV;rw [if_pos];right;right;omega)
    rw [HV.out]
    go_enter Tryz.func157,Tryz.ntmps157
    go_wp2
    go_step3
    go_wp2
    simp only [Exit.noGoto_ret]
    refine bodyPost_ret (results_ctt (x:= .string ⟨#[]⟩) (g:=w.heap.size) rfl rfl rfl rfl ?_ Tryz.underlying9 rfl) rfl ?_
    ·simp [go_sem]
    ·exact⟨rfl,(Below.refl _ _).alloc (Nat.le_refl _) _⟩
  ·have HV:=Lib.hid (show kindsV s=noKinds by
    unfold kindsV
    rw [if_pos]
    right
    left
    intro e
    rw [hh] at e
    rw [e] at h40
    exact h40 rfl)
   rw [HV.out]
   go_enter Tryz.func157,Tryz.ntmps157
   go_wp2
   go_step3
   go_wp2
   simp only [Exit.noGoto_ret]
   refine bodyPost_ret (results_ctt (x:= .string ⟨#[]⟩) (g:=w.heap.size) rfl rfl rfl rfl ?_ Tryz.underlying9 rfl) rfl ?_
   ·simp [go_sem]
   ·exact⟨rfl,(Below.refl _ _).alloc (Nat.le_refl _) _⟩
 ·have hz:s.size=0:=by omega
  have HV:=Lib.hid (show kindsV s=noKinds by unfold kindsV;rw [if_pos];exact .inl hz)
  have hs:s=⟨#[]⟩:=ByteArray.ext (Array.eq_empty_of_size_eq_zero hz)
  rw [HV.out]
  clear HV
  subst hs
  go_enter Tryz.func157,Tryz.ntmps157
  go_wp2
  go_step3
  go_wp2
  simp only [Exit.noGoto_ret]
  refine bodyPost_ret (results_ctt (x:= .string ⟨#[]⟩) (g:=w.heap.size) rfl rfl rfl rfl ?_ Tryz.underlying9 rfl) rfl ?_
  ·simp [go_sem]
  ·exact⟨rfl,(Below.refl _ _).alloc (Nat.le_refl _) _⟩
end Go.Proofs.YtpbnjakeielipaaGreatDoor
set_option maxHeartbeats 4000000
namespace Go.Proofs.YtpbnjakeielipaaGreatDoor
open Go Go.RowKit Lib Go.Maps
theorem info_obj:(Tryz.prog.info? 117).map (fun i=> (i.zero,i.size,i.bytes))=some (some (.pointer none),1,8):=by kernel_rfl
def obsC (os:List (Nat×ByteArray)):List Value:=os.map fun o=> .pointer (some ⟨o.1,0,none⟩)
def HpB (hb rb:Nat) (rv:Value) (os:List (Nat×ByteArray)) (g:Nat):Prop:=g=hb∨g=rb∨rv.ownBlock=some g∨ ∃o∈os,g=o.1
structure HpAt (B:Nat) (W:World) (hb rb most:Nat) (rv:Value) (os:List (Nat×ByteArray)):Prop where
 hx:Bx W hb [.int .i64 most, .iface 108 (.pointer (some ⟨rb,0,none⟩))] 115
 rx:Bx W rb [rv] 111
 own:W.ownsRow B 117 1 rv os.length (obsC os)
 ob: ∀o∈os,B≤o.1∧ ∃s,Bx W o.1 [.string o.2,s] 121
 lo:B≤hb∧B≤rb
 le:os.length≤1048576
theorem HpAt.keep {B:Nat} {W W':World} {hb rb most:Nat} {rv:Value} {os:List (Nat×ByteArray)} (h:HpAt B W hb rb most rv os) (hk: ∀g,g<W.heap.size→HpB hb rb rv os g→W'.heap[g]?=W.heap[g]?):HpAt B W' hb rb most rv os:=
 ⟨(hk _ h.hx.lt (.inl rfl)).trans h.hx,(hk _ h.rx.lt (.inr (.inl rfl))).trans h.rx,own_heap h.own fun q hq=>hk q (h.own.lt q hq).2 (.inr (.inr (.inl hq))),fun o ho=>by
  obtain⟨h1,s,h2⟩:=h.ob o ho
  exact⟨h1,s,(hk _ h2.lt (.inr (.inr (.inr ⟨o,ho,rfl⟩)))).trans h2⟩,h.lo,h.le⟩
theorem HpAt.below {B:Nat} {W W':World} {hb rb most:Nat} {rv:Value} {os:List (Nat×ByteArray)} (h:HpAt B W hb rb most rv os) (hb':Below W.heap.size W W'):HpAt B W' hb rb most rv os:=h.keep fun g hg _=>hb'.block g hg
theorem HpAt.blkLt {B:Nat} {W:World} {hb rb most:Nat} {rv:Value} {os:List (Nat×ByteArray)} (h:HpAt B W hb rb most rv os) {g:Nat} (hg:HpB hb rb rv os g):B≤g∧g<W.heap.size:=by
 rcases hg with rfl|rfl|hg| ⟨o,ho,rfl⟩
 ·exact⟨h.lo.1,h.hx.lt⟩
 ·exact⟨h.lo.2,h.rx.lt⟩
 ·exact h.own.lt g hg
 ·obtain⟨h1,s,h2⟩:=h.ob o ho
  exact⟨h1,h2.lt⟩
theorem own_bx {w:World} {B e:Nat} {v:Value} {n:Nat} {xs vs:List Value} {g t:Nat} (h:w.ownsRow B e 1 v n xs) (hb:Bx w g vs t) (ht:t≠e):v.ownBlock≠some g:=by
 rcases h.2 with⟨rfl,_⟩ | ⟨g',cap,cur,rfl,_,h3,_⟩
 ·intro e;cases e
 ·intro e
  have e2:g'=g:=by
   have:some g'=some g:=e
   injection this
  subst e2
  unfold Bx at hb
  rw [hb] at h3
  injection h3 with h3
  injection h3 with _ h4
  exact ht h4
theorem hpcount_any {B:Nat} {W:World} {hb rb most:Nat} {rv:Value} {os:List (Nat×ByteArray)} (h:HpAt B W hb rb most rv os):
  Calls Tryz.prog 195 #[.pointer (some ⟨rb,0,none⟩)] W fun e w'=>e= .returned (.int .i64 ((os.length:Int) - 1))∧W=w':=by
 obtain⟨A,c,rfl,hc,_⟩:=sl_len (slAt_own h.own anyB (by omega) h.le (fun _ _=>trivial))
 have r0:=h.rx.cell 0 rfl
 have hle:=h.le
 clear h
 go_enter Tryz.func195,Tryz.ntmps195
 go_wp2_with fail
 go_ret
 exact⟨rfl,rfl⟩
theorem add_any {B:Nat} {W:World} {hb rb most:Nat} {rv:Value} {os:List (Nat×ByteArray)} (h:HpAt B W hb rb most rv os) (ob:Nat) (cls:ByteArray) (s:Value) (ho:Bx W ob [.string cls,s] 121) (hB:B≤ob) (hl:os.length<1000000):
  Calls Tryz.prog 193 #[.pointer (some ⟨rb,0,none⟩), .pointer (some ⟨ob,0,none⟩)] W fun e w'=>e= .returned (.int .i64 ((os.length:Int)+1))∧ ∃rv',HpAt B w' hb rb most rv' (os++ [(ob,cls)])∧Below B W w'∧But W.heap.size (rb::rv.ownBlock.toList) W w':=by
 obtain⟨A,c,rfl,hc,_⟩:=sl_len (slAt_own h.own anyB (by omega) h.le (fun _ _=>trivial))
 have r0:=h.rx.cell 0 rfl
 have hBW:B≤W.heap.size:=Nat.le_trans h.lo.1 (Nat.le_of_lt h.hx.lt)
 have H:=Lib.hid h
 have HOb:=Lib.hid ho
 have hrl:=h.rx.lt
 clear h ho
 go_enter Tryz.func193,Tryz.ntmps193
 go_wp2_with (at_builtin;refine stop_here ?_)
 refine go_on ?_
 refine wpl_append (ad:=⟨W.heap.size,0,none⟩) (m:=1) (c:=1) (n:=os.length) (v:= .slice A os.length c) (xs:=obsC os) (w:=W.alloc (.cells #[.pointer (some ⟨ob,0,none⟩)] 117)) (news:= [.pointer (some ⟨ob,0,none⟩)]) rfl _ _ 109 rfl Tryz.underlying109 info_obj rfl (by omega) B rfl (H.out.own.alloc _) rfl rfl (cells_new_at _ _ _ _ (by first|rfl|omega| (simp<;>omega))) (by simp [Value.oneCell']) (by simp only [maxLen];omega) (by omega) (by simp;omega) ?_
 intro v' w2 ho2 hg2 hb2
 have hq: ∀g vs t,Bx W g vs t→t≠117→w2.heap[g]?=W.heap[g]?:=fun g vs t hb ht=>
  (hg2.block g (by have:=hb.lt;simp;omega) (fun e=>own_bx H.out.own hb ht e.symm)).trans (((Below.refl W.heap.size W).alloc (Nat.le_refl _) (.cells #[.pointer (some ⟨ob,0,none⟩)] 117)).block g hb.lt)
 have X2:=Lib.hid (show Bx w2 rb [.slice A os.length c] 111 from(hq rb _ _ H.out.rx (by decide)).trans H.out.rx)
 have Hx2:=Lib.hid (show Bx w2 hb [.int .i64 most, .iface 108 (.pointer (some ⟨rb,0,none⟩))] 115 from(hq hb _ _ H.out.hx (by decide)).trans H.out.hx)
 have Ob2:=Lib.hid (show∀o∈os++ [(ob,cls)],B≤o.1∧ ∃s,Bx w2 o.1 [.string o.2,s] 121 from fun o ho=>by
  rcases List.mem_append.1 ho with ho|ho
  ·obtain⟨h1,s1,h2⟩:=H.out.ob o ho
   exact⟨h1,s1,(hq _ _ _ h2 (by decide)).trans h2⟩
  ·simp only [List.mem_singleton] at ho
   subst ho
   exact⟨hB,s,(hq _ _ _ HOb.out (by decide)).trans HOb.out⟩)
 have HO2:=Lib.hid (own_eq ho2 (m:=(os++ [(ob,cls)]).length) (by simp) (ys:=obsC (os++ [(ob,cls)])) (by simp [obsC]))
 have HB2:=Lib.hid (((Below.refl B W).alloc hBW (.cells #[.pointer (some ⟨ob,0,none⟩)] 117)).trans hb2)
 have hlen2:(os++ [(ob,cls)]).length=os.length+1:=by simp
 obtain⟨A2,c2,rfl,hc2,_⟩:=sl_len (slAt_own HO2.out anyB (by omega) (by rw [hlen2];omega) (fun _ _=>trivial))
 have HO3:=Lib.hid (show w2.ownsRow B 117 1 (.slice A2 (os.length+1) c2) (os++ [(ob,cls)]).length (obsC (os++ [(ob,cls)])) from by have h:=HO2.out;simp only [List.length_append,List.length_singleton] at h⊢;exact h)
 have x0:=X2.out.cell 0 rfl
 have z0:=X2.out.frozen 0
 have hrl2:=X2.out.lt
 have HL2:=Lib.hid hlen2
 rw [hlen2] at hc2
 have hN:(((os++ [(ob,cls)]).length:Nat):Int)=(os.length:Int)+1:=by simp
 have HBT:=Lib.hid ((But.of_below (S:=rb::(Value.slice A os.length c).ownBlock.toList) ((Below.refl W.heap.size W).alloc (Nat.le_refl _) (.cells #[.pointer (some ⟨ob,0,none⟩)] 117))).grown hg2 (by simp) (fun k hk=> .inl (by simp [hk])))
 clear ho2 hg2 hb2 hq r0 hlen2 hrl
 go_wp2_with fail
 go_ret
 have hne: ∀g vs t,Bx w2 g vs t→g≠rb→Bx (w2.setCell ⟨rb,0,none⟩ (.slice A2 (os.length+1) c2)) g vs t:=fun g vs t hb hg=> (((But.refl w2.heap.size [rb] w2).set ⟨rb,0,none⟩ (.inl (by simp)) _).block g hb.lt (by simpa using hg)).trans hb
 have hty: ∀g vs vs' t t',Bx w2 g vs t→Bx w2 rb vs' t'→t≠t'→g≠rb:=fun g vs vs' t t' h1 h2 ht e=>by
  subst e
  unfold Bx at h1 h2
  rw [h1] at h2
  injection h2 with h2
  injection h2 with _ h4
  exact ht h4
 refine⟨?_,_,⟨hne _ _ _ Hx2.out (hty _ _ _ _ _ Hx2.out X2.out (by decide)),X2.out.set 0 _,own_heap HO3.out fun q hq=> ((But.refl w2.heap.size [rb] w2).set ⟨rb,0,none⟩ (.inl (by simp)) _).block q (HO3.out.lt q hq).2 (by simp;exact fun e=>own_bx HO3.out X2.out (by decide) (e▸hq)),fun o ho=> ?_,H.out.lo,by rw [HL2.out];omega⟩,HB2.out.setCell (p:=⟨rb,0,none⟩) H.out.lo.2 _,HBT.out.set ⟨rb,0,none⟩ (.inl (by simp)) _⟩
 ·first|rfl| (congr 2)
 ·obtain⟨h1,s1,h2⟩:=Ob2.out o ho
  exact⟨h1,s1,hne _ _ _ h2 (hty _ _ _ _ _ h2 X2.out (by decide))⟩
end Go.Proofs.YtpbnjakeielipaaGreatDoor
