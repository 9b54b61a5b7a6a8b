/-
  What the laws rest on, part 10: walks of the program's functions and plain laws. Conditions: none but those that each theorem names.
-/
import Derived.Test.YtpbnjakeielipaaGreatDoorB03
import Derived.Defers
import Derived.Recover
import Derived.RegionTactic
import Derived.Deep.RegionHeld2
import Derived.Test.YtpbnjakeielipaaGreatDoorB09
import Derived.Shelf.Small.Utf8
import Derived.Shelf.Small.Strs
import Derived.Shelf.LaysM
import Derived.Shelf.Strconv.Clone
import Derived.Shelf.Strings.Search1
import Derived.Shelf.Strings.LastIndex
import Derived.Shelf.Strings.Prefix
import Derived.Shelf.Strings.Runes
import Derived.Ground.PaProg
import Derived.Shelf.Path.Small
import Derived.Test.YtpbnjakeielipaaGreatDoorProg
import Derived.Test.YtpbnjakeielipaaGreatDoorB00
import Derived.Test.YtpbnjakeielipaaGreatDoorB06
import Derived.Test.YtpbnjakeielipaaGreatDoorB08
set_option linter.unusedSimpArgs false
set_option linter.unusedVariables false
set_option maxRecDepth 100000
set_option maxHeartbeats 2000000
namespace Go.Proofs.YtpbnjakeielipaaGreatDoor
open Go Go.RowKit Lib
theorem Bx.row_other {w:World} {g:Nat} {vs:List Value} {t:TypeId} (h:Bx w g vs t) (k:Nat) (cs:List Value) (hk:k≠g):Bx (w.setRow k cs.toArray) g vs t:=(setRow_other w k g _ (by omega)).trans h
def Sh (w:World) (g n:Nat) (t:TypeId):Prop:= ∃arr:Array Value,w.heap[g]?=some (.cells arr t (0,0))∧arr.size=n
theorem sh_of_bx {w:World} {g n:Nat} {vs:List Value} {t:TypeId} (h:Bx w g vs t) (hn:vs.length=n):Sh w g n t:=⟨_,h,by simpa using hn⟩
theorem Sh.set {w:World} {g n:Nat} {t:TypeId} (h:Sh w g n t) (p:Addr) (u:Value):Sh (w.setCell p u) g n t:=by
 obtain⟨arr,h1,h2⟩:=h
 by_cases hp:p.block=g
 ·subst hp
  refine⟨if p.spot.isSome=true then arr else arr.setIfInBounds p.off u, ?_, ?_⟩
  ·simp [World.setCell,Array.getElem?_modify,h1]
  ·split<;>simp [h2]
 ·exact⟨arr,(Below.heap_setCell w p u g (fun e=>hp e.symm)).trans h1,h2⟩
theorem bx_of_sh {w:World} {g n:Nat} {vs:List Value} {t:TypeId} (h:Sh w g n t) (hn:vs.length=n) (hc: ∀j,j<n→w.cell? ⟨g,j,none⟩=vs[j]?):Bx w g vs t:=by
 obtain⟨arr,h1,h2⟩:=h
 have e:arr=vs.toArray:=by
  apply Array.ext (by simp [h2,hn])
  intro i hi hi'
  have:=hc i (by omega)
  unfold World.cell? at this
  rw [h1] at this
  simp at this
  have h3:arr[i]?=vs[i]?:=this
  rw [Array.getElem?_eq_getElem hi,List.getElem?_eq_getElem (by omega)] at h3
  injection h3
 unfold Bx
 rw [h1,e]
theorem sh_drew {w:World} {g n:Nat} {t:TypeId} (h:Sh w g n t):Sh w.drew g n t:=h
theorem nine {vs:List Value} (h:vs.length=9): ∃a b c d e f g i j,vs= [a,b,c,d,e,f,g,i,j]:=by
 match vs,h with
 | [a,b,c,d,e,f,g,i,j],_=>exact⟨_,_,_,_,_,_,_,_,_,rfl⟩
theorem wp_frame {P:Program} {c:Code} {Q:Exit→Act→World→Prop} {a':Act} {w:World} (a:Act) (h:a'=a) (k:c.wp P Q a w):c.wp P Q a' w:=by rw [h];exact k
theorem catch_idle (p q s:Addr) (w:World):
  CallsD Tryz.prog 109 #[.pointer (some p), .pointer (some q), .pointer (some s)] .returning w fun e u' w'=>e= .returned (.tuple #[])∧u'= .returning∧w'=w:=by
 refine callsD_of_wpS Tryz.func109 rfl fun c₀ cs hu=> ?_
 apply wpS_seq
 apply wpS_region
 simp [wpOpsS,go_sem,recoverD,hu,Tryz.ntmps109,Exit.thenS]
 apply wpS_seq
 apply wpS_seq
 apply wpS_region
 simp [wpOpsS,go_sem,Exit.thenS]
 refine wpS_cond (t:=true) (by simp [Act.eval,Array.replicate]) ?_
 simp only [if_true]
 refine wpS_of_wp (wp_ret ?_)
 cases c₀
 simp_all [bodyPostS,results,Tryz.results109,Exit.thenS]
theorem catch_stop (C P E:Nat) (a er:Nat) (vs:List Value) (v1 v2:Value) (w:World) (hC:Bx w C vs 104) (hv:vs.length=9) (hP:Bx w P [v1] 3) (hE:Bx w E [v2] 26) (h1:C≠P) (h2:C≠E) (h3:P≠E) (older:List PanicEntry):
  CallsD Tryz.prog 109 #[.pointer (some ⟨C,0,none⟩), .pointer (some ⟨P,0,none⟩), .pointer (some ⟨E,0,none⟩)] (.panicking ({ v:=stopV a er,recovered:=false }::older)) w fun e u' w'=>
   e= .returned (.tuple #[])∧u'= .panicking ({ v:=stopV a er,recovered:=true }::older)∧Bx w' C [.int .i64 0, .int .i64 0, .slice none 0 0, .int .i64 0, .int .i64 0, .int .i64 0, .slice none 0 0, .slice none 0 0, .slice none 0 0] 104∧Bx w' P [.int .i64 a] 3∧Bx w' E [.int .i64 er] 26∧But w.heap.size [C,P,E] w w':=by
 refine callsD_of_wpS Tryz.func109 rfl fun c₀ cs hu=> ?_
 apply wpS_seq
 apply wpS_region
 simp [wpOpsS,go_sem,recoverD,hu,Tryz.ntmps109,Exit.thenS,stopV]
 apply wpS_seq
 apply wpS_seq
 apply wpS_region
 simp [wpOpsS,go_sem,Exit.thenS]
 refine wpS_cond (t:=false) (by simp [Act.eval,Array.replicate]) ?_
 simp only [Bool.false_eq_true,if_false]
 refine wpS_of_wp (wp_skip ?_)
 simp only [Exit.thenS]
 refine wpS_of_wp ?_
 have x1:=hC.lt
 have x2:=hP.lt
 have x3:=hE.lt
 have hta: ∀W:World,(Instr.typeAssert (stopV a er) 20 240 true).run Tryz.prog W= .ok (.tuple #[.agg #[.int .i64 a, .int .i64 er], .bool true]) W:=fun W=>by kernel_rfl
 refine wp_frame { tmps:= #[.pointer (some ⟨C,0,none⟩), .pointer (some ⟨P,0,none⟩), .pointer (some ⟨E,0,none⟩),stopV a er,undef,undef,stopV a er,stopV a er, .bool false,undef,undef,undef,undef,undef,undef,undef,undef,undef,undef,undef,undef,undef],defers:= [] } (by kernel_rfl) ?_
 obtain⟨y1,y2,y3,y4,y5,y6,y7,y8,y9,y10,y11,y12⟩:=far C w.heap.size x1
 obtain⟨p1,p2,p3,p4,p5,p6,p7,p8,p9,p10,p11,p12⟩:=far P w.heap.size x2
 obtain⟨q1,q2,q3,q4,q5,q6,q7,q8,q9,q10,q11,q12⟩:=far E w.heap.size x3
 go_wp2_with fail
 have XC:=(hC.below ((Below.refl _ _).alloc (Nat.le_refl _) (.cells #[.int .i64 a, .int .i64 er] 240)) x1)
 have XP:=(hP.below ((Below.refl _ _).alloc (Nat.le_refl _) (.cells #[.int .i64 a, .int .i64 er] 240)) x2)
 have XE:=(hE.below ((Below.refl _ _).alloc (Nat.le_refl _) (.cells #[.int .i64 a, .int .i64 er] 240)) x3)
 have SC:=Lib.hid (sh_of_bx XC hv)
 have SP:=Lib.hid (sh_of_bx XP (n:=1) rfl)
 have SE:=Lib.hid (sh_of_bx XE (n:=1) rfl)
 obtain⟨u0,u1,u2,u3,u4,u5,u6,u7,u8,rfl⟩:=nine hv
 have cC0:=XC.cell 0 rfl
 have zC0:=XC.frozen 0
 have cC1:=XC.cell 1 rfl
 have zC1:=XC.frozen 1
 have cC2:=XC.cell 2 rfl
 have zC2:=XC.frozen 2
 have cC3:=XC.cell 3 rfl
 have zC3:=XC.frozen 3
 have cC4:=XC.cell 4 rfl
 have zC4:=XC.frozen 4
 have cC5:=XC.cell 5 rfl
 have zC5:=XC.frozen 5
 have cC6:=XC.cell 6 rfl
 have zC6:=XC.frozen 6
 have cC7:=XC.cell 7 rfl
 have zC7:=XC.frozen 7
 have cC8:=XC.cell 8 rfl
 have zC8:=XC.frozen 8
 have cP:=XP.cell 0 rfl
 have zP:=XP.frozen 0
 have cE:=XE.cell 0 rfl
 have zE:=XE.frozen 0
 have n1: ¬C=P:=h1
 have n2: ¬C=E:=h2
 have n3: ¬P=E:=h3
 have n4: ¬P=C:=Ne.symm h1
 have n5: ¬E=C:=Ne.symm h2
 have n6: ¬E=P:=Ne.symm h3
 clear hC hP hE XC XP XE hv
 generalize hW:w.alloc (.cells #[.int .i64 a, .int .i64 er] 240)=W at*
 have s0:W.cell? ⟨w.heap.size,0,none⟩=some (.int .i64 a):=by rw [←hW];simp [go_sem]
 have s1:W.cell? ⟨w.heap.size,1,none⟩=some (.int .i64 er):=by rw [←hW];simp [go_sem]
 have HB:=Lib.hid (show But w.heap.size [C,P,E] w W by rw [←hW];exact But.of_below ((Below.refl _ _).alloc (Nat.le_refl _) _))
 clear hW
 go_region_held2 (fun w'=>w'.cell? ⟨w.heap.size,0,none⟩=some (.int .i64 a)∧w'.cell? ⟨w.heap.size,1,none⟩=some (.int .i64 er)) (go_keep) (fail)
 refine(show _∧_ from⟨rfl, ?_⟩)
 refine⟨.panicking ({ v:=stopV a er,recovered:=true }::older),rfl, ?_⟩
 refine⟨.tuple #[],by simp [results,Tryz.results109],rfl,rfl, ?_, ?_, ?_, ?_⟩
 ·refine bx_of_sh (n:=9) (sh_drew ?_) rfl fun j hj=> ?_
  ·repeat(first|with_reducible exact SC.out|with_reducible refine Sh.set ?_ _ _)
  ·obtain rfl|rfl|rfl|rfl|rfl|rfl|rfl|rfl|rfl:j=0∨j=1∨j=2∨j=3∨j=4∨j=5∨j=6∨j=7∨j=8:=by omega
   all_goals simp [go_sem,n1,n2,n3,n4,n5,n6,cC0,cC1,cC2,cC3,cC4,cC5,cC6,cC7,cC8,cP,cE]
 ·refine bx_of_sh (n:=1) (sh_drew ?_) rfl fun j hj=> ?_
  ·repeat(first|with_reducible exact SP.out|with_reducible refine Sh.set ?_ _ _)
  ·obtain rfl:j=0:=by omega
   simp [go_sem,n1,n2,n3,n4,n5,n6,cP,cE]
 ·refine bx_of_sh (n:=1) (sh_drew ?_) rfl fun j hj=> ?_
  ·repeat(first|with_reducible exact SE.out|with_reducible refine Sh.set ?_ _ _)
  ·obtain rfl:j=0:=by omega
   simp [go_sem,n1,n2,n3,n4,n5,n6,cP,cE]
 ·refine But.below_trans ?_ (Below.refl _ _).drew
  repeat(first|with_reducible exact HB.out|with_reducible refine But.set ?_ _ (.inl (by simp)) _)
def zeroClass:List Value:= [.int .i64 0, .int .i64 0, .slice none 0 0, .int .i64 0, .int .i64 0, .int .i64 0, .slice none 0 0, .slice none 0 0, .slice none 0 0]
def ReadPost (w:World) (l:List UInt8) (e:Ending) (w':World):Prop:=
 Below w.heap.size w w'∧match readP l with
  | .ok c=> ∃pool ifs flds mths,e= .returned (.tuple #[.agg (c.cells pool ifs flds mths).toArray, .int .i64 0, .int .i64 0])∧ClassAt w' (fun g=>w.heap.size≤g) c pool ifs flds mths
  | .error (a,er)=>e= .returned (.tuple #[.agg zeroClass.toArray, .int .i64 a, .int .i64 er])
theorem results_three {P:Program} {fn:Func} {tmps:Array Value} {a b c:Tmp} {T U V:TypeId} {g p q:Nat} {vs:List Value} {x y:Value} {t u v:TypeId} {w:World} {d d1 d2:TypeDesc} (hr:fn.results= #[.cell a T, .cell b U, .cell c V])
  (ha:tmps.getD a undef= .pointer (some ⟨g,0,none⟩)) (hb:tmps.getD b undef= .pointer (some ⟨p,0,none⟩)) (hc:tmps.getD c undef= .pointer (some ⟨q,0,none⟩)) (h1:Bx w g vs t) (h2:Bx w p [x] u) (h3:Bx w q [y] v)
  (hu:P.underlying T=some d) (hd:(match d with| .struct _| .array _ _=>true|_=>false)=true) (hi:(P.info? T).map (·.size)=some vs.length)
  (hu1:P.underlying U=some d1) (hd1:(match d1 with| .struct _=>true| .array _ _=>true|_=>false)=false) (hu2:P.underlying V=some d2) (hd2:(match d2 with| .struct _=>true| .array _ _=>true|_=>false)=false):
  (results fn tmps).run P w= .ok (.tuple #[.agg vs.toArray,x,y]) w:=by
 have k1:=run_loadVar_row (P:=P) w g t T vs.toArray (0,0) d h1 hu hd (by simpa using hi)
 have k2:(loadVar U ⟨p,0,none⟩).run P w= .ok x w:=by
  have:=h2.cell 0 rfl
  simp only [loadVar,isAgg,run_underlying hu1,Sem.run_bind,Result.andThen]
  cases d1<;>simp_all [go_sem]
 have k3:(loadVar V ⟨q,0,none⟩).run P w= .ok y w:=by
  have:=h3.cell 0 rfl
  simp only [loadVar,isAgg,run_underlying hu2,Sem.run_bind,Result.andThen]
  cases d2<;>simp_all [go_sem]
 unfold results
 rw [hr]
 rw [Array.getD_eq_getD_getElem?] at ha hb hc
 simp [ha,hb,hc,asAddr,k1,k2,k3,Result.andThen]
theorem readpost_error {w w':World} {l:List UInt8} {a er:Nat} {e:Ending} (hp:readP l= .error (a,er)) (he:e= .returned (.tuple #[.agg zeroClass.toArray, .int .i64 a, .int .i64 er])) (hb:Below w.heap.size w w'):ReadPost w l e w':=by
 unfold ReadPost
 rw [hp]
 exact⟨hb,he⟩
theorem readpost_ok {w w':World} {l:List UInt8} {c:ClassV} {pool ifs flds mths:Value} {e:Ending} (hp:readP l= .ok c) (he:e= .returned (.tuple #[.agg (c.cells pool ifs flds mths).toArray, .int .i64 0, .int .i64 0])) (hc:ClassAt w' (fun g=>w.heap.size≤g) c pool ifs flds mths) (hb:Below w.heap.size w w'):ReadPost w l e w':=by
 unfold ReadPost
 rw [hp]
 exact⟨hb,pool,ifs,flds,mths,he,hc⟩
theorem below_of_but {B B':Nat} {S:List Nat} {w w':World} (h:But B S w w') (hB:B'≤B) (hS: ∀k∈S,B'≤k):Below B' w w':=(h.mono (S':= []) hB (fun k hk hm=>by have:=hS k hm;omega)).below
theorem rdr_new {w:World} (T:TypeId) {A:Option Addr} {cap:Nat} {l:List UInt8} (R:Nat) (hR:R=w.heap.size) (hrd:RdB w A l.length cap l) (hA: ∀a,A=some a→a.block<w.heap.size) (hl:l.length≤65536):
  RdrAt (w.alloc (.cells #[.slice A l.length cap, .int .i64 0, .int .i64 4611686018427387904, .int .i64 0, .slice none 0 0] T)) R A cap l ⟨0,4611686018427387904,0, []⟩:=by
 subst hR
 exact⟨by simp [go_sem],by simp [go_sem],by simp [go_sem],by simp [go_sem],fun o=>by simp [go_sem],hrd.alloc _,fun a ha=>by have:=hA a ha;omega,by simp,hl,by simp,by simp,by simp⟩
theorem reader_pool (w:World) (T:TypeId) (R:Nat) (hR:R=w.heap.size) (A:Option Addr) (n cap:Nat):(w.alloc (.cells #[.slice A n cap, .int .i64 0, .int .i64 4611686018427387904, .int .i64 0, .slice none 0 0] T)).cell? ⟨R,4,none⟩=some (.slice none 0 0):=by
 subst hR
 simp [go_sem]
theorem CPost.cases {w w':World} {r:Nat} {p:Rx ClassV} {e:Ending} (h:CPost w r p e w'):(∃a er,p= .error (a,er)∧But w.heap.size [r] w w'∧e= .panicked [{ v:=stopV a er,recovered:=false }])∨
  ∃c s pool ifs flds mths,p= .ok (c,s)∧But w.heap.size [r] w w'∧e= .returned (.agg (c.cells pool ifs flds mths).toArray)∧ClassAt w' (fun g=>w.heap.size≤g) c pool ifs flds mths:=by
 rcases p with⟨a,er⟩ | ⟨c,s⟩
 ·exact .inl ⟨a,er,rfl,h.1,h.2⟩
 ·obtain⟨pool,ifs,flds,mths,h1,h2⟩:=h.2
  exact .inr ⟨c,s,pool,ifs,flds,mths,rfl,h.1,h1,h2⟩
theorem class_keep {w w':World} {lo:Nat} {c:ClassV} {p i f m:Value} (h:ClassAt w (fun g=>lo≤g) c p i f m) (hk:Kp lo w w'):ClassAt w' (fun g=>lo≤g) c p i f m where
 hpool:=hk.slat h.hpool
 hifs:=hk.slat h.hifs
 hflds:=hk.slat h.hflds
 hmths:=by
  obtain⟨ms,h1,h2,h3⟩:=h.hmths
  exact⟨ms,h1,hk.slat h2,fun q hq=>hk.meth (h3 q hq)⟩
theorem read_any (HF:FieldC) (HM:MethodC) (A:Option Addr) (cap:Nat) (l:List UInt8) (w:World) (hrd:RdB w A l.length cap l) (hA: ∀a,A=some a→a.block<w.heap.size) (hl:l.length≤1048576):
  Calls Tryz.prog 95 #[.slice A l.length cap] w (ReadPost w l):=by
 have hmf: ∀(fn:Fn) (first cap:Array Value) (w:World),(Instr.makeFunc fn first cap).run Tryz.prog w= .ok (.func fn first cap) w:=fun _ _ _ _=>rfl
 have HRD:=Lib.hid hrd
 have HAL:=Lib.hid hA
 clear hrd hA
 have hB0:=Lib.hid ((((Below.refl w.heap.size w).alloc (Nat.le_refl _) (.cells zeroClass.toArray 104)).alloc (by simp) (.cells #[.int .i64 0] 3)).alloc (by simp;omega) (.cells #[.int .i64 0] 26))
 have XC0:=Lib.hid (((bx_new w zeroClass 104).below ((Below.refl _ _).alloc (Nat.le_refl _) (.cells #[.int .i64 0] 3)) (by simp)).below ((Below.refl _ _).alloc (Nat.le_refl _) (.cells #[.int .i64 0] 26)) (by simp;omega))
 have XP0:=Lib.hid ((bx_new_at (w.alloc (.cells zeroClass.toArray 104)) [.int .i64 0] 3 (w.heap.size+1) (by simp)).below ((Below.refl _ _).alloc (Nat.le_refl _) (.cells #[.int .i64 0] 26)) (by simp))
 have XE0:=Lib.hid (bx_new_at ((w.alloc (.cells zeroClass.toArray 104)).alloc (.cells #[.int .i64 0] 3)) [.int .i64 0] 26 (w.heap.size+1+1) (by simp))
 by_cases hbig:65536<l.length
 ·have HP:=Lib.hid (show readP l= .error (0,2) by unfold readP;rw [if_pos hbig])
  go_enter_defers Tryz.func95,Tryz.ntmps95
  go_wp2
  refine leaves_cons (f:=109) (args:= #[.pointer (some ⟨w.heap.size,0,none⟩), .pointer (some ⟨w.heap.size+1,0,none⟩), .pointer (some ⟨w.heap.size+1+1,0,none⟩)]) (by simp) (by simp [go_sem]) ?_
  refine(catch_stop w.heap.size (w.heap.size+1) (w.heap.size+1+1) 0 2 zeroClass _ _ _ XC0.out rfl XP0.out XE0.out (by omega) (by omega) (by omega) []).mono ?_
  rintro e u' w'' ⟨rfl,rfl,hC,hP,hE,hb⟩
  exact⟨_,results_three rfl rfl rfl rfl hC hP hE Tryz.underlying104 rfl (by kernel_rfl) Tryz.underlying3 rfl Tryz.underlying26 rfl,readpost_error HP.out rfl (hB0.out.trans (below_of_but hb (by simp;omega) (by intro k hk;simp at hk;omega)))⟩
 ·have HR:=Lib.hid (rdr_new (w:=(((w.alloc (.cells zeroClass.toArray 104)).alloc (.cells #[.int .i64 0] 3)).alloc (.cells #[.int .i64 0] 26))) 244 (A:=A) (cap:=cap) (l:=l) (w.heap.size+1+1+1) (by simp) (HRD.out.below hB0.out) (fun a ha=>by have:=HAL.out a ha;simp;omega) (by omega))
  have HC4:=Lib.hid (reader_pool (((w.alloc (.cells zeroClass.toArray 104)).alloc (.cells #[.int .i64 0] 3)).alloc (.cells #[.int .i64 0] 26)) 244 (w.heap.size+1+1+1) (by simp) A l.length cap)
  have hbig2: ¬(65536:Int) < (l.length:Int):=by omega
  go_enter_defers Tryz.func95,Tryz.ntmps95
  go_wp2_with (go_at_call 110;refine(clsread_any HF HM (w.heap.size+1+1+1) A cap l _ _ HR.out _ HC4.out).mono ?_;refine stop_here ?_)
  refine go_on ?_
  intro e w1 hq
  rcases hq.cases with⟨a,er,hp,hb,rfl⟩ | ⟨c,s,pool,ifs,flds,mths,hp,hb,rfl,hcl⟩
  ·have HP:=Lib.hid (show readP l= .error (a,er) by unfold readP;rw [if_neg hbig,hp])
   have XC1:=Lib.hid ((XC0.out.below ((Below.refl _ _).alloc (Nat.le_refl _) _) XC0.out.lt).but hb (ne_one (by omega)))
   have XP1:=Lib.hid ((XP0.out.below ((Below.refl _ _).alloc (Nat.le_refl _) _) XP0.out.lt).but hb (ne_one (by omega)))
   have XE1:=Lib.hid ((XE0.out.below ((Below.refl _ _).alloc (Nat.le_refl _) _) XE0.out.lt).but hb (ne_one (by omega)))
   have hz1:=hb.size
   simp only [World.size_alloc] at hz1
   have HW1:=Lib.hid ((hB0.out.alloc (by simp;omega) _).trans (below_of_but hb (by simp;omega) (by intro k hk;simp at hk;omega)))
   clear hp hb
   go_wp2_with fail
   refine leaves_cons (f:=109) (args:= #[.pointer (some ⟨w.heap.size,0,none⟩), .pointer (some ⟨w.heap.size+1,0,none⟩), .pointer (some ⟨w.heap.size+1+1,0,none⟩)]) (by simp) (by simp [go_sem]) ?_
   refine(catch_stop w.heap.size (w.heap.size+1) (w.heap.size+1+1) a er zeroClass _ _ _ XC1.out rfl XP1.out XE1.out (by omega) (by omega) (by omega) []).mono ?_
   rintro e u' w'' ⟨rfl,rfl,hC,hP,hE,hb⟩
   exact⟨_,results_three rfl rfl rfl rfl hC hP hE Tryz.underlying104 rfl (by kernel_rfl) Tryz.underlying3 rfl Tryz.underlying26 rfl,readpost_error HP.out rfl (HW1.out.trans (below_of_but hb (by omega) (by intro k hk;simp at hk;omega)))⟩
  ·have HP:=Lib.hid (show readP l= .ok c by unfold readP;rw [if_neg hbig,hp])
   have XC1:=Lib.hid ((XC0.out.below ((Below.refl _ _).alloc (Nat.le_refl _) _) XC0.out.lt).but hb (ne_one (by omega)))
   have XP1:=Lib.hid ((XP0.out.below ((Below.refl _ _).alloc (Nat.le_refl _) _) XP0.out.lt).but hb (ne_one (by omega)))
   have XE1:=Lib.hid ((XE0.out.below ((Below.refl _ _).alloc (Nat.le_refl _) _) XE0.out.lt).but hb (ne_one (by omega)))
   have hz1:=hb.size
   simp only [World.size_alloc] at hz1
   have HW1:=Lib.hid ((hB0.out.alloc (by simp;omega) _).trans (below_of_but hb (by simp;omega) (by intro k hk;simp at hk;omega)))
   have HCL:=Lib.hid hcl
   obtain⟨A1,k1,rfl,_⟩:=hcl.hpool
   obtain⟨A2,k2,rfl,_⟩:=hcl.hifs
   obtain⟨A3,k3,rfl,_⟩:=hcl.hflds
   obtain⟨_,_,⟨A4,k4,rfl,_⟩,_⟩:=hcl.hmths
   clear hp hb hcl
   have XP2:=Lib.hid (XP1.out.row_other w.heap.size (c.cells (.slice A1 c.pool.length k1) (.slice A2 c.ifs.length k2) (.slice A3 c.flds.length k3) (.slice A4 c.mths.length k4)) (by omega))
   have XE2:=Lib.hid (XE1.out.row_other w.heap.size (c.cells (.slice A1 c.pool.length k1) (.slice A2 c.ifs.length k2) (.slice A3 c.flds.length k3) (.slice A4 c.mths.length k4)) (by omega))
   have cP:=XP2.out.cell 0 rfl
   have zP:=XP2.out.frozen 0
   have cE:=XE2.out.cell 0 rfl
   have zE:=XE2.out.frozen 0
   go_wp2_with (refine wpList_store_row rfl _ _ _ rfl w.heap.size (c.cells (.slice A1 c.pool.length k1) (.slice A2 c.ifs.length k2) (.slice A3 c.flds.length k3) (.slice A4 c.mths.length k4)).toArray rfl rfl _ _ XC1.out (by kernel_rfl) rfl (by simp [ClassV.cells,Value.oneCell']) ?_)
   refine leaves_cons (f:=109) (args:= #[.pointer (some ⟨w.heap.size,0,none⟩), .pointer (some ⟨w.heap.size+1,0,none⟩), .pointer (some ⟨w.heap.size+1+1,0,none⟩)]) (by simp) (by simp [go_sem]) ?_
   refine(catch_idle ⟨w.heap.size,0,none⟩ ⟨w.heap.size+1,0,none⟩ ⟨w.heap.size+1+1,0,none⟩ _).mono ?_
   rintro e u' w'' ⟨rfl,rfl,rfl⟩
   have hC:=((XC1.out.row (c.cells (.slice A1 c.pool.length k1) (.slice A2 c.ifs.length k2) (.slice A3 c.flds.length k3) (.slice A4 c.mths.length k4))).set_other ⟨w.heap.size+1,0,none⟩ (.int .i64 0) (by simp)).set_other ⟨w.heap.size+1+1,0,none⟩ (.int .i64 0) (by simp;omega)
   have hP:=(XP2.out.set 0 (.int .i64 0)).set_other ⟨w.heap.size+1+1,0,none⟩ (.int .i64 0) (by simp)
   have hE:=(XE2.out.set_other ⟨w.heap.size+1,0,none⟩ (.int .i64 0) (by simp)).set 0 (.int .i64 0)
   refine⟨_,results_three rfl rfl rfl rfl hC hP hE Tryz.underlying104 rfl (by kernel_rfl) Tryz.underlying3 rfl Tryz.underlying26 rfl,readpost_ok HP.out rfl ?_ ?_⟩
   ·exact(class_keep HCL.out (((((Kp.refl _ w1).row (by first| (simp;done) | (simp;omega)) _).set _ _ (by first| (simp;done) | (simp;omega))).set _ _ (by first| (simp;done) | (simp;omega))))).mono fun g _ hg=>by simp at hg;omega
   ·exact((below_setRow HW1.out (Nat.le_refl _) _).setCell (by simp) _).setCell (by simp;omega) _
end Go.Proofs.YtpbnjakeielipaaGreatDoor
namespace Go.Proofs
open Go.Shelf
def Tryz.lays137_ren:Go.Shelf.Ren:=⟨fun|137=>105|217=>118|266=>132|n=>n,fun|9=>9|5=>5|3=>3|n=>n,fun|n=>n⟩
theorem Tryz.lays137:Go.Proofs.Lays.n137 Tryz.prog Tryz.lays137_ren:={
 mixed:=by kernel_rfl
 f137:=Tryz.func105.trans (congrArg some (by kernel_rfl))
 f217:=Tryz.func118.trans (congrArg some (by kernel_rfl))
 f266:=Tryz.func132.trans (congrArg some (by kernel_rfl))
 t3:=Tryz.underlying3
 a3:=Tryz.isAgg3
 z3:=Tryz.sizeOf3
 v3:=Tryz.zeroValue3
 t5:=Tryz.underlying5
 a5:=Tryz.isAgg5
 z5:=Tryz.sizeOf5
 v5:=Tryz.zeroValue5
 t9:=Tryz.underlying9
 a9:=Tryz.isAgg9
 z9:=Tryz.sizeOf9
 v9:=Tryz.zeroValue9 }
open Go.RowKit in
theorem Tryz.strings_IndexByte (s:ByteArray) (c:Int) (w:World):
  Calls Tryz.prog 105 #[.string s, .int .u8 c] w fun e w'=>e= .returned (.int .i64 (Lib.indexByte s.data.toList c.toNat.toUInt8))∧w'=w:=Any.strings_IndexByte Tryz.lays137 s c w
def Tryz.laysM316_ren:Go.Shelf.Ren:=⟨fun|316=>131|n=>n,fun|9=>9|3=>3|4=>4|37=>35|0=>0|127=>293|5=>5|n=>n,fun|n=>n⟩
theorem Tryz.laysM316:Go.Proofs.LaysM.n316 Tryz.prog Tryz.laysM316_ren:={
 mixed:=by kernel_rfl
 f316:=Tryz.func131.trans (congrArg some (by kernel_rfl))
 t0:=Tryz.underlying0
 a0:=Tryz.isAgg0
 z0:=Tryz.sizeOf0
 v0:=Tryz.zeroValue0
 t3:=Tryz.underlying3
 a3:=Tryz.isAgg3
 z3:=Tryz.sizeOf3
 v3:=Tryz.zeroValue3
 t4:=Tryz.underlying4
 a4:=Tryz.isAgg4
 z4:=Tryz.sizeOf4
 v4:=Tryz.zeroValue4
 t9:=Tryz.underlying9
 a9:=Tryz.isAgg9
 z9:=Tryz.sizeOf9
 v9:=Tryz.zeroValue9
 t37:=Tryz.underlying35
 a37:=Tryz.isAgg35
 z37:=Tryz.sizeOf35
 v37:=Tryz.zeroValue35
 t127:=Tryz.underlying293
 a127:=Tryz.isAgg293
 z127:=Tryz.sizeOf293
 v127:=Tryz.zeroValue293
 t5:=Tryz.underlying5
 a5:=Tryz.isAgg5
 z5:=Tryz.sizeOf5
 v5:=Tryz.zeroValue5
 i0:=by kernel_rfl
 i3:=by kernel_rfl
 i4:=by kernel_rfl
 i5:=by kernel_rfl
 i9:=by kernel_rfl
 i37:=by kernel_rfl
 i127:=by kernel_rfl }
open Go.RowKit in
theorem Tryz.stringslite_Clone (s:ByteArray) (w:World) (hlim:s.size≤281474976710656):
  Calls Tryz.prog 131 #[.string s] w fun e w'=>e= .returned (.string s)∧Below w.heap.size w w':=Any.stringslite_Clone Tryz.laysM316 s w hlim
def Tryz.lays149_ren:Go.Shelf.Ren:=⟨fun|149=>97|222=>116|n=>n,fun|9=>9|5=>5|3=>3|4=>4|n=>n,fun|n=>n⟩
theorem Tryz.lays149:Go.Proofs.Lays.n149 Tryz.prog Tryz.lays149_ren:={
 mixed:=by kernel_rfl
 f149:=Tryz.func97.trans (congrArg some (by kernel_rfl))
 f222:=Tryz.func116.trans (congrArg some (by kernel_rfl))
 t3:=Tryz.underlying3
 a3:=Tryz.isAgg3
 z3:=Tryz.sizeOf3
 v3:=Tryz.zeroValue3
 t4:=Tryz.underlying4
 a4:=Tryz.isAgg4
 z4:=Tryz.sizeOf4
 v4:=Tryz.zeroValue4
 t5:=Tryz.underlying5
 a5:=Tryz.isAgg5
 z5:=Tryz.sizeOf5
 v5:=Tryz.zeroValue5
 t9:=Tryz.underlying9
 a9:=Tryz.isAgg9
 z9:=Tryz.sizeOf9
 v9:=Tryz.zeroValue9 }
open Go.RowKit Go.Lib in
theorem Tryz.strings_LastIndexByte (s:ByteArray) (c:Int) (hs:s.size<4611686018427387904) (w:World):
  Calls Tryz.prog 97 #[.string s, .int .u8 c] w fun e w'=>e= .returned (.int .i64 (Lib.lastIndexByte s c))∧w'=w:=Any.strings_LastIndexByte Tryz.lays149 s c hs w
def Tryz.lays99_ren:Go.Shelf.Ren:=⟨fun|99=>40|206=>71|n=>n,fun|9=>9|4=>4|3=>3|n=>n,fun|n=>n⟩
theorem Tryz.lays99:Go.Proofs.Lays.n99 Tryz.prog Tryz.lays99_ren:={
 mixed:=by kernel_rfl
 f99:=Tryz.func40.trans (congrArg some (by kernel_rfl))
 f206:=Tryz.func71.trans (congrArg some (by kernel_rfl))
 t3:=Tryz.underlying3
 a3:=Tryz.isAgg3
 z3:=Tryz.sizeOf3
 v3:=Tryz.zeroValue3
 t4:=Tryz.underlying4
 a4:=Tryz.isAgg4
 z4:=Tryz.sizeOf4
 v4:=Tryz.zeroValue4
 t9:=Tryz.underlying9
 a9:=Tryz.isAgg9
 z9:=Tryz.sizeOf9
 v9:=Tryz.zeroValue9 }
open Go.RowKit Go.Lib in
theorem Tryz.strings_HasPrefix (s p:ByteArray) (w:World):
  Calls Tryz.prog 40 #[.string s, .string p] w fun e w'=>e= .returned (.bool (Lib.hasPrefix s.data.toList p.data.toList))∧w'=w:=Any.strings_HasPrefix Tryz.lays99 s p w
def Tryz.lays151_ren:Go.Shelf.Ren:=⟨fun|151=>70|152=>94|137=>105|119=>106|224=>107|225=>108|217=>118|266=>132|n=>n,fun|9=>9|21=>21|4=>4|3=>3|5=>5|0=>0|46=>214|n=>n,fun|n=>n⟩
theorem Tryz.lays151:Go.Proofs.Lays.n151 Tryz.prog Tryz.lays151_ren:={
 mixed:=by kernel_rfl
 f119:=Tryz.func106.trans (congrArg some (by kernel_rfl))
 f137:=Tryz.func105.trans (congrArg some (by kernel_rfl))
 f151:=Tryz.func70.trans (congrArg some (by kernel_rfl))
 f152:=Tryz.func94.trans (congrArg some (by kernel_rfl))
 f217:=Tryz.func118.trans (congrArg some (by kernel_rfl))
 f224:=Tryz.func107.trans (congrArg some (by kernel_rfl))
 f225:=Tryz.func108.trans (congrArg some (by kernel_rfl))
 f266:=Tryz.func132.trans (congrArg some (by kernel_rfl))
 t0:=Tryz.underlying0
 a0:=Tryz.isAgg0
 z0:=Tryz.sizeOf0
 v0:=Tryz.zeroValue0
 t3:=Tryz.underlying3
 a3:=Tryz.isAgg3
 z3:=Tryz.sizeOf3
 v3:=Tryz.zeroValue3
 t4:=Tryz.underlying4
 a4:=Tryz.isAgg4
 z4:=Tryz.sizeOf4
 v4:=Tryz.zeroValue4
 t5:=Tryz.underlying5
 a5:=Tryz.isAgg5
 z5:=Tryz.sizeOf5
 v5:=Tryz.zeroValue5
 t9:=Tryz.underlying9
 a9:=Tryz.isAgg9
 z9:=Tryz.sizeOf9
 v9:=Tryz.zeroValue9
 t21:=Tryz.underlying21
 a21:=Tryz.isAgg21
 z21:=Tryz.sizeOf21
 v21:=Tryz.zeroValue21
 t46:=Tryz.underlying214
 a46:=Tryz.isAgg214
 z46:=Tryz.sizeOf214
 v46:=Tryz.zeroValue214 }
open Go.RowKit Go.Lib in
theorem Tryz.strings_ContainsRune_ascii (s:ByteArray) (r:Int) (w:World) (h0:0≤r) (h1:r<128):
  Calls Tryz.prog 70 #[.string s, .int .i32 r] w fun e w'=>e= .returned (.bool (decide (0≤Lib.indexByte s.data.toList r.toNat.toUInt8)))∧w'=w:=Any.strings_ContainsRune_ascii Tryz.lays151 s r w h0 h1
end Go.Proofs
set_option maxHeartbeats 1000000
namespace Go.Proofs.YtpbnjakeielipaaGreatDoor
open Go Go.RowKit Lib
theorem package_any (s:ByteArray) (w:World) (hs:s.size≤1048576) (h0: -1≤Lib.lastIndexByte s 47) (h1:Lib.lastIndexByte s 47<s.size):
  Calls Tryz.prog 76 #[.string s] w fun e w'=>e= .returned (.string (s.extract 0 (Lib.lastIndexByte s 47).toNat))∧w=w':=by
 obtain⟨z,hz⟩: ∃z,Lib.lastIndexByte s 47=z:=⟨_,rfl⟩
 have HZ:=Lib.hid hz
 rw [hz] at h0 h1⊢
 clear hz
 go_enter Tryz.func76,Tryz.ntmps76
 go_wp2_with (go_at_call 97;refine(Tryz.strings_LastIndexByte s 47 (by omega) _).mono ?_;rw [HZ.out];rintro e w' ⟨rfl,rfl⟩)
 go_ret
 have e:(max 0 z).toNat=z.toNat:=by omega
 exact⟨by rw [←e];rfl,rfl⟩
def packageS (s:ByteArray):ByteArray:=s.extract 0 (Lib.lastIndexByte s 47).toNat
theorem package_all (s:ByteArray) (w:World) (hs:s.size≤1048576):Calls Tryz.prog 76 #[.string s] w fun e w'=>e= .returned (.string (packageS s))∧w=w':=by
 have h: -1≤Lib.lastIndexByte s 47∧Lib.lastIndexByte s 47<s.size:=by
  rcases Lib.lastIndexByte_spec s 47 with⟨h,_⟩ | ⟨i,hi,h,_⟩ <;>rw [h] <;>omega
 exact package_any s w hs h.1 h.2
end Go.Proofs.YtpbnjakeielipaaGreatDoor
namespace Go.Proofs.YtpbnjakeielipaaGreatDoor
open Go Go.RowKit Lib
def failV (name:ByteArray):Value:= .iface 123 (.string name)
theorem failed_any (s:ByteArray) (hs:s.size≤100) (w:World):
  Calls Tryz.prog 72 #[.string s] w fun e w'=>e= .returned (failV (⟨#[106,97,118,97,47,108,97,110,103,47]⟩++s))∧w'=w:=by
 go_enter Tryz.func72,Tryz.ntmps72
 go_wp2
 go_ret
 exact⟨rfl,rfl⟩
end Go.Proofs.YtpbnjakeielipaaGreatDoor
set_option maxHeartbeats 2000000
namespace Go.Proofs.YtpbnjakeielipaaGreatDoor
open Go Go.RowKit Lib Go.Maps
def langB (s:ByteArray):ByteArray:=⟨#[106,97,118,97,47,108,97,110,103,47]⟩++s
def noDefB:ByteArray:=⟨#[78,111,67,108,97,115,115,68,101,102,70,111,117,110,100,69,114,114,111,114]⟩
def formB:ByteArray:=⟨#[67,108,97,115,115,70,111,114,109,97,116,69,114,114,111,114]⟩
def versB:ByteArray:=⟨#[85,110,115,117,112,112,111,114,116,101,100,67,108,97,115,115,86,101,114,115,105,111,110,69,114,114,111,114]⟩
def circB:ByteArray:=⟨#[67,108,97,115,115,67,105,114,99,117,108,97,114,105,116,121,69,114,114,111,114]⟩
def illeB:ByteArray:=⟨#[73,108,108,101,103,97,108,65,99,99,101,115,115,69,114,114,111,114]⟩
def incoB:ByteArray:=⟨#[73,110,99,111,109,112,97,116,105,98,108,101,67,108,97,115,115,67,104,97,110,103,101,69,114,114,111,114]⟩
def readQ (CE:ClassV→Int) (l:List UInt8) (name:ByteArray):Except ByteArray (ClassV×TypV):=
 match readP l with
 | .error _=> .error formB
 | .ok c=>if CE c=12 then .error versB else if CE c≠0 then .error formB else if(outT c).name=name then .ok (c,outT c) else .error noDefB
def LReadPost (r:Except ByteArray (ClassV×TypV)) (w:World) (e:Ending) (w':World):Prop:=Below w.heap.size w w'∧
 match r with
 | .error s=> ∃c9 t6:List Value,c9.length=9∧t6.length=6∧(∀u∈c9,u.oneCell'=true)∧(∀u∈t6,u.oneCell'=true)∧e= .returned (.tuple #[.agg c9.toArray, .agg t6.toArray,failV (langB s)])
 | .ok (c,t)=> ∃p i f m iv fv mv,e= .returned (.tuple #[.agg (c.cells p i f m).toArray, .agg (t.vals iv fv mv).toArray, .nilIface])∧ClassAt w' (fun g=>w.heap.size≤g) c p i f m∧TypAt w' (fun g=>w.heap.size≤g) t iv fv mv
theorem results_cct {P:Program} {fn:Func} {tmps:Array Value} {a b c:Tmp} {T U:TypeId} {g p:Nat} {vs us:List Value} {t u:TypeId} {w:World} {d d1:TypeDesc} {x:Value} (hr:fn.results= #[.cell a T, .cell b U, .tmp c])
  (ha:tmps.getD a undef= .pointer (some ⟨g,0,none⟩)) (hb:tmps.getD b undef= .pointer (some ⟨p,0,none⟩)) (hx:tmps.getD c undef=x) (h1:Bx w g vs t) (h2:Bx w p us u)
  (hu:P.underlying T=some d) (hd:(match d with| .struct _| .array _ _=>true|_=>false)=true) (hi:(P.info? T).map (·.size)=some vs.length)
  (hu1:P.underlying U=some d1) (hd1:(match d1 with| .struct _| .array _ _=>true|_=>false)=true) (hi1:(P.info? U).map (·.size)=some us.length):(results fn tmps).run P w= .ok (.tuple #[.agg vs.toArray, .agg us.toArray,x]) w:=by
 have r1:=run_loadVar_row (P:=P) w g t T vs.toArray (0,0) d h1 hu hd (by simpa using hi)
 have r2:=run_loadVar_row (P:=P) w p u U us.toArray (0,0) d1 h2 hu1 hd1 (by simpa using hi1)
 unfold results
 rw [hr]
 rw [Array.getD_eq_getD_getElem?] at ha hb hx
 simp [ha,hb,hx,asAddr,r1,r2,Result.andThen]
theorem quiet_row {P:Program} {ops:Array Oper} {C:World→Prop} {Q:Act→Prop} {o:Oper} {rest:List Oper} {a:Act} (hg:o.guard=none) (ty:TypeId) (x:Operand) (ho:o.op= .load ty x) (g:Nat) (hx:a.eval x= .pointer (some ⟨g,0,none⟩)) (t:TypeId) (cs:List Value) (d:TypeDesc)
  (hc: ∀w,C w→Bx w g cs t) (hu:P.underlying ty=some d) (hd:(match d with| .struct _| .array _ _=>true|_=>false)=true) (hi:(P.info? ty).map (·.size)=some cs.length)
  (h:wpQuiet P ops C Q rest (a.put o.dst (.agg cs.toArray))):wpQuiet P ops C Q (o::rest) a:=by
 unfold wpQuiet
 rw [if_pos (by unfold Region.wanted;rw [hg])]
 refine⟨.agg cs.toArray,fun w hw=> ?_,h⟩
 have hr:=run_loadVar_row (P:=P) w g t ty cs.toArray (0,0) d (hc w hw) hu hd (by simpa using hi)
 unfold Oper.quietAt execOp
 simp only [ho,hx,Instr.loadAt,Instr.sureAddr,Sem.run_bind,Sem.run_pure,Result.andThen_ok,hr]
 exact⟨rfl,rfl⟩
end Go.Proofs.YtpbnjakeielipaaGreatDoor
