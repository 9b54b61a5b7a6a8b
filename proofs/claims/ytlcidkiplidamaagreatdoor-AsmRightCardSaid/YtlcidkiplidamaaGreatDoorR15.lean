/-
  What the laws rest on, part 15: walks of the program's functions and plain laws. Conditions: none but those that each theorem names.
-/
import Derived.Test.YtlcidkiplidamaaGreatDoorR06
import Derived.Defers
import Derived.Recover
import Derived.RegionTactic
import Derived.Deep.RegionHeld2
import Derived.Test.YtlcidkiplidamaaGreatDoorR14
set_option linter.unusedSimpArgs false
set_option linter.unusedVariables false
set_option maxRecDepth 100000
set_option maxHeartbeats 2000000
namespace Go.Proofs.YtlcidkiplidamaaGreatDoor
open Go Go.RowKit Lib
theorem Bx.row_other {w:World} {g:Nat} {vs:List Value} {t:TypeId} (h:Bx w g vs t) (k:Nat) (cs:List Value) (hk:k≠g):Bx (w.setRow k cs.toArray) g vs t:=(setRow_other w k g _ (by omega)).trans h
def Sh (w:World) (g n:Nat) (t:TypeId):Prop:= ∃arr:Array Value,w.heap[g]?=some (.cells arr t (0,0))∧arr.size=n
theorem sh_of_bx {w:World} {g n:Nat} {vs:List Value} {t:TypeId} (h:Bx w g vs t) (hn:vs.length=n):Sh w g n t:=⟨_,h,by simpa using hn⟩
theorem Sh.set {w:World} {g n:Nat} {t:TypeId} (h:Sh w g n t) (p:Addr) (u:Value):Sh (w.setCell p u) g n t:=by
 obtain⟨arr,h1,h2⟩:=h
 by_cases hp:p.block=g
 ·subst hp
  refine⟨if p.spot.isSome=true then arr else arr.setIfInBounds p.off u, ?_, ?_⟩
  ·simp [World.setCell,Array.getElem?_modify,h1]
  ·split<;>simp [h2]
 ·exact⟨arr,(Below.heap_setCell w p u g (fun e=>hp e.symm)).trans h1,h2⟩
theorem bx_of_sh {w:World} {g n:Nat} {vs:List Value} {t:TypeId} (h:Sh w g n t) (hn:vs.length=n) (hc: ∀j,j<n→w.cell? ⟨g,j,none⟩=vs[j]?):Bx w g vs t:=by
 obtain⟨arr,h1,h2⟩:=h
 have e:arr=vs.toArray:=by
  apply Array.ext (by simp [h2,hn])
  intro i hi hi'
  have:=hc i (by omega)
  unfold World.cell? at this
  rw [h1] at this
  simp at this
  have h3:arr[i]?=vs[i]?:=this
  rw [Array.getElem?_eq_getElem hi,List.getElem?_eq_getElem (by omega)] at h3
  injection h3
 unfold Bx
 rw [h1,e]
theorem sh_drew {w:World} {g n:Nat} {t:TypeId} (h:Sh w g n t):Sh w.drew g n t:=h
theorem nine {vs:List Value} (h:vs.length=9): ∃a b c d e f g i j,vs= [a,b,c,d,e,f,g,i,j]:=by
 match vs,h with
 | [a,b,c,d,e,f,g,i,j],_=>exact⟨_,_,_,_,_,_,_,_,_,rfl⟩
theorem wp_frame {P:Program} {c:Code} {Q:Exit→Act→World→Prop} {a':Act} {w:World} (a:Act) (h:a'=a) (k:c.wp P Q a w):c.wp P Q a' w:=by rw [h];exact k
theorem catch_idle (p q s:Addr) (w:World):
  CallsD Tryz.prog 50 #[.pointer (some p), .pointer (some q), .pointer (some s)] .returning w fun e u' w'=>e= .returned (.tuple #[])∧u'= .returning∧w'=w:=by
 refine callsD_of_wpS Tryz.func50 rfl fun c₀ cs hu=> ?_
 apply wpS_seq
 apply wpS_region
 simp [wpOpsS,go_sem,recoverD,hu,Tryz.ntmps50,Exit.thenS]
 apply wpS_seq
 apply wpS_seq
 apply wpS_region
 simp [wpOpsS,go_sem,Exit.thenS]
 refine wpS_cond (t:=true) (by simp [Act.eval,Array.replicate]) ?_
 simp only [if_true]
 refine wpS_of_wp (wp_ret ?_)
 cases c₀
 simp_all [bodyPostS,results,Tryz.results50,Exit.thenS]
theorem catch_stop (C P E:Nat) (a er:Nat) (vs:List Value) (v1 v2:Value) (w:World) (hC:Bx w C vs 28) (hv:vs.length=9) (hP:Bx w P [v1] 3) (hE:Bx w E [v2] 29) (h1:C≠P) (h2:C≠E) (h3:P≠E) (older:List PanicEntry):
  CallsD Tryz.prog 50 #[.pointer (some ⟨C,0,none⟩), .pointer (some ⟨P,0,none⟩), .pointer (some ⟨E,0,none⟩)] (.panicking ({ v:=stopV a er,recovered:=false }::older)) w fun e u' w'=>
   e= .returned (.tuple #[])∧u'= .panicking ({ v:=stopV a er,recovered:=true }::older)∧Bx w' C [.int .i64 0, .int .i64 0, .slice none 0 0, .int .i64 0, .int .i64 0, .int .i64 0, .slice none 0 0, .slice none 0 0, .slice none 0 0] 28∧Bx w' P [.int .i64 a] 3∧Bx w' E [.int .i64 er] 29∧But w.heap.size [C,P,E] w w':=by
 refine callsD_of_wpS Tryz.func50 rfl fun c₀ cs hu=> ?_
 apply wpS_seq
 apply wpS_region
 simp [wpOpsS,go_sem,recoverD,hu,Tryz.ntmps50,Exit.thenS,stopV]
 apply wpS_seq
 apply wpS_seq
 apply wpS_region
 simp [wpOpsS,go_sem,Exit.thenS]
 refine wpS_cond (t:=false) (by simp [Act.eval,Array.replicate]) ?_
 simp only [Bool.false_eq_true,if_false]
 refine wpS_of_wp (wp_skip ?_)
 simp only [Exit.thenS]
 refine wpS_of_wp ?_
 have x1:=hC.lt
 have x2:=hP.lt
 have x3:=hE.lt
 have hta: ∀W:World,(Instr.typeAssert (stopV a er) 20 117 true).run Tryz.prog W= .ok (.tuple #[.agg #[.int .i64 a, .int .i64 er], .bool true]) W:=fun W=>by kernel_rfl
 refine wp_frame { tmps:= #[.pointer (some ⟨C,0,none⟩), .pointer (some ⟨P,0,none⟩), .pointer (some ⟨E,0,none⟩),stopV a er,undef,undef,stopV a er,stopV a er, .bool false,undef,undef,undef,undef,undef,undef,undef,undef,undef,undef,undef,undef,undef],defers:= [] } (by kernel_rfl) ?_
 obtain⟨y1,y2,y3,y4,y5,y6,y7,y8,y9,y10,y11,y12⟩:=far C w.heap.size x1
 obtain⟨p1,p2,p3,p4,p5,p6,p7,p8,p9,p10,p11,p12⟩:=far P w.heap.size x2
 obtain⟨q1,q2,q3,q4,q5,q6,q7,q8,q9,q10,q11,q12⟩:=far E w.heap.size x3
 go_wp2_with fail
 have XC:=(hC.below ((Below.refl _ _).alloc (Nat.le_refl _) (.cells #[.int .i64 a, .int .i64 er] 117)) x1)
 have XP:=(hP.below ((Below.refl _ _).alloc (Nat.le_refl _) (.cells #[.int .i64 a, .int .i64 er] 117)) x2)
 have XE:=(hE.below ((Below.refl _ _).alloc (Nat.le_refl _) (.cells #[.int .i64 a, .int .i64 er] 117)) x3)
 have SC:=Lib.hid (sh_of_bx XC hv)
 have SP:=Lib.hid (sh_of_bx XP (n:=1) rfl)
 have SE:=Lib.hid (sh_of_bx XE (n:=1) rfl)
 obtain⟨u0,u1,u2,u3,u4,u5,u6,u7,u8,rfl⟩:=nine hv
 have cC0:=XC.cell 0 rfl
 have zC0:=XC.frozen 0
 have cC1:=XC.cell 1 rfl
 have zC1:=XC.frozen 1
 have cC2:=XC.cell 2 rfl
 have zC2:=XC.frozen 2
 have cC3:=XC.cell 3 rfl
 have zC3:=XC.frozen 3
 have cC4:=XC.cell 4 rfl
 have zC4:=XC.frozen 4
 have cC5:=XC.cell 5 rfl
 have zC5:=XC.frozen 5
 have cC6:=XC.cell 6 rfl
 have zC6:=XC.frozen 6
 have cC7:=XC.cell 7 rfl
 have zC7:=XC.frozen 7
 have cC8:=XC.cell 8 rfl
 have zC8:=XC.frozen 8
 have cP:=XP.cell 0 rfl
 have zP:=XP.frozen 0
 have cE:=XE.cell 0 rfl
 have zE:=XE.frozen 0
 have n1: ¬C=P:=h1
 have n2: ¬C=E:=h2
 have n3: ¬P=E:=h3
 have n4: ¬P=C:=Ne.symm h1
 have n5: ¬E=C:=Ne.symm h2
 have n6: ¬E=P:=Ne.symm h3
 clear hC hP hE XC XP XE hv
 generalize hW:w.alloc (.cells #[.int .i64 a, .int .i64 er] 117)=W at*
 have s0:W.cell? ⟨w.heap.size,0,none⟩=some (.int .i64 a):=by rw [←hW];simp [go_sem]
 have s1:W.cell? ⟨w.heap.size,1,none⟩=some (.int .i64 er):=by rw [←hW];simp [go_sem]
 have HB:=Lib.hid (show But w.heap.size [C,P,E] w W by rw [←hW];exact But.of_below ((Below.refl _ _).alloc (Nat.le_refl _) _))
 clear hW
 go_region_held2 (fun w'=>w'.cell? ⟨w.heap.size,0,none⟩=some (.int .i64 a)∧w'.cell? ⟨w.heap.size,1,none⟩=some (.int .i64 er)) (go_keep) (fail)
 refine(show _∧_ from⟨rfl, ?_⟩)
 refine⟨.panicking ({ v:=stopV a er,recovered:=true }::older),rfl, ?_⟩
 refine⟨.tuple #[],by simp [results,Tryz.results50],rfl,rfl, ?_, ?_, ?_, ?_⟩
 ·refine bx_of_sh (n:=9) (sh_drew ?_) rfl fun j hj=> ?_
  ·repeat(first|with_reducible exact SC.out|with_reducible refine Sh.set ?_ _ _)
  ·obtain rfl|rfl|rfl|rfl|rfl|rfl|rfl|rfl|rfl:j=0∨j=1∨j=2∨j=3∨j=4∨j=5∨j=6∨j=7∨j=8:=by omega
   all_goals simp [go_sem,n1,n2,n3,n4,n5,n6,cC0,cC1,cC2,cC3,cC4,cC5,cC6,cC7,cC8,cP,cE]
 ·refine bx_of_sh (n:=1) (sh_drew ?_) rfl fun j hj=> ?_
  ·repeat(first|with_reducible exact SP.out|with_reducible refine Sh.set ?_ _ _)
  ·obtain rfl:j=0:=by omega
   simp [go_sem,n1,n2,n3,n4,n5,n6,cP,cE]
 ·refine bx_of_sh (n:=1) (sh_drew ?_) rfl fun j hj=> ?_
  ·repeat(first|with_reducible exact SE.out|with_reducible refine Sh.set ?_ _ _)
  ·obtain rfl:j=0:=by omega
   simp [go_sem,n1,n2,n3,n4,n5,n6,cP,cE]
 ·refine But.below_trans ?_ (Below.refl _ _).drew
  repeat(first|with_reducible exact HB.out|with_reducible refine But.set ?_ _ (.inl (by simp)) _)
def zeroClass:List Value:= [.int .i64 0, .int .i64 0, .slice none 0 0, .int .i64 0, .int .i64 0, .int .i64 0, .slice none 0 0, .slice none 0 0, .slice none 0 0]
def ReadPost (w:World) (l:List UInt8) (e:Ending) (w':World):Prop:=
 Below w.heap.size w w'∧match readP l with
  | .ok c=> ∃pool ifs flds mths,e= .returned (.tuple #[.agg (c.cells pool ifs flds mths).toArray, .int .i64 0, .int .i64 0])∧ClassAt w' (fun g=>w.heap.size≤g) c pool ifs flds mths
  | .error (a,er)=>e= .returned (.tuple #[.agg zeroClass.toArray, .int .i64 a, .int .i64 er])
theorem results_three {P:Program} {fn:Func} {tmps:Array Value} {a b c:Tmp} {T U V:TypeId} {g p q:Nat} {vs:List Value} {x y:Value} {t u v:TypeId} {w:World} {d d1 d2:TypeDesc} (hr:fn.results= #[.cell a T, .cell b U, .cell c V])
  (ha:tmps.getD a undef= .pointer (some ⟨g,0,none⟩)) (hb:tmps.getD b undef= .pointer (some ⟨p,0,none⟩)) (hc:tmps.getD c undef= .pointer (some ⟨q,0,none⟩)) (h1:Bx w g vs t) (h2:Bx w p [x] u) (h3:Bx w q [y] v)
  (hu:P.underlying T=some d) (hd:(match d with| .struct _| .array _ _=>true|_=>false)=true) (hi:(P.info? T).map (·.size)=some vs.length)
  (hu1:P.underlying U=some d1) (hd1:(match d1 with| .struct _=>true| .array _ _=>true|_=>false)=false) (hu2:P.underlying V=some d2) (hd2:(match d2 with| .struct _=>true| .array _ _=>true|_=>false)=false):
  (results fn tmps).run P w= .ok (.tuple #[.agg vs.toArray,x,y]) w:=by
 have k1:=run_loadVar_row (P:=P) w g t T vs.toArray (0,0) d h1 hu hd (by simpa using hi)
 have k2:(loadVar U ⟨p,0,none⟩).run P w= .ok x w:=by
  have:=h2.cell 0 rfl
  simp only [loadVar,isAgg,run_underlying hu1,Sem.run_bind,Result.andThen]
  cases d1<;>simp_all [go_sem]
 have k3:(loadVar V ⟨q,0,none⟩).run P w= .ok y w:=by
  have:=h3.cell 0 rfl
  simp only [loadVar,isAgg,run_underlying hu2,Sem.run_bind,Result.andThen]
  cases d2<;>simp_all [go_sem]
 unfold results
 rw [hr]
 rw [Array.getD_eq_getD_getElem?] at ha hb hc
 simp [ha,hb,hc,asAddr,k1,k2,k3,Result.andThen]
theorem readpost_error {w w':World} {l:List UInt8} {a er:Nat} {e:Ending} (hp:readP l= .error (a,er)) (he:e= .returned (.tuple #[.agg zeroClass.toArray, .int .i64 a, .int .i64 er])) (hb:Below w.heap.size w w'):ReadPost w l e w':=by
 unfold ReadPost
 rw [hp]
 exact⟨hb,he⟩
theorem readpost_ok {w w':World} {l:List UInt8} {c:ClassV} {pool ifs flds mths:Value} {e:Ending} (hp:readP l= .ok c) (he:e= .returned (.tuple #[.agg (c.cells pool ifs flds mths).toArray, .int .i64 0, .int .i64 0])) (hc:ClassAt w' (fun g=>w.heap.size≤g) c pool ifs flds mths) (hb:Below w.heap.size w w'):ReadPost w l e w':=by
 unfold ReadPost
 rw [hp]
 exact⟨hb,pool,ifs,flds,mths,he,hc⟩
theorem below_of_but {B B':Nat} {S:List Nat} {w w':World} (h:But B S w w') (hB:B'≤B) (hS: ∀k∈S,B'≤k):Below B' w w':=(h.mono (S':= []) hB (fun k hk hm=>by have:=hS k hm;omega)).below
theorem rdr_new {w:World} (T:TypeId) {A:Option Addr} {cap:Nat} {l:List UInt8} (R:Nat) (hR:R=w.heap.size) (hrd:RdB w A l.length cap l) (hA: ∀a,A=some a→a.block<w.heap.size) (hl:l.length≤65536):
  RdrAt (w.alloc (.cells #[.slice A l.length cap, .int .i64 0, .int .i64 4611686018427387904, .int .i64 0, .slice none 0 0] T)) R A cap l ⟨0,4611686018427387904,0, []⟩:=by
 subst hR
 exact⟨by simp [go_sem],by simp [go_sem],by simp [go_sem],by simp [go_sem],fun o=>by simp [go_sem],hrd.alloc _,fun a ha=>by have:=hA a ha;omega,by simp,hl,by simp,by simp,by simp⟩
theorem reader_pool (w:World) (T:TypeId) (R:Nat) (hR:R=w.heap.size) (A:Option Addr) (n cap:Nat):(w.alloc (.cells #[.slice A n cap, .int .i64 0, .int .i64 4611686018427387904, .int .i64 0, .slice none 0 0] T)).cell? ⟨R,4,none⟩=some (.slice none 0 0):=by
 subst hR
 simp [go_sem]
theorem CPost.cases {w w':World} {r:Nat} {p:Rx ClassV} {e:Ending} (h:CPost w r p e w'):(∃a er,p= .error (a,er)∧But w.heap.size [r] w w'∧e= .panicked [{ v:=stopV a er,recovered:=false }])∨
  ∃c s pool ifs flds mths,p= .ok (c,s)∧But w.heap.size [r] w w'∧e= .returned (.agg (c.cells pool ifs flds mths).toArray)∧ClassAt w' (fun g=>w.heap.size≤g) c pool ifs flds mths:=by
 rcases p with⟨a,er⟩ | ⟨c,s⟩
 ·exact .inl ⟨a,er,rfl,h.1,h.2⟩
 ·obtain⟨pool,ifs,flds,mths,h1,h2⟩:=h.2
  exact .inr ⟨c,s,pool,ifs,flds,mths,rfl,h.1,h1,h2⟩
theorem class_keep {w w':World} {lo:Nat} {c:ClassV} {p i f m:Value} (h:ClassAt w (fun g=>lo≤g) c p i f m) (hk:Kp lo w w'):ClassAt w' (fun g=>lo≤g) c p i f m where
 hpool:=hk.slat h.hpool
 hifs:=hk.slat h.hifs
 hflds:=hk.slat h.hflds
 hmths:=by
  obtain⟨ms,h1,h2,h3⟩:=h.hmths
  exact⟨ms,h1,hk.slat h2,fun q hq=>hk.meth (h3 q hq)⟩
theorem read_any (HF:FieldC) (HM:MethodC) (A:Option Addr) (cap:Nat) (l:List UInt8) (w:World) (hrd:RdB w A l.length cap l) (hA: ∀a,A=some a→a.block<w.heap.size) (hl:l.length≤1048576):
  Calls Tryz.prog 20 #[.slice A l.length cap] w (ReadPost w l):=by
 have hmf: ∀(fn:Fn) (first cap:Array Value) (w:World),(Instr.makeFunc fn first cap).run Tryz.prog w= .ok (.func fn first cap) w:=fun _ _ _ _=>rfl
 have HRD:=Lib.hid hrd
 have HAL:=Lib.hid hA
 clear hrd hA
 have hB0:=Lib.hid ((((Below.refl w.heap.size w).alloc (Nat.le_refl _) (.cells zeroClass.toArray 28)).alloc (by simp) (.cells #[.int .i64 0] 3)).alloc (by simp;omega) (.cells #[.int .i64 0] 29))
 have XC0:=Lib.hid (((bx_new w zeroClass 28).below ((Below.refl _ _).alloc (Nat.le_refl _) (.cells #[.int .i64 0] 3)) (by simp)).below ((Below.refl _ _).alloc (Nat.le_refl _) (.cells #[.int .i64 0] 29)) (by simp;omega))
 have XP0:=Lib.hid ((bx_new_at (w.alloc (.cells zeroClass.toArray 28)) [.int .i64 0] 3 (w.heap.size+1) (by simp)).below ((Below.refl _ _).alloc (Nat.le_refl _) (.cells #[.int .i64 0] 29)) (by simp))
 have XE0:=Lib.hid (bx_new_at ((w.alloc (.cells zeroClass.toArray 28)).alloc (.cells #[.int .i64 0] 3)) [.int .i64 0] 29 (w.heap.size+1+1) (by simp))
 by_cases hbig:65536<l.length
 ·have HP:=Lib.hid (show readP l= .error (0,2) by unfold readP;rw [if_pos hbig])
  go_enter_defers Tryz.func20,Tryz.ntmps20
  go_wp2
  refine leaves_cons (f:=50) (args:= #[.pointer (some ⟨w.heap.size,0,none⟩), .pointer (some ⟨w.heap.size+1,0,none⟩), .pointer (some ⟨w.heap.size+1+1,0,none⟩)]) (by simp) (by simp [go_sem]) ?_
  refine(catch_stop w.heap.size (w.heap.size+1) (w.heap.size+1+1) 0 2 zeroClass _ _ _ XC0.out rfl XP0.out XE0.out (by omega) (by omega) (by omega) []).mono ?_
  rintro e u' w'' ⟨rfl,rfl,hC,hP,hE,hb⟩
  exact⟨_,results_three rfl rfl rfl rfl hC hP hE Tryz.underlying28 rfl (by kernel_rfl) Tryz.underlying3 rfl Tryz.underlying29 rfl,readpost_error HP.out rfl (hB0.out.trans (below_of_but hb (by simp;omega) (by intro k hk;simp at hk;omega)))⟩
 ·have HR:=Lib.hid (rdr_new (w:=(((w.alloc (.cells zeroClass.toArray 28)).alloc (.cells #[.int .i64 0] 3)).alloc (.cells #[.int .i64 0] 29))) 121 (A:=A) (cap:=cap) (l:=l) (w.heap.size+1+1+1) (by simp) (HRD.out.below hB0.out) (fun a ha=>by have:=HAL.out a ha;simp;omega) (by omega))
  have HC4:=Lib.hid (reader_pool (((w.alloc (.cells zeroClass.toArray 28)).alloc (.cells #[.int .i64 0] 3)).alloc (.cells #[.int .i64 0] 29)) 121 (w.heap.size+1+1+1) (by simp) A l.length cap)
  have hbig2: ¬(65536:Int) < (l.length:Int):=by omega
  go_enter_defers Tryz.func20,Tryz.ntmps20
  go_wp2_with (go_at_call 51;refine(clsread_any HF HM (w.heap.size+1+1+1) A cap l _ _ HR.out _ HC4.out).mono ?_;refine stop_here ?_)
  refine go_on ?_
  intro e w1 hq
  rcases hq.cases with⟨a,er,hp,hb,rfl⟩ | ⟨c,s,pool,ifs,flds,mths,hp,hb,rfl,hcl⟩
  ·have HP:=Lib.hid (show readP l= .error (a,er) by unfold readP;rw [if_neg hbig,hp])
   have XC1:=Lib.hid ((XC0.out.below ((Below.refl _ _).alloc (Nat.le_refl _) _) XC0.out.lt).but hb (ne_one (by omega)))
   have XP1:=Lib.hid ((XP0.out.below ((Below.refl _ _).alloc (Nat.le_refl _) _) XP0.out.lt).but hb (ne_one (by omega)))
   have XE1:=Lib.hid ((XE0.out.below ((Below.refl _ _).alloc (Nat.le_refl _) _) XE0.out.lt).but hb (ne_one (by omega)))
   have hz1:=hb.size
   simp only [World.size_alloc] at hz1
   have HW1:=Lib.hid ((hB0.out.alloc (by simp;omega) _).trans (below_of_but hb (by simp;omega) (by intro k hk;simp at hk;omega)))
   clear hp hb
   go_wp2_with fail
   refine leaves_cons (f:=50) (args:= #[.pointer (some ⟨w.heap.size,0,none⟩), .pointer (some ⟨w.heap.size+1,0,none⟩), .pointer (some ⟨w.heap.size+1+1,0,none⟩)]) (by simp) (by simp [go_sem]) ?_
   refine(catch_stop w.heap.size (w.heap.size+1) (w.heap.size+1+1) a er zeroClass _ _ _ XC1.out rfl XP1.out XE1.out (by omega) (by omega) (by omega) []).mono ?_
   rintro e u' w'' ⟨rfl,rfl,hC,hP,hE,hb⟩
   exact⟨_,results_three rfl rfl rfl rfl hC hP hE Tryz.underlying28 rfl (by kernel_rfl) Tryz.underlying3 rfl Tryz.underlying29 rfl,readpost_error HP.out rfl (HW1.out.trans (below_of_but hb (by omega) (by intro k hk;simp at hk;omega)))⟩
  ·have HP:=Lib.hid (show readP l= .ok c by unfold readP;rw [if_neg hbig,hp])
   have XC1:=Lib.hid ((XC0.out.below ((Below.refl _ _).alloc (Nat.le_refl _) _) XC0.out.lt).but hb (ne_one (by omega)))
   have XP1:=Lib.hid ((XP0.out.below ((Below.refl _ _).alloc (Nat.le_refl _) _) XP0.out.lt).but hb (ne_one (by omega)))
   have XE1:=Lib.hid ((XE0.out.below ((Below.refl _ _).alloc (Nat.le_refl _) _) XE0.out.lt).but hb (ne_one (by omega)))
   have hz1:=hb.size
   simp only [World.size_alloc] at hz1
   have HW1:=Lib.hid ((hB0.out.alloc (by simp;omega) _).trans (below_of_but hb (by simp;omega) (by intro k hk;simp at hk;omega)))
   have HCL:=Lib.hid hcl
   obtain⟨A1,k1,rfl,_⟩:=hcl.hpool
   obtain⟨A2,k2,rfl,_⟩:=hcl.hifs
   obtain⟨A3,k3,rfl,_⟩:=hcl.hflds
   obtain⟨_,_,⟨A4,k4,rfl,_⟩,_⟩:=hcl.hmths
   clear hp hb hcl
   have XP2:=Lib.hid (XP1.out.row_other w.heap.size (c.cells (.slice A1 c.pool.length k1) (.slice A2 c.ifs.length k2) (.slice A3 c.flds.length k3) (.slice A4 c.mths.length k4)) (by omega))
   have XE2:=Lib.hid (XE1.out.row_other w.heap.size (c.cells (.slice A1 c.pool.length k1) (.slice A2 c.ifs.length k2) (.slice A3 c.flds.length k3) (.slice A4 c.mths.length k4)) (by omega))
   have cP:=XP2.out.cell 0 rfl
   have zP:=XP2.out.frozen 0
   have cE:=XE2.out.cell 0 rfl
   have zE:=XE2.out.frozen 0
   go_wp2_with (refine wpList_store_row rfl _ _ _ rfl w.heap.size (c.cells (.slice A1 c.pool.length k1) (.slice A2 c.ifs.length k2) (.slice A3 c.flds.length k3) (.slice A4 c.mths.length k4)).toArray rfl rfl _ _ XC1.out (by kernel_rfl) rfl (by simp [ClassV.cells,Value.oneCell']) ?_)
   refine leaves_cons (f:=50) (args:= #[.pointer (some ⟨w.heap.size,0,none⟩), .pointer (some ⟨w.heap.size+1,0,none⟩), .pointer (some ⟨w.heap.size+1+1,0,none⟩)]) (by simp) (by simp [go_sem]) ?_
   refine(catch_idle ⟨w.heap.size,0,none⟩ ⟨w.heap.size+1,0,none⟩ ⟨w.heap.size+1+1,0,none⟩ _).mono ?_
   rintro e u' w'' ⟨rfl,rfl,rfl⟩
   have hC:=((XC1.out.row (c.cells (.slice A1 c.pool.length k1) (.slice A2 c.ifs.length k2) (.slice A3 c.flds.length k3) (.slice A4 c.mths.length k4))).set_other ⟨w.heap.size+1,0,none⟩ (.int .i64 0) (by simp)).set_other ⟨w.heap.size+1+1,0,none⟩ (.int .i64 0) (by simp;omega)
   have hP:=(XP2.out.set 0 (.int .i64 0)).set_other ⟨w.heap.size+1+1,0,none⟩ (.int .i64 0) (by simp)
   have hE:=(XE2.out.set_other ⟨w.heap.size+1,0,none⟩ (.int .i64 0) (by simp)).set 0 (.int .i64 0)
   refine⟨_,results_three rfl rfl rfl rfl hC hP hE Tryz.underlying28 rfl (by kernel_rfl) Tryz.underlying3 rfl Tryz.underlying29 rfl,readpost_ok HP.out rfl ?_ ?_⟩
   ·exact(class_keep HCL.out (((((Kp.refl _ w1).row (by first| (simp;done) | (simp;omega)) _).set _ _ (by first| (simp;done) | (simp;omega))).set _ _ (by first| (simp;done) | (simp;omega))))).mono fun g _ hg=>by simp at hg;omega
   ·exact((below_setRow HW1.out (Nat.le_refl _) _).setCell (by simp) _).setCell (by simp;omega) _
end Go.Proofs.YtlcidkiplidamaaGreatDoor
