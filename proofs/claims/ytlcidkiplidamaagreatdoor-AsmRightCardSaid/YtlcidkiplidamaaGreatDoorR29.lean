/-
  What the laws rest on, part 29: walks of the program's functions and plain laws. Conditions: none but those that each theorem names.
-/
import Derived.Test.YtlcidkiplidamaaGreatDoorR19
import Derived.Test.YtlcidkiplidamaaGreatDoorR15
import Derived.Shelf.Strings.Split
import Derived.Test.YtlcidkiplidamaaGreatDoorProg
import Derived.Test.YtlcidkiplidamaaGreatDoorR27
import Derived.Test.YtlcidkiplidamaaGreatDoorR20
import Derived.Test.YtlcidkiplidamaaGreatDoorR13
import Derived.Test.YtlcidkiplidamaaGreatDoorR00
import Derived.Test.YtlcidkiplidamaaGreatDoorR01
import Derived.Lib.AppendStr
set_option linter.unusedSimpArgs false
set_option linter.unusedVariables false
set_option maxRecDepth 100000
set_option maxHeartbeats 2000000
namespace Go.Proofs.YtlcidkiplidamaaGreatDoor
open Go Go.RowKit Lib
theorem acatch_idle (p q s:Addr) (w:World):
  CallsD Tryz.prog 21 #[.pointer (some p), .pointer (some q), .pointer (some s)] .returning w fun e u' w'=>e= .returned (.tuple #[])∧u'= .returning∧w'=w:=by
 refine callsD_of_wpS Tryz.func21 rfl fun c₀ cs hu=> ?_
 apply wpS_seq
 apply wpS_region
 simp [wpOpsS,go_sem,recoverD,hu,Tryz.ntmps21,Exit.thenS]
 apply wpS_seq
 apply wpS_seq
 apply wpS_region
 simp [wpOpsS,go_sem,Exit.thenS]
 refine wpS_cond (t:=true) (by simp [Act.eval,Array.replicate]) ?_
 simp only [if_true]
 refine wpS_of_wp (wp_ret ?_)
 cases c₀
 simp_all [bodyPostS,results,Tryz.results21,Exit.thenS]
theorem acatch_stop (C P E:Nat) (a er:Int) (vs:List Value) (v1 v2:Value) (w:World) (hC:Bx w C vs 28) (hv:vs.length=9) (hP:Bx w P [v1] 3) (hE:Bx w E [v2] 29) (h1:C≠P) (h2:C≠E) (h3:P≠E) (older:List PanicEntry):
  CallsD Tryz.prog 21 #[.pointer (some ⟨C,0,none⟩), .pointer (some ⟨P,0,none⟩), .pointer (some ⟨E,0,none⟩)] (.panicking ({ v:=stopA a er,recovered:=false }::older)) w fun e u' w'=>
   e= .returned (.tuple #[])∧u'= .panicking ({ v:=stopA a er,recovered:=true }::older)∧Bx w' C [.int .i64 0, .int .i64 0, .slice none 0 0, .int .i64 0, .int .i64 0, .int .i64 0, .slice none 0 0, .slice none 0 0, .slice none 0 0] 28∧Bx w' P [.int .i64 a] 3∧Bx w' E [.int .i64 er] 29∧But w.heap.size [C,P,E] w w':=by
 refine callsD_of_wpS Tryz.func21 rfl fun c₀ cs hu=> ?_
 apply wpS_seq
 apply wpS_region
 simp [wpOpsS,go_sem,recoverD,hu,Tryz.ntmps21,Exit.thenS,stopA]
 apply wpS_seq
 apply wpS_seq
 apply wpS_region
 simp [wpOpsS,go_sem,Exit.thenS]
 refine wpS_cond (t:=false) (by simp [Act.eval,Array.replicate]) ?_
 simp only [Bool.false_eq_true,if_false]
 refine wpS_of_wp (wp_skip ?_)
 simp only [Exit.thenS]
 refine wpS_of_wp ?_
 have x1:=hC.lt
 have x2:=hP.lt
 have x3:=hE.lt
 have hta: ∀W:World,(Instr.typeAssert (stopA a er) 20 60 true).run Tryz.prog W= .ok (.tuple #[.agg #[.int .i64 a, .int .i64 er], .bool true]) W:=fun W=>by kernel_rfl
 refine wp_frame { tmps:= #[.pointer (some ⟨C,0,none⟩), .pointer (some ⟨P,0,none⟩), .pointer (some ⟨E,0,none⟩),stopA a er,undef,undef,stopA a er,stopA a er, .bool false,undef,undef,undef,undef,undef,undef,undef,undef,undef,undef,undef,undef,undef],defers:= [] } (by kernel_rfl) ?_
 obtain⟨y1,y2,y3,y4,y5,y6,y7,y8,y9,y10,y11,y12⟩:=far C w.heap.size x1
 obtain⟨p1,p2,p3,p4,p5,p6,p7,p8,p9,p10,p11,p12⟩:=far P w.heap.size x2
 obtain⟨q1,q2,q3,q4,q5,q6,q7,q8,q9,q10,q11,q12⟩:=far E w.heap.size x3
 go_wp2_with fail
 have XC:=(hC.below ((Below.refl _ _).alloc (Nat.le_refl _) (.cells #[.int .i64 a, .int .i64 er] 60)) x1)
 have XP:=(hP.below ((Below.refl _ _).alloc (Nat.le_refl _) (.cells #[.int .i64 a, .int .i64 er] 60)) x2)
 have XE:=(hE.below ((Below.refl _ _).alloc (Nat.le_refl _) (.cells #[.int .i64 a, .int .i64 er] 60)) x3)
 have SC:=Lib.hid (sh_of_bx XC hv)
 have SP:=Lib.hid (sh_of_bx XP (n:=1) rfl)
 have SE:=Lib.hid (sh_of_bx XE (n:=1) rfl)
 obtain⟨u0,u1,u2,u3,u4,u5,u6,u7,u8,rfl⟩:=nine hv
 have cC0:=XC.cell 0 rfl
 have zC0:=XC.frozen 0
 have cC1:=XC.cell 1 rfl
 have zC1:=XC.frozen 1
 have cC2:=XC.cell 2 rfl
 have zC2:=XC.frozen 2
 have cC3:=XC.cell 3 rfl
 have zC3:=XC.frozen 3
 have cC4:=XC.cell 4 rfl
 have zC4:=XC.frozen 4
 have cC5:=XC.cell 5 rfl
 have zC5:=XC.frozen 5
 have cC6:=XC.cell 6 rfl
 have zC6:=XC.frozen 6
 have cC7:=XC.cell 7 rfl
 have zC7:=XC.frozen 7
 have cC8:=XC.cell 8 rfl
 have zC8:=XC.frozen 8
 have cP:=XP.cell 0 rfl
 have zP:=XP.frozen 0
 have cE:=XE.cell 0 rfl
 have zE:=XE.frozen 0
 have n1: ¬C=P:=h1
 have n2: ¬C=E:=h2
 have n3: ¬P=E:=h3
 have n4: ¬P=C:=Ne.symm h1
 have n5: ¬E=C:=Ne.symm h2
 have n6: ¬E=P:=Ne.symm h3
 clear hC hP hE XC XP XE hv
 generalize hW:w.alloc (.cells #[.int .i64 a, .int .i64 er] 60)=W at*
 have s0:W.cell? ⟨w.heap.size,0,none⟩=some (.int .i64 a):=by rw [←hW];simp [go_sem]
 have s1:W.cell? ⟨w.heap.size,1,none⟩=some (.int .i64 er):=by rw [←hW];simp [go_sem]
 have HB:=Lib.hid (show But w.heap.size [C,P,E] w W by rw [←hW];exact But.of_below ((Below.refl _ _).alloc (Nat.le_refl _) _))
 clear hW
 go_region_held2 (fun w'=>w'.cell? ⟨w.heap.size,0,none⟩=some (.int .i64 a)∧w'.cell? ⟨w.heap.size,1,none⟩=some (.int .i64 er)) (go_keep) (fail)
 refine(show _∧_ from⟨rfl, ?_⟩)
 refine⟨.panicking ({ v:=stopA a er,recovered:=true }::older),rfl, ?_⟩
 refine⟨.tuple #[],by simp [results,Tryz.results21],rfl,rfl, ?_, ?_, ?_, ?_⟩
 ·refine bx_of_sh (n:=9) (sh_drew ?_) rfl fun j hj=> ?_
  ·repeat(first|with_reducible exact SC.out|with_reducible refine Sh.set ?_ _ _)
  ·obtain rfl|rfl|rfl|rfl|rfl|rfl|rfl|rfl|rfl:j=0∨j=1∨j=2∨j=3∨j=4∨j=5∨j=6∨j=7∨j=8:=by omega
   all_goals simp [go_sem,n1,n2,n3,n4,n5,n6,cC0,cC1,cC2,cC3,cC4,cC5,cC6,cC7,cC8,cP,cE]
 ·refine bx_of_sh (n:=1) (sh_drew ?_) rfl fun j hj=> ?_
  ·repeat(first|with_reducible exact SP.out|with_reducible refine Sh.set ?_ _ _)
  ·obtain rfl:j=0:=by omega
   simp [go_sem,n1,n2,n3,n4,n5,n6,cP,cE]
 ·refine bx_of_sh (n:=1) (sh_drew ?_) rfl fun j hj=> ?_
  ·repeat(first|with_reducible exact SE.out|with_reducible refine Sh.set ?_ _ _)
  ·obtain rfl:j=0:=by omega
   simp [go_sem,n1,n2,n3,n4,n5,n6,cP,cE]
 ·refine But.below_trans ?_ (Below.refl _ _).drew
  repeat(first|with_reducible exact HB.out|with_reducible refine But.set ?_ _ (.inl (by simp)) _)
end Go.Proofs.YtlcidkiplidamaaGreatDoor
namespace Go.Proofs
open Go.Shelf
def Tryz.lays146_ren:Go.Shelf.Ren:=⟨fun|146=>22|221=>52|268=>121|138=>122|143=>123|195=>163|197=>164|218=>165|219=>166|260=>176|217=>177|225=>178|224=>179|267=>180|266=>183|314=>184|n=>n,fun|9=>9|31=>43|3=>3|4=>4|0=>0|105=>201|21=>21|5=>5|46=>92|119=>212|139=>215|138=>214|146=>217|51=>216|n=>n,fun|1=>0|3=>1|4=>2|n=>n⟩
theorem Tryz.lays146:Go.Proofs.Lays.n146 Tryz.prog Tryz.lays146_ren:={
 mixed:=by kernel_rfl
 f138:=Tryz.func122.trans (congrArg some (by kernel_rfl))
 f143:=Tryz.func123.trans (congrArg some (by kernel_rfl))
 f146:=Tryz.func22.trans (congrArg some (by kernel_rfl))
 f195:=Tryz.func163.trans (congrArg some (by kernel_rfl))
 f197:=Tryz.func164.trans (congrArg some (by kernel_rfl))
 f217:=Tryz.func177.trans (congrArg some (by kernel_rfl))
 f218:=Tryz.func165.trans (congrArg some (by kernel_rfl))
 f219:=Tryz.func166.trans (congrArg some (by kernel_rfl))
 f221:=Tryz.func52.trans (congrArg some (by kernel_rfl))
 f224:=Tryz.func179.trans (congrArg some (by kernel_rfl))
 f225:=Tryz.func178.trans (congrArg some (by kernel_rfl))
 f260:=Tryz.func176.trans (congrArg some (by kernel_rfl))
 f266:=Tryz.func183.trans (congrArg some (by kernel_rfl))
 f267:=Tryz.func180.trans (congrArg some (by kernel_rfl))
 f268:=Tryz.func121.trans (congrArg some (by kernel_rfl))
 f314:=Tryz.func184.trans (congrArg some (by kernel_rfl))
 t0:=Tryz.underlying0
 a0:=Tryz.isAgg0
 z0:=Tryz.sizeOf0
 v0:=Tryz.zeroValue0
 t3:=Tryz.underlying3
 a3:=Tryz.isAgg3
 z3:=Tryz.sizeOf3
 v3:=Tryz.zeroValue3
 t4:=Tryz.underlying4
 a4:=Tryz.isAgg4
 z4:=Tryz.sizeOf4
 v4:=Tryz.zeroValue4
 t5:=Tryz.underlying5
 a5:=Tryz.isAgg5
 z5:=Tryz.sizeOf5
 v5:=Tryz.zeroValue5
 t9:=Tryz.underlying9
 a9:=Tryz.isAgg9
 z9:=Tryz.sizeOf9
 v9:=Tryz.zeroValue9
 t21:=Tryz.underlying21
 a21:=Tryz.isAgg21
 z21:=Tryz.sizeOf21
 v21:=Tryz.zeroValue21
 t31:=Tryz.underlying43
 a31:=Tryz.isAgg43
 z31:=Tryz.sizeOf43
 v31:=Tryz.zeroValue43
 t46:=Tryz.underlying92
 a46:=Tryz.isAgg92
 z46:=Tryz.sizeOf92
 v46:=Tryz.zeroValue92
 t51:=Tryz.underlying216
 a51:=Tryz.isAgg216
 z51:=Tryz.sizeOf216
 v51:=Tryz.zeroValue216
 t105:=Tryz.underlying201
 a105:=Tryz.isAgg201
 z105:=Tryz.sizeOf201
 v105:=Tryz.zeroValue201
 t119:=Tryz.underlying212
 a119:=Tryz.isAgg212
 z119:=Tryz.sizeOf212
 t138:=Tryz.underlying214
 a138:=Tryz.isAgg214
 z138:=Tryz.sizeOf214
 v138:=Tryz.zeroValue214
 t139:=Tryz.underlying215
 a139:=Tryz.isAgg215
 z139:=Tryz.sizeOf215
 v139:=Tryz.zeroValue215
 t146:=Tryz.underlying217
 a146:=Tryz.isAgg217
 z146:=Tryz.sizeOf217
 v146:=Tryz.zeroValue217
 g1:=by kernel_rfl
 g3:=by kernel_rfl
 g4:=by kernel_rfl }
theorem Tryz.strings_Split (s sep:ByteArray) (m:Int) (w:World) (hs:s.size<4294967281) (hm:w.cell? ⟨0,0,none⟩=some (.int .i64 m)) (h1:1≤sep.size):
  Calls Tryz.prog 22 #[.string s, .string sep] w fun e w'=>
   e= .returned (.slice (some ⟨w.heap.size,0,none⟩) (Lib.countB s sep+1) (Lib.countB s sep+1))∧w'=w.alloc (.cells ((Lib.splitB sep 0 (Lib.countB s sep) s).map Value.string).toArray 9):=Any.strings_Split Tryz.lays146 (by kernel_rfl) s sep m w hs hm h1
def Tryz.maxB:Nat:=0
end Go.Proofs
namespace Go.Proofs.YtlcidkiplidamaaGreatDoor
open Go Go.RowKit Lib Go.Maps
theorem wpl_load_pre {P:Program} {ops:Array Oper} {rest:List Oper} {o:Oper} {a:Act} {w:World} {Q:Exit→Act→World→Prop} (hgd:o.guard=none) (ty:TypeId) (x:Operand) (ho:o.op= .load ty x) (g:Nat) (hx:a.eval x= .pointer (some ⟨g,0,none⟩)) (l:List Value)
  (hc: ∀j v,l[j]?=some v→w.cell? ⟨g,j,none⟩=some v) (d:TypeDesc) (hu:P.underlying ty=some d) (hd:(match d with| .struct _| .array _ _=>true|_=>false)=true) (hi:(P.info? ty).map (·.size)=some l.length) (h:wpList P ops Q rest (a.put o.dst (.agg l.toArray)) w):wpList P ops Q (o::rest) a w:=by
 have hl:(loadCells ⟨g,0,none⟩ l.length).run P w= .ok l.toArray w:=
  run_loadCells_list (P:=P) w ⟨g,0,none⟩ l (fun j v hv=>by
   have hadd:(⟨g,0,none⟩:Addr).add j=⟨g,j,none⟩:=by unfold Addr.add;split<;>simp_all
   rw [hadd]
   exact hc j v hv)
 have hv:(loadVar ty ⟨g,0,none⟩).run P w= .ok (.agg l.toArray) w:=by
  cases hq:P.info? ty with
  |none=>simp [hq] at hi
  |some i=>
   have hs:i.size=l.length:=by simpa [hq] using hi
   have hagg:(isAgg ty).run P w= .ok true w:=by
    unfold isAgg
    rw [Sem.run_bind,run_underlying hu w]
    cases d<;>simp_all
   simp [loadVar,Sem.run_bind,hagg,sizeOf,typeInfo,hq,hs,hl]
 refine wpList_plain hgd fun K hK=> ?_
 unfold Oper.wp execOp
 simp only [ho,hx,Instr.loadAt,Instr.sureAddr,Sem.run_bind,Sem.run_pure,Result.andThen_ok,hv]
 exact hK _ _ h
def zeroA:List Value:= [.int .i64 0, .int .i64 0, .slice none 0 0, .int .i64 0, .int .i64 0, .int .i64 0, .slice none 0 0, .slice none 0 0, .slice none 0 0]
theorem resultsA {P:Program} {fn:Func} {tmps:Array Value} {a b c:Tmp} {T U V:TypeId} {g p q:Nat} {vs:List Value} {x y:Value} {t u v:TypeId} {w:World} {d d1 d2:TypeDesc} (hr:fn.results= #[.cell a T, .cell b U, .cell c V])
  (ha:tmps.getD a undef= .pointer (some ⟨g,0,none⟩)) (hb:tmps.getD b undef= .pointer (some ⟨p,0,none⟩)) (hc:tmps.getD c undef= .pointer (some ⟨q,0,none⟩)) (h1:Bx w g vs t) (h2:Bx w p [x] u) (h3:Bx w q [y] v)
  (hu:P.underlying T=some d) (hd:(match d with| .struct _| .array _ _=>true|_=>false)=true) (hi:(P.info? T).map (·.size)=some vs.length)
  (hu1:P.underlying U=some d1) (hd1:(match d1 with| .struct _=>true| .array _ _=>true|_=>false)=false) (hu2:P.underlying V=some d2) (hd2:(match d2 with| .struct _=>true| .array _ _=>true|_=>false)=false):
  (results fn tmps).run P w= .ok (.tuple #[.agg vs.toArray,x,y]) w:=by
 have k1:=run_loadVar_row (P:=P) w g t T vs.toArray (0,0) d h1 hu hd (by simpa using hi)
 have k2:(loadVar U ⟨p,0,none⟩).run P w= .ok x w:=by
  have:=h2.cell 0 rfl
  simp only [loadVar,isAgg,run_underlying hu1,Sem.run_bind,Result.andThen]
  cases d1<;>simp_all [go_sem]
 have k3:(loadVar V ⟨q,0,none⟩).run P w= .ok y w:=by
  have:=h3.cell 0 rfl
  simp only [loadVar,isAgg,run_underlying hu2,Sem.run_bind,Result.andThen]
  cases d2<;>simp_all [go_sem]
 unfold results
 rw [hr]
 rw [Array.getD_eq_getD_getElem?] at ha hb hc
 simp [ha,hb,hc,asAddr,k1,k2,k3,Result.andThen]
def AsmPost (w:World) (p:Except (Nat×Int) ClassV) (e:Ending) (w':World):Prop:=
 Below w.heap.size w w'∧match p with
  | .ok c=> ∃ρ B kb σ V,w.heap.size≤B∧σ.c=c∧AsSm σ 900000∧MkC w' ρ B kb σ V∧e= .returned (.tuple #[.agg (c.cells V.pv V.iv V.fv V.tv).toArray, .int .i64 0, .int .i64 0])
  | .error (n,er)=>e= .returned (.tuple #[.agg zeroA.toArray, .int .i64 n, .int .i64 er])
theorem asmpost_err {w w':World} {p:Except (Nat×Int) ClassV} {n:Nat} {er:Int} {e:Ending} (hp:p= .error (n,er)) (he:e= .returned (.tuple #[.agg zeroA.toArray, .int .i64 n, .int .i64 er])) (hb:Below w.heap.size w w'):AsmPost w p e w':=by
 subst hp
 exact⟨hb,he⟩
theorem asmpost_ok {w w':World} {p:Except (Nat×Int) ClassV} {c:ClassV} {ρ:Nat→Nat} {B kb:Nat} {σ:AsK} {V:MkV} {e:Ending} (hp:p= .ok c) (hB:w.heap.size≤B) (hc:σ.c=c) (hs:AsSm σ 900000) (hm:MkC w' ρ B kb σ V) (he:e= .returned (.tuple #[.agg (c.cells V.pv V.iv V.fv V.tv).toArray, .int .i64 0, .int .i64 0])) (hb:Below w.heap.size w w'):AsmPost w p e w':=by
 subst hp
 exact⟨hb,ρ,B,kb,σ,V,hB,hc,hs,hm,he⟩
theorem class_mk {w:World} {ρ:Nat→Nat} {B kb:Nat} {σ:AsK} {V:MkV} (h:MkC w ρ B kb σ V) {N:Nat} (hs:AsSm σ N) (hN:N≤900000):ClassAt w (fun g=>B≤g∧g<w.heap.size) σ.c V.pv V.iv V.fv V.tv where
 hpool:=slAt_own h.pool.1 _ (by omega) (by have:=hs.npool;omega) fun g hg=>h.pool.1.lt g hg
 hifs:=slAt_own h.ifs.1 _ (by omega) (by have:=hs.nifs;omega) fun g hg=>h.ifs.1.lt g hg
 hflds:=slAt_own h.flds.1 _ (by omega) (by have:=hs.nflds;omega) fun g hg=>h.flds.1.lt g hg
 hmths:=by
  obtain⟨ms,m1,m2,m3⟩:=h.mths
  have hl:ms.length≤1048576:=by
   have h1:=congrArg List.length m1
   rw [List.length_map] at h1
   have:=hs.nmths
   have h2:ms.length=σ.c.mths.length:=h1
   omega
  have hlw: ∀g,g<w.heap.size→ρ g=7→B≤g∧g<w.heap.size:=fun g _ hg=>h.low g (by omega)
  have he:ms.length=σ.c.mths.length:=by rw [←m1,List.length_map]
  exact⟨ms,m1,by rw [←he];exact slAt_own m2.1 _ (by omega) hl fun g hg=>m2.1.lt g hg,fun q hq=> ⟨(m3 q hq).hcode.mono hlw,(m3 q hq).htraps.mono hlw⟩⟩
theorem below_of_butA {B B':Nat} {S:List Nat} {w w':World} (h:But B S w w') (hB:B'≤B) (hS: ∀k∈S,B'≤k):Below B' w w':=(h.mono (S':= []) hB (fun k hk hm=>by have:=hS k hm;omega)).below
theorem doLine_eq (σ:AsK) (s:ByteArray):σ.doLine s=if aWords s= []∨((aWords s).headD ⟨#[]⟩).data.toList.headD 0=35 then .ok σ else match σ.m with
  |some m=>σ.inside m (aWords s)
  |none=>match σ.outside (aWords s) with
   |none=> .error σ.line
   |some x=> .ok x:=rfl
theorem doLine_none {σ:AsK} {s:ByteArray} (hn: ¬(aWords s= []∨((aWords s).headD ⟨#[]⟩).data.toList.headD 0=35)) (hm:σ.m=none) (h:σ.outside (aWords s)=none):σ.doLine s= .error σ.line:=by
 rw [doLine_eq,if_neg hn,hm]
 simp only [h]
theorem doLine_some {σ σ':AsK} {s:ByteArray} (hn: ¬(aWords s= []∨((aWords s).headD ⟨#[]⟩).data.toList.headD 0=35)) (hm:σ.m=none) (h:σ.outside (aWords s)=some σ'):σ.doLine s= .ok σ':=by
 rw [doLine_eq,if_neg hn,hm]
 simp only [h]
theorem doLine_in {σ:AsK} {m:AsM} {s:ByteArray} (hn: ¬(aWords s= []∨((aWords s).headD ⟨#[]⟩).data.toList.headD 0=35)) (hm:σ.m=some m):σ.doLine s=σ.inside m (aWords s):=by
 rw [doLine_eq,if_neg hn,hm]
theorem run_next {l:List ByteArray} {i:Nat} {σ x:AsK} {s:ByteArray} (hs:l[i]?=some s) (h:AsK.doLine { σ with line:=i+1 } s= .ok x):aRun (l.drop i) i σ=aRun (l.drop (i+1)) (i+1) x:=by
 have hlt:=(List.getElem?_eq_some_iff.1 hs).1
 rw [List.drop_eq_getElem_cons hlt,(List.getElem?_eq_some_iff.1 hs).2,aRun,h]
theorem run_stop {l:List ByteArray} {i n:Nat} {σ:AsK} {s:ByteArray} (hs:l[i]?=some s) (h:AsK.doLine { σ with line:=i+1 } s= .error n):aRun (l.drop i) i σ= .error n:=by
 have hlt:=(List.getElem?_eq_some_iff.1 hs).1
 rw [List.drop_eq_getElem_cons hlt,(List.getElem?_eq_some_iff.1 hs).2,aRun,h]
theorem lines_of (s:ByteArray): ∃L z,Lib.splitB ⟨#[10]⟩ 0 (Lib.countB s ⟨#[10]⟩) s=L++ [z]∧L.length=Lib.countB s ⟨#[10]⟩∧aLines s=if z.size=0 then L else L++ [z]:=by
 have hlen:=Lib.splitB_all ⟨#[10]⟩ (by decide) 0 (Lib.countB s ⟨#[10]⟩) s rfl
 rcases List.eq_nil_or_concat (Lib.splitB ⟨#[10]⟩ 0 (Lib.countB s ⟨#[10]⟩) s) with h| ⟨L,z,h⟩
 ·rw [h] at hlen;simp at hlen
 ·rw [List.concat_eq_append] at h
  refine⟨L,z,h, ?_, ?_⟩
  ·rw [h] at hlen;simpa using hlen
  ·unfold aLines
   simp only [h,List.getLastD_eq_getLast?,List.getLast?_concat,Option.getD_some,List.dropLast_concat]
theorem wd_own {w:World} {ρ:Nat→Nat} {B:Nat} {v:Value} {ws:List ByteArray} (h:w.ownsRow B 9 1 v ws.length (ws.map Value.string)) (hr: ∀g,v.ownBlock=some g→ρ g=0): ∃A cap,v= .slice A ws.length cap∧WdA w (Un ρ) A ws.length cap ws:=by
 obtain⟨A,cap,e⟩:=own_slice h
 subst e
 refine⟨A,cap,rfl,rfl, ?_, ?_,fun h0=> ?_⟩
 ·rcases h.2 with h2| ⟨g,cap',cur,e,h3,h4,h5,h6,_⟩
  ·have:=h2.1
   injection this with _ h7 h8
   omega
  ·injection e with _ _ h8
   omega
 ·rcases h.2 with h2| ⟨g,cap',cur,e,h3,h4,h5,h6,_⟩
  ·have:=h2.1
   injection this with _ h7 h8
   omega
  ·injection e with _ _ h8
   simp only [maxLen] at h6
   omega
 ·obtain⟨g,cap',e⟩: ∃g cap',Value.slice A ws.length cap= .slice (some ⟨g,0,none⟩) ws.length cap':=by
   rcases Go.Joins.ownsRow_forms h with⟨_,h9⟩ | ⟨g,cap',e⟩
   ·omega
   ·exact⟨g,cap',e⟩
  injection e with e1 _ e2
  subst e1
  refine⟨g,0,rfl,(h.lt g rfl).2,hr g rfl,fun j s hs=> ?_⟩
  have hlt:=(List.getElem?_eq_some_iff.1 hs).1
  have:=h.cellAt j (by omega)
  rw [Nat.zero_add,this]
  simp [hs]
theorem mk_new {w:World} {B kb mb:Nat} (hk:kb<w.heap.size) (hm:mb<w.heap.size) (hkb:B≤kb) (hmb:B≤mb) (hne:kb≠mb) (hbox:Bx w kb [.int .i64 0, .int .i64 52, .slice none 0 0, .int .i64 0, .int .i64 0, .int .i64 0, .slice none 0 0, .slice none 0 0, .slice none 0 0, .map (some mb), .int .i64 0, .int .i64 0, .pointer none] 67) (hmap:PoolM w mb []) (hB:B≤w.heap.size):
  MkC w (paint (paint (fun _=>0) kb 1) mb 2) B kb .new ⟨.slice none 0 0, .slice none 0 0, .slice none 0 0, .slice none 0 0,mb, .pointer none⟩ where
 low:=fun g hg=>by
  by_cases h1:g=mb
  ·subst h1;exact⟨hmb,hm⟩
  ·rw [paint_other h1] at hg
   by_cases h2:g=kb
   ·subst h2;exact⟨hkb,hk⟩
   ·rw [paint_other h2] at hg
    exact absurd rfl hg
 hB:=hB
 box:=hbox
 kc:=by rw [paint_other hne];exact paint_same _ _ _
 map:=hmap
 mc:=paint_same _ _ _
 pool:=ownC_nil _ _ _ _ _ _
 ifs:=ownC_nil _ _ _ _ _ _
 flds:=ownC_nil _ _ _ _ _ _
 mths:=⟨[],rfl,ownC_nil _ _ _ _ _ _,fun q hq=>by cases hq⟩
theorem cut_le: ∀(l x:List UInt8),x∈cutL l→x.length≤l.length
 | [],x,h=>by
  rw [cutL] at h
  simp at h
  subst h
  simp
 |c::l,x,h=>by
  rw [cutL] at h
  split at h
  ·rcases List.mem_cons.1 h with rfl|h
   ·simp
   ·exact Nat.le_trans (cut_le l x h) (by simp)
  ·split at h
   ·rename_i h0
    exact absurd h0 (cutL_ne l)
   ·rename_i a r h0
    rcases List.mem_cons.1 h with rfl|h
    ·have:=cut_le l a (by rw [h0];simp)
     simp
     omega
    ·exact Nat.le_trans (cut_le l x (by rw [h0];simp [h])) (by simp)
theorem line_le {text s:ByteArray} (h:s∈aLines text):s.size≤text.size:=by
 have h1:=lines_list text
 have h2:s.data.toList∈linesL text.data.toList:=by rw [←h1];exact List.mem_map.2 ⟨s,h,rfl⟩
 have e1:s.data.toList.length=s.size:=Array.length_toList
 have e2:text.data.toList.length=text.size:=Array.length_toList
 rw [←e1, ←e2]
 unfold linesL at h2
 split at h2
 ·exact cut_le _ _ ((List.dropLast_sublist _).mem h2)
 ·exact cut_le _ _ h2
theorem asm_stop {ck:ClassV→Int} {text:ByteArray} {n:Nat} (hb: ¬(262144<text.size∨8000< (aLines text).length)) (h:aRun (aLines text) 0 .new= .error n):aAsm ck text= .error (n,60):=by
 unfold aAsm
 rw [if_neg hb,h]
theorem asm_open {ck:ClassV→Int} {text:ByteArray} {σ:AsK} {m:AsM} (hb: ¬(262144<text.size∨8000< (aLines text).length)) (h:aRun (aLines text) 0 .new= .ok σ) (hm:σ.m=some m):aAsm ck text= .error (m.line,60):=by
 unfold aAsm
 rw [if_neg hb,h]
 simp only [hm]
theorem asm_none {ck:ClassV→Int} {text:ByteArray} {σ:AsK} (hb: ¬(262144<text.size∨8000< (aLines text).length)) (h:aRun (aLines text) 0 .new= .ok σ) (hm:σ.m=none) (hp:σ.part=0):aAsm ck text= .error (0,60):=by
 unfold aAsm
 rw [if_neg hb,h]
 simp only [hm,if_pos hp]
theorem asm_bad {ck:ClassV→Int} {text:ByteArray} {σ:AsK} (hb: ¬(262144<text.size∨8000< (aLines text).length)) (h:aRun (aLines text) 0 .new= .ok σ) (hm:σ.m=none) (hp:σ.part≠0) (hk:ck σ.object.c≠0):aAsm ck text= .error (0,ck σ.object.c):=by
 unfold aAsm
 rw [if_neg hb,h]
 simp only [hm,if_neg hp,if_pos hk]
theorem asm_good {ck:ClassV→Int} {text:ByteArray} {σ:AsK} (hb: ¬(262144<text.size∨8000< (aLines text).length)) (h:aRun (aLines text) 0 .new= .ok σ) (hm:σ.m=none) (hp:σ.part≠0) (hk:ck σ.object.c=0):aAsm ck text= .ok σ.object.c:=by
 unfold aAsm
 rw [if_neg hb,h]
 simp only [hm,if_neg hp]
 rw [if_neg (by rw [hk];simp)]
theorem mk_pre {w:World} {g:Nat} {σ:AsK} {V:MkV} (h:Bx w g (mkCells σ V) 67) (j:Nat) (v:Value) (hv:(σ.c.cells V.pv V.iv V.fv V.tv)[j]?=some v):w.cell? ⟨g,j,none⟩=some v:=by
 refine h.cell j ?_
 show(σ.c.cells V.pv V.iv V.fv V.tv++ [.map (some V.mb), .int .i64 σ.part, .int .i64 σ.line,V.mv])[j]?=some v
 rw [List.getElem?_append_left (List.getElem?_eq_some_iff.1 hv).1]
 exact hv
theorem cells_one {w:World} {ρ:Nat→Nat} {B kb:Nat} {σ:AsK} {V:MkV} (h:MkC w ρ B kb σ V):((σ.c.cells V.pv V.iv V.fv V.tv).toArray.all (·.oneCell'))=true:=by
 obtain⟨A1,k1,e1⟩:=own_slice h.pool.1
 obtain⟨A2,k2,e2⟩:=own_slice h.ifs.1
 obtain⟨A3,k3,e3⟩:=own_slice h.flds.1
 obtain⟨ms,m1,m2,m3⟩:=h.mths
 obtain⟨A4,k4,e4⟩:=own_slice m2.1
 rw [e1,e2,e3,e4]
 simp [ClassV.cells,Value.oneCell']
theorem object_c0 (σ:AsK):({ σ with line:=0 }:AsK).object.c=σ.object.c:=by
 unfold AsK.object
 split<;>rfl
theorem below_rowA {B:Nat} {a w:World} (h:Below B a w) (g:Nat) (cs:Array Value) (hg:B≤g):Below B a (w.setRow g cs):=h.trans ⟨rfl,rfl,rfl,by simp,fun k hk=>setRow_other w g k cs (by omega)⟩
theorem chg0_row {w:World} {ρ:Nat→Nat} {g:Nat} (hg:ρ g=0) (cs:Array Value):Chg [0] w ρ (w.setRow g cs) ρ:=
 ⟨rfl,rfl,rfl,by simp,fun q hq hc=> ⟨setRow_other w g q cs (by rintro rfl;exact hc (by rw [hg];simp)),rfl⟩⟩
theorem chg0_cell {w W:World} {ρ:Nat→Nat} (h:Chg [0] w ρ W ρ) {p:Addr} (hp:ρ p.block=0) (v:Value):Chg [0] w ρ (W.setCell p v) ρ:=
 ⟨h.os,h.tape,h.output,by simpa using h.size,fun q hq hc=> ⟨(Below.heap_setCell _ _ _ _ (by rintro rfl;exact hc (by rw [hp];simp))).trans (h.blk q hq hc).1,rfl⟩⟩
end Go.Proofs.YtlcidkiplidamaaGreatDoor
namespace Go.Proofs.YtlcidkiplidamaaGreatDoor
open Go Go.RowKit Lib
theorem app_str {P:Program} (w:World) (base:Nat) (t u ty e:TypeId) (ht:P.underlying t=some (.slice e)) (hu:P.underlying u=some .string) (hi:(P.info? e).map (fun i=> (i.zero,i.size,i.bytes))=some (some (.int .u8 0),1,1))
  {g n cap:Nat} {xs:List Value} (hown:w.ownsRow base e 1 (.slice (some ⟨g,0,none⟩) n cap) n xs) (s:ByteArray) (hpos:0<n) (h63:n+s.size≤maxLen) (hbytes:n+s.size≤140737488355328) (hbase:base≤w.heap.size):
  ∃g' cap' w',(Builtin.append_ #[t,u] ty #[.slice (some ⟨g,0,none⟩) n cap, .string s]).run P w= .ok (.slice (some ⟨g',0,none⟩) (n+s.size) cap') w'∧w'.ownsRow base e 1 (.slice (some ⟨g',0,none⟩) (n+s.size) cap') (n+s.size) (xs++strCells s)∧w.grownBy w' (some g)∧(g'=g∨g'=w.heap.size):=by
 obtain⟨i,hi,hz,hsize,hby⟩:=info_parts hi
 obtain⟨v',w',hr,h2,h3,_⟩:=run_append_own_string (P:=P) w base t u ty e i ht hu hi hz hsize hby _ n xs hown s h63 hbytes hbase
 obtain⟨g',cap',rfl,_,_⟩:=h2.form (by omega)
 refine⟨g',cap',w',hr,h2,h3, ?_⟩
 rcases hown.2 with⟨hv,_⟩ | ⟨g0,cap0,cur,hv,hb,hg,hnc,hcm,hcs,hx⟩
 ·cases hv
 ·injection hv with hv _ hcp
  injection hv with hv
  injection hv with hv
  subst hv
  subst hcp
  by_cases hroom:n+s.size≤cap
  ·left
   have hr2:=run_append_room_string (P:=P) w t u ty e i ht hu hi hsize g n cap cur hg s hroom (by omega)
   rw [hr] at hr2
   injection hr2 with hr2
   injection hr2 with hr2
   injection hr2 with hr2
   injection hr2
  ·right
   have hr2:=run_append_grow_string (P:=P) w t u ty e i (.int .u8 0) ht hu hi hz ⟨g,0,none⟩ n cap xs (by rw [hsize];simpa using hown.1) (hown.cells (g:=g) rfl) s (by omega) (by unfold maxLen at h63;omega) (by rw [hby];exact growslice_fits (by omega) (by omega))
   rw [hr] at hr2
   injection hr2 with hr2
   injection hr2 with hr2
   injection hr2 with hr2
   injection hr2
theorem wpl_app_str {P:Program} {w:World} {ops:Array Oper} {rest:List Oper} {o:Oper} {a:Act} {Q:Exit→Act→World→Prop} (hgd:o.guard=none) (sl x:Operand) (t u:TypeId)
  (ho:o.op= .call { callee:= .builtin .append,args:= #[sl,x],argTypes:= #[t,u] }) {e:TypeId} (ht:P.underlying t=some (.slice e)) (hu:P.underlying u=some .string)
  (hi:(P.info? e).map (fun i=> (i.zero,i.size,i.bytes))=some (some (.int .u8 0),1,1)) (base:Nat) {g n cap:Nat} {xs:List Value} (hs:a.eval sl= .slice (some ⟨g,0,none⟩) n cap) (hown:w.ownsRow base e 1 (.slice (some ⟨g,0,none⟩) n cap) n xs)
  {s:ByteArray} (hx:a.eval x= .string s) (hpos:0<n) (h63:n+s.size≤maxLen) (hbytes:n+s.size≤140737488355328) (hbase:base≤w.heap.size)
  (h: ∀g' cap' w',w'.ownsRow base e 1 (.slice (some ⟨g',0,none⟩) (n+s.size) cap') (n+s.size) (xs++strCells s)→w.grownBy w' (some g)→(g'=g∨g'=w.heap.size)→wpList P ops Q rest (a.put o.dst (.slice (some ⟨g',0,none⟩) (n+s.size) cap')) w'):wpList P ops Q (o::rest) a w:=by
 refine wpList_plain hgd fun K hK=> ?_
 obtain⟨g',cap',w',hr,h2,h3,h4⟩:=app_str (P:=P) w base t u o.type e ht hu hi hown s hpos h63 hbytes hbase
 unfold Oper.wp execOp
 simp only [ho,resolve,invoke,builtin,Sem.run_bind,Sem.run_pure,Result.andThen_ok,List.map_toArray,List.map_cons,List.map_nil,hs,hx,hr]
 exact hK _ _ (h g' cap' w' h2 h3 h4)
end Go.Proofs.YtlcidkiplidamaaGreatDoor
