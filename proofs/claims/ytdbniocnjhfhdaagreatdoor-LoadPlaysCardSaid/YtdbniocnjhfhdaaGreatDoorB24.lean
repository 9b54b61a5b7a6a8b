/- Part 24 of what the laws rest on: walks. Conditions: those that each theorem names. -/
import Derived.Test.YtdbniocnjhfhdaaGreatDoorB23
import Derived.Deep.CutBlock
import Derived.Deep.DeepCutAuto
set_option linter.unusedSimpArgs false
set_option linter.unusedVariables false
set_option maxRecDepth 100000
set_option maxHeartbeats 2000000
namespace Go.Proofs.YtdbniocnjhfhdaaGreatDoor
open Go Go.RowKit Lib
structure Fr (R base j:Nat) (w w':World):Prop where
 but:But base [R] w w'
 cl: ∀o,6≤o→o≠j→w'.cell? ⟨R,o,none⟩=w.cell? ⟨R,o,none⟩
theorem Fr.refl (R base j:Nat) (w:World):Fr R base j w w:=⟨But.refl _ _ _,fun _ _ _=>rfl⟩
theorem Fr.trans {R base j:Nat} {a b c:World} (h:Fr R base j a b) (k:Fr R base j b c):Fr R base j a c:=⟨h.but.trans k.but,fun o h1 h2=> (k.cl o h1 h2).trans (h.cl o h1 h2)⟩
theorem Fr.mv {R base j:Nat} {a b c:World} (h:Fr R base j a b) (k:Mv R b c) (hb:base≤a.heap.size):Fr R base j a c:=
 h.trans ⟨k.1.mono (Nat.le_trans hb h.but.size) fun _ _ h=>h,fun o h1 _=>k.2 o h1⟩
theorem Fr.low {R base j:Nat} {a b c:World} (h:Fr R base j a b) (hR:R<base) (k:Below base b c):Fr R base j a c:=
 h.trans ⟨But.of_below k,fun o _ _=>k.cell (p:=⟨R,o,none⟩) hR⟩
theorem Fr.cell {R base j:Nat} {a b:World} (h:Fr R base j a b) (v:Value):Fr R base j a (b.setCell ⟨R,j,none⟩ v):=
 ⟨h.but.set ⟨R,j,none⟩ (.inl Sp) v,fun o h1 h2=> (World.cell?_setCell_other _ _ _ _ (by intro e;injection e;omega)).trans (h.cl o h1 h2)⟩
theorem Mv.own {R base n:Nat} {w w':World} {e:TypeId} {size:Nat} {v:Value} {xs:List Value} (m:Mv R w w') (h:w.ownsRow base e size v n xs) (hR:R<base):w'.ownsRow base e size v n xs:=
 aqj h fun g hg=>m.1.block g (h.lt g hg).2 (by have:=(h.lt g hg).1;simp;omega)
theorem Mv.size {R:Nat} {w w':World} (m:Mv R w w'):w.heap.size≤w'.heap.size:=m.1.size
theorem lqU (n:Nat) (w:World) (hn:n<4294967296):Calls Tryz.prog 102 #[.int .i64 n] w fun e w'=>e= .returned (.int .i64 (dqG n))∧w'=w:=by
 have h1:bits .and .i64 (n:Int) 4294967295=n:=by
  have e:n&&&4294967295=n:=by rw [show n&&&4294967295=n%4294967296 from Nat.and_two_pow_sub_one_eq_mod n 32];omega
  have:=iqm n 4294967295 Om Om
  rw [e] at this
  exact this
 by_cases h:n<2147483648
 ·have h2:decide ((2147483648:Int)≤n)=false:=by simp;omega
  have e:dqG n=n:=if_pos h
  rw [e]
  go_enter Tryz.func102,Tryz.ntmps102
  go_wp2_with fail
  go_ret
  exact⟨rfl,rfl⟩
 have h2:decide ((2147483648:Int)≤n)=true:=by simp;omega
 have e:dqG n=(n:Int) - 4294967296:=if_neg h
 rw [e]
 go_enter Tryz.func102,Tryz.ntmps102
 go_wp2_with fail
 go_ret
 exact⟨rfl,rfl⟩
def gqD (w:World) (R base j:Nat) (e:TypeId) (size n:Nat) (cells:List Value):Prop:= ∃v,w.cell? ⟨R,j,none⟩=some v∧w.ownsRow base e size v n cells
theorem gqD.mv {R base j n:Nat} {w w':World} {e:TypeId} {size:Nat} {cs:List Value} (h:gqD w R base j e size n cs) (m:Mv R w w') (hR:R<base) (hj:6≤j):gqD w' R base j e size n cs:=by
 obtain⟨v,h1,h2⟩:=h
 exact⟨v,(m.2 j hj).trans h1,m.own h2 hR⟩
theorem gqD.below {R base j n:Nat} {w w':World} {e:TypeId} {size:Nat} {cs:List Value} (h:gqD w R base j e size n cs) (hR:R<w.heap.size) (hb:Below w.heap.size w w'):gqD w' R base j e size n cs:=by
 obtain⟨v,h1,h2⟩:=h
 exact⟨v,(hb.cell (p:=⟨R,j,none⟩) hR).trans h1,aqj h2 fun g hg=>hb.block g (h2.lt g hg).2⟩
theorem oqj {w:World} {base:Nat} {e:TypeId} {v:Value} {bs:List UInt8} (h:w.ownsRow base e 1 v bs.length (bs.map bV)): ∃A cap,v= .slice A bs.length cap∧RdB w A bs.length cap bs:=by
 rcases id h.2 with⟨rfl,hx⟩ | ⟨g,cap,cur,rfl,_⟩
 ·have hb:bs= []:=by simpa using hx
  subst hb
  exact⟨none,0,rfl,rfl,Nat.le_refl _,by simp,fun h=>absurd h Sp⟩
 exact⟨_,cap,rfl,gqL h⟩
theorem Mv.put {R:Nat} {a w:World} (h:Mv R a w) (q:Addr) (v:Value) (hq:a.heap.size≤q.block) (hR:R<a.heap.size):Mv R a (w.setCell q v):=
 ⟨h.1.set q (.inr hq) v,fun j hj=> (World.cell?_setCell_other _ _ _ _ (by rintro rfl;simp at hq;omega)).trans (h.2 j hj)⟩
theorem Mv.alloc {R:Nat} {a w:World} (h:Mv R a w) (o:Obj) (hR:R<a.heap.size):Mv R a (w.alloc o):=h.trans (Mv.of_below (Nat.lt_of_lt_of_le hR h.1.size) (Rf9.alloc Nr o))
theorem gq3 (R base:Nat) (A:Option Addr) (cap:Nat) (l:List UInt8) (pool:List Ko) (x:Rz) (cs:List Ko) (w:World) (h:At3 w R A cap l pool x) (hB:base≤w.heap.size) (hR:R<base) (hr:gqD w R base 8 78 5 cs.length (cs.flatMap Ko.cells)) (hc:cs.length≤100000):
  Calls Tryz.prog 79 #[.pointer (some ⟨R,0,none⟩)] w fun e w'=> ∃k x',e= .returned (.tuple #[])∧Is3 (koP l) x k x'∧At3 w' R A cap l pool x'∧gqD w' R base 8 78 5 (cs++ [k]).length ((cs++ [k]).flatMap Ko.cells)∧Fr R base 8 w w':=by
 obtain⟨p,most,nm,e,bad,_,_,hs⟩:=id h
 have c1:=hs.c1
 have fz:=hs.fz
 have H:=Hq h
 have HR:=Hq hr
 clear hs h hr
 go_enter Tryz.func79,Tryz.ntmps79
 go_upto_block 0 with(go_at_call 77;refine(aqu R A cap 1 l pool x _ H.out Om).mono ?_;rintro e1 w1 ⟨a1,x1,v1,rfl,⟨rfl,ha1⟩,hi1,hm1,hs1⟩;have HI1:=Hq hi1;have HM1:=Hq hm1;have HS1:=Hq hs1;clear hi1 hm1 hs1)
 have hz1:=HM1.out.size
 have hGR: ¬w1.heap.size=R:=by omega
 obtain⟨W1,hW1⟩: ∃W1,W1=w1.alloc (.cells #[.int .i64 a1, .string ⟨#[]⟩, .int .i64 0, .int .i64 0, .int .i64 0] 78):=⟨_,rfl⟩
 rw [←hW1]
 obtain⟨G,hG⟩: ∃G,w1.heap.size=G:=⟨_,rfl⟩
 have X1:=Hq (show Bx W1 G [.int .i64 a1, .string ⟨#[]⟩, .int .i64 0, .int .i64 0, .int .i64 0] 78 by rw [hW1, ←hG];exact aql w1 _ _)
 have HSA:=Hq (show At3 W1 R A cap l pool x1 by rw [hW1];exact HS1.out.alloc _)
 have HMA:=Hq (show Mv R w W1 by rw [hW1];exact HM1.out.alloc _ Om)
 rw [hG] at hGR⊢
 have hwG:w.heap.size≤G:=by omega
 have hRG:R<G:=by omega
 clear HS1 HM1 hW1 hG hz1
 go_cut [4,17,26,32,37] (fun v4 v17 v26 v32 v37 wc=>Hid (∃k x',Is3 (koP l) x k x'∧At3 wc R A cap l pool x'∧Bx wc G k.cells 78∧Mv R w wc))
 case first=>
  have E1:=Hq (show(x.go fun s=> (koP l s).o)=_ by simp only [koP_o];exact HI1.out.step _)
  have dd0:=X1.out.cell 0 rfl
  by_cases t1:a1=1
  ·subst t1
   go_wp2_with (first
    | (go_at_call 77;refine(aqu R A cap 2 l pool x1 _ HSA.out Om).mono ?_;rintro e2 w2 ⟨a2,x2,v2,rfl,⟨rfl,ha2⟩,hi,hm,hs⟩;have HI2:=Hq hi;have HM2:=Hq hm;have HS2:=Hq hs;clear hi hm hs)
    | (go_at_call 104;refine(cqq R A cap a2 l pool x2 _ HS2.out Om).mono ?_;rintro e3 w3 ⟨a3,x3,v3,rfl,⟨ho,ha3⟩,hi,hm,hs⟩;obtain⟨A',cap',rfl,hrd⟩:=oqj ho;have hcv:=hrd.str;have HI3:=Hq hi;have HM3:=Hq hm;have HS3:=Hq hs;have X:=hm.bx (HM2.out.bx X1.out hGR) hGR;have X3:=Hq X;have d0:=X.cell 0 rfl;have d1:=X.cell 1 rfl;have d2:=X.cell 2 rfl;have d3:=X.cell 3 rfl;have d4:=X.cell 4 rfl;have z:=fun o=>X.frozen o;clear hi hm hs ho hrd X))
   go_meet
   exact Hq ⟨⟨1,⟨a3.toArray⟩,0,0,0⟩,x3,(E1.out.trans (HI2.out.step _)).trans (HI3.out.step _),HS3.out.far _ _ (.inl hRG),X3.out.set 1 _,((HMA.out.trans HM2.out).trans HM3.out).put _ _ hwG Om⟩
  have T1:((a1:Int)==1)=false:=by simp;omega
  by_cases t3:a1=3
  ·subst t3
   go_wp2_with (first
    | (go_at_call 77;refine(aqu R A cap 4 l pool x1 _ HSA.out Om).mono ?_;rintro e2 w2 ⟨a2,x2,v2,rfl,⟨rfl,ha2⟩,hi,hm,hs⟩;have HI2:=Hq hi;have HM2:=Hq hm;have HS2:=Hq hs;have X:=hm.bx X1.out hGR;have X2:=Hq X;have d0:=X.cell 0 rfl;have d1:=X.cell 1 rfl;have d2:=X.cell 2 rfl;have d3:=X.cell 3 rfl;have d4:=X.cell 4 rfl;have z:=fun o=>X.frozen o;clear hi hm hs X)
    | (go_at_call 102;refine(lqU _ _ ha2).mono ?_;rintro e3 w3 ⟨rfl,rfl⟩))
   go_meet
   exact Hq ⟨⟨3,⟨#[]⟩,dqG a2,0,0⟩,x2,E1.out.trans (HI2.out.step _),HS2.out.far _ _ (.inl hRG),X2.out.set 2 _,(HMA.out.trans HM2.out).put _ _ hwG Om⟩
  have T3:((a1:Int)==3)=false:=by simp;omega
  by_cases t7:a1=7
  ·subst t7
   go_wp2_with (go_at_call 77;refine(aqu R A cap 2 l pool x1 _ HSA.out Om).mono ?_;rintro e2 w2 ⟨a2,x2,v2,rfl,⟨rfl,ha2⟩,hi,hm,hs⟩;have HI2:=Hq hi;have HM2:=Hq hm;have HS2:=Hq hs;have X:=hm.bx X1.out hGR;have X2:=Hq X;have d0:=X.cell 0 rfl;have d1:=X.cell 1 rfl;have d2:=X.cell 2 rfl;have d3:=X.cell 3 rfl;have d4:=X.cell 4 rfl;have z:=fun o=>X.frozen o;clear hi hm hs X)
   go_meet
   exact Hq ⟨⟨7,⟨#[]⟩,0,a2,0⟩,x2,E1.out.trans (HI2.out.step _),HS2.out.far _ _ (.inl hRG),X2.out.set 3 _,(HMA.out.trans HM2.out).put _ _ hwG Om⟩
  have T7:((a1:Int)==7)=false:=by simp;omega
  by_cases t9:a1=9∨a1=10∨a1=11∨a1=12
  ·have E2:=Hq (E1.out.trans (show _=(x1.go fun s1=> (aqS l 2 s1).o.go fun n s2=> (aqS l 2 s2).o.go fun m s3=>some (⟨a1,⟨#[]⟩,0,n,m⟩,s3)) by simp only [if_neg t1,if_neg t3,if_neg t7,if_pos t9]))
   have TT: ∃b1 b2 b3:Bool,((a1:Int)==9)=b1∧((a1:Int)==10)=b2∧((a1:Int)==11)=b3∧((a1:Int)==12)=(!(b1||b2||b3)):=by
    rcases t9 with rfl|rfl|rfl|rfl<;>exact⟨_,_,_,rfl,rfl,rfl,rfl⟩
   obtain⟨b1,b2,b3,T9,T10,T11,T12⟩:=TT
   clear t9
   cases b1<;>cases b2<;>cases b3<;> (try simp only [Bool.or_false,Bool.or_true,Bool.not_true,Bool.not_false,Bool.true_or,Bool.false_or] at T12)
   all_goals
    go_wp2_with (first
     | (go_at_call 77;refine(aqu R A cap 2 l pool x2 _ HS2.out Om).mono ?_;rintro e3 w3 ⟨a3,x3,v3,rfl,⟨rfl,ha3⟩,hi,hm,hs⟩;have HI3:=Hq hi;have HM3:=Hq hm;have HS3:=Hq hs;have X:=hm.bx X2.out hGR;have X3:=Hq X;have d0:=X.cell 0 rfl;have d1:=X.cell 1 rfl;have d2:=X.cell 2 rfl;have d3:=X.cell 3 rfl;have d4:=X.cell 4 rfl;have z:=fun o=>X.frozen o;clear hi hm hs X)
     | (go_at_call 77;refine(aqu R A cap 2 l pool x1 _ HSA.out Om).mono ?_;rintro e2 w2 ⟨a2,x2,v2,rfl,⟨rfl,ha2⟩,hi,hm,hs⟩;have HI2:=Hq hi;have HM2:=Hq hm;have HS2:=Hq (hs.far ⟨G,3,none⟩ (.int .i64 a2) (.inl hRG));have X:=hm.bx X1.out hGR;have X2:=Hq (X.set 3 (.int .i64 a2));have d0:=X.cell 0 rfl;have d1:=X.cell 1 rfl;have d2:=X.cell 2 rfl;have d3:=X.cell 3 rfl;have d4:=X.cell 4 rfl;have z:=fun o=>X.frozen o;clear hi hm hs X))
    go_meet
    exact Hq ⟨⟨a1,⟨#[]⟩,0,a2,a3⟩,x3,(E2.out.trans (HI2.out.step _)).trans (HI3.out.step _),HS3.out.far _ _ (.inl hRG),X3.out.set 4 _,(((HMA.out.trans HM2.out).put _ _ hwG Om).trans HM3.out).put _ _ hwG Om⟩
  have E2:=Hq (E1.out.trans (show _=none by simp only [if_neg t1,if_neg t3,if_neg t7,if_neg t9];exact gq1 _))
  have T9:((a1:Int)==9)=false:=by simp;omega
  have T10:((a1:Int)==10)=false:=by simp;omega
  have T11:((a1:Int)==11)=false:=by simp;omega
  have T12:((a1:Int)==12)=false:=by simp;omega
  go_wp2_with (go_at_call 78;refine(aq4 R A cap p 13 l pool x1 _ HSA.out Om).mono ?_;rintro e3 w3 ⟨rfl,hmv,hat⟩;have HM:=Hq hmv;have HA:=Hq hat;clear hmv hat)
  go_meet
  exact Hq ⟨⟨a1,⟨#[]⟩,0,0,0⟩,none,E2.out,HA.out,HM.out.bx X1.out hGR,HMA.out.trans HM.out⟩
 case rest=>
  obtain⟨k,x',hi,hat,X,hm⟩:=hcut.out
  have HI:=Hq hi
  have HA:=Hq hat
  have HM:=Hq hm
  have XG:=Hq X
  unfold Ko.cells at X
  have d0:=X.cell 0 rfl
  have d1:=X.cell 1 rfl
  have d2:=X.cell 2 rfl
  have d3:=X.cell 3 rfl
  have d4:=X.cell 4 rfl
  have z:=fun o=>X.frozen o
  obtain⟨pv,c8,ho⟩:=HR.out.mv hm hR Om
  have HO:=Hq ho
  have hzc:=hm.size
  have hRc:R<wc.heap.size:=by omega
  obtain⟨_,_,_,_,_,_,_,hs⟩:=id hat
  have fz2:=hs.fz
  have hne:pv.ownBlock≠some R:=fun e=>by have:=(ho.lt R e).1;omega
  clear hi hat hm X hs hcut ho
  obtain⟨Av,cv,rfl⟩:=aq7 HO.out
  go_wp2_with fail
  go_region_law (first
   | (refine aq6 rfl (.tmp 53) (.tmp 55) 53 rfl Tryz.underlying53 eqT rfl Om base rfl ((aqj HO.out (fun _ _=>rfl)).alloc _) rfl rfl (aqm _ _ _ _ (by first|rfl|omega| (simp<;>omega))) Oc Om Mz Om (by first|rfl|omega| (simp<;>omega)) ?_
      intro g6 cap6 W' ho hg hb hgg
      have d8:=(hb.cell (p:=⟨R,8,none⟩) hR).trans ((((Below.refl wc.heap.size wc).alloc Nr _).drew.cell (p:=⟨R,8,none⟩) hRc).trans c8)
      have f8:=(hb.frozen (p:=⟨R,8,none⟩) hR).trans ((((Below.refl wc.heap.size wc).alloc Nr _).drew.frozen (p:=⟨R,8,none⟩) hRc).trans (fz2 8))
      have HO6:=Hq ho
      have HB6:=Hq hb
      clear ho hg hb hgg))
  all_goals
   go_wp2_with fail
   refine⟨rfl, .tuple #[],by simp [results,Tryz.results79], ?_⟩
   refine⟨k,x',rfl,HI.out, ?_,⟨_,World.cell?_setCell_same _ _ _ d8, ?_⟩, ?_⟩
   ·exact(((HA.out.alloc _).drew.low HB6.out hR).far _ _ (.inr ⟨rfl,by simp⟩))
   ·refine aqF (aqj HO6.out fun g hg=>Below.heap_setCell _ _ _ _ ?_) Sp (by simp [Ko.cells])
    have:=(HO6.out.lt g hg).1
    simp
    omega
   exact((((Fr.refl R base 8 w).mv HM.out hB).low hR ((Rf9.alloc Om _).drew)).low hR HB6.out).cell _
section
variable {W W':World} {R lo:Nat} {A:Option Addr} {cap:Nat} {l:List UInt8} {pool:List Ko} {x:Rz} {s:Rs}
theorem At3.fz (h:At3 W R A cap l pool x): ∀o,W.frozen? ⟨R,o,none⟩=false:=by
 obtain⟨_,_,_,_,_,_,_,hs⟩:=h
 exact hs.fz
theorem At3.c1 (h:At3 W R A cap l pool x): ∃p:Nat,W.cell? ⟨R,1,none⟩=some (.int .i64 p)∧(∀s,x=some s→s.pos=p)∧p≤65536:=by
 obtain⟨p,_,_,_,_,hr,_,hs⟩:=h
 refine⟨p,hs.c1, ?_,Nat.le_trans hs.pos hs.len⟩
 rintro s rfl
 exact hr.1
theorem At3.c2 (h:At3 W R A cap l pool (some s)):W.cell? ⟨R,2,none⟩=some (.int .i64 0):=by
 obtain⟨p,_,_,_,_,⟨_,_,_,rfl⟩,_,hs⟩:=h
 exact hs.c2
theorem At3.e2 (h:At3 W R A cap l pool none): ∃e:Int,W.cell? ⟨R,2,none⟩=some (.int .i64 e)∧(e==0)=false∧(e !=0)=true∧e≠12:=by
 obtain⟨p,_,_,e,_,hr,_,hs⟩:=h
 exact⟨e,hs.c2,by simpa using hr.1,by simpa using hr.1,by have:=hr.2;omega⟩
theorem At3.hpool (h:At3 W R A cap l pool (some s)):s.pool=pool:=by
 obtain⟨_,_,_,_,_,_,hp,_⟩:=h
 exact hp _ rfl
def Pl3 (W:World) (R lo:Nat) (pool:List Ko):Prop:= ∃pv,W.cell? ⟨R,8,none⟩=some pv∧bqm W (fun g=>g<lo∧g≠R) 5 pool.length (pool.flatMap Ko.cells) pv
theorem Pl3.mv (h:Pl3 W R lo pool) (m:Mv R W W'):Pl3 W' R lo pool:=by
 obtain⟨pv,h1,h2⟩:=h
 exact⟨pv,(m.2 8 Om).trans h1,h2.keep (aqC.of_but m.1 fun g hg=>by simpa using hg.2)⟩
theorem Pl3.fr {base j:Nat} (h:Pl3 W R lo pool) (m:Fr R base j W W') (hj:8≠j) (hb:lo≤base):Pl3 W' R lo pool:=by
 obtain⟨pv,h1,h2⟩:=h
 exact⟨pv,(m.cl 8 Om hj).trans h1,h2.keep ⟨m.but.size,fun g hg hk o=>m.but.cell (p:=⟨g,o,none⟩) (Nat.lt_of_lt_of_le hk.1 hb) (by simpa using hk.2)⟩⟩
theorem Pl3.cells (h:Pl3 W R lo pool): ∃A cap,W.cell? ⟨R,8,none⟩=some (.slice A pool.length cap)∧pool.length≤cap∧pool.length≤1048576∧
  ∀k x,pool[k]?=some x→ ∃b off,A=some ⟨b,off,none⟩∧b≠R∧W.cell? ⟨b,off+k*5,none⟩=some (.int .i64 x.tag)∧W.cell? ⟨b,off+k*5+1,none⟩=some (.string x.text):=by
 obtain⟨pv,h1,A,cap,rfl,h2,h3,h4,h5⟩:=h
 refine⟨A,cap,h1,h2,h3,fun k x hk=> ?_⟩
 obtain⟨b,off,e,_,hb,hc⟩:=h5 (by have:=(List.getElem?_eq_some_iff.1 hk).1;omega)
 have hr:=cqL Ko.cells 5 (fun _=>rfl) pool k x hk
 exact⟨b,off,e,hb.2,hc _ _ ((hr 0 Om).trans rfl),hc _ _ ((hr 1 Om).trans rfl)⟩
end
theorem cq8 (R lo p:Nat) (A:Option Addr) (cap:Nat) (l:List UInt8) (pool:List Ko) (x:Rz) (w:World) (h:At3 w R A cap l pool x) (hpl:Pl3 w R lo pool) (hp: ∀s,x=some s→s.pos=p):
  Calls Tryz.prog 105 #[.pointer (some ⟨R,0,none⟩)] w (P3 w R A cap l pool (dqS l) x fun a v _=>v= .string a.2∧a.1=p):=by
 obtain⟨p0,c1,hp0,_⟩:=h.c1
 have fz:=h.fz
 have H:=Hq h
 have HPL:=Hq hpl
 have HP:=Hq hp
 clear h hpl hp hp0
 go_enter Tryz.func105,Tryz.ntmps105
 go_upto_region 3 with(go_at_call 77;refine(aqu R A cap 2 l pool x _ H.out Om).mono ?_;rintro e1 w1 ⟨a1,x1,v1,rfl,⟨rfl,ha1⟩,hi,hm,hs⟩;have HI1:=Hq hi;have HM1:=Hq hm;have HS1:=Hq hs;clear hi hm hs)
 have fz1:=HS1.out.fz
 have HPL1:=Hq (HPL.out.mv HM1.out)
 have key: ∀t,x1=none∨(∃s1,x1=some s1∧(match(if a1=0 then none else pool[a1 - 1]?) with|none=>True|some k=>k.tag≠1))→Is3 (dqS l) x (p,t) none:=by
  intro t ht
  rcases ht with rfl| ⟨s1,rfl,ht⟩
  ·show(x.go fun s=> (dqS l s).o)=none
   unfold dqS
   simp only [cqx]
   cases x with
   |none=>rfl
   |some s=>
    have:=HI1.out
    show(aqS l 2 s).o.go _=none
    rw [show(aqS l 2 s).o=none from this]
    rfl
  obtain⟨s,rfl,hn⟩:=HI1.out.live
  refine fqY _ (q:=(s.pos,20)) ?_
  unfold dqS
  rw [hn]
  show(match(if a1=0 then none else s.pool[a1 - 1]?) with|none=>_|some k=>_)=_
  rw [H.out.hpool]
  revert ht
  cases (if a1=0 then none else pool[a1 - 1]?) with
  |none=>intro _;rfl
  |some k=>intro ht;exact if_neg ht
 have KEY:=Hq key
 clear key
 obtain⟨Ap,capp,c8,hcap,hmax,hcell⟩:=HPL1.out.cells
 have HC:=Hq hcell
 clear hcell
 rcases x1 with _|s1
 ·obtain⟨e2,d2,T1,T2,_⟩:=HS1.out.e2
  have KQ:=Hq (KEY.out ⟨#[]⟩ (.inl rfl))
  go_wp2_with fail
  go_ret
  exact⟨(p,⟨#[]⟩),none,_,rfl,⟨rfl,rfl⟩,KQ.out,HM1.out,HS1.out⟩
 have d2:=HS1.out.c2
 have fin: ∀w2,Mv R w1 w2→At3 w2 R A cap l pool none→Mv R w w2∧At3 w2 R A cap l pool none∧(∀o,w2.frozen? ⟨R,o,none⟩=false)∧ ∃e:Int,w2.cell? ⟨R,2,none⟩=some (.int .i64 e)∧(e==0)=false∧(e !=0)=true∧e≠12:=fun w2 m h=> ⟨HM1.out.trans m,h,h.fz,h.e2⟩
 have FIN:=Hq fin
 clear fin
 rcases Nat.eq_zero_or_pos a1 with h0|h0
 ·subst h0
  have KQ:=Hq (KEY.out ⟨#[]⟩ (.inr ⟨s1,rfl,trivial⟩))
  go_wp2_with (go_at_call 78;refine(aq4 R A cap p0 20 l pool _ _ HS1.out Om).mono ?_;rintro e3 w3 ⟨rfl,hmv,hat⟩;obtain⟨hm2,ha2,fz2,ee,c2',T1,T2,_⟩:=FIN.out w3 hmv hat;have HM:=Hq hm2;have HA:=Hq ha2;clear hmv hat hm2 ha2)
  go_ret
  exact⟨(p,⟨#[]⟩),none,_,rfl,⟨rfl,rfl⟩,KQ.out,HM.out,HA.out⟩
 obtain⟨k,rfl⟩: ∃k,a1=k+1:=⟨a1 - 1,by omega⟩
 have hk2:decide (((k+1:Nat):Int) <1)=false:=by simp;omega
 rcases hx:pool[k]? with _|q
 ·have hge:pool.length≤k:=by simpa using hx
  have hgt:decide (((pool.length:Nat):Int) < ((k+1:Nat):Int))=true:=by simp;omega
  have KQ:=Hq (KEY.out ⟨#[]⟩ (.inr ⟨s1,rfl,by rw [if_neg Om,Nat.add_sub_cancel,hx];trivial⟩))
  clear hx
  go_wp2_with (go_at_call 78;refine(aq4 R A cap p0 20 l pool _ _ HS1.out Om).mono ?_;rintro e3 w3 ⟨rfl,hmv,hat⟩;obtain⟨hm2,ha2,fz2,ee,c2',T1,T2,_⟩:=FIN.out w3 hmv hat;have HM:=Hq hm2;have HA:=Hq ha2;clear hmv hat hm2 ha2)
  go_ret
  exact⟨(p,⟨#[]⟩),none,_,rfl,⟨rfl,rfl⟩,KQ.out,HM.out,HA.out⟩
 have hlt:k<pool.length:=(List.getElem?_eq_some_iff.1 hx).1
 have hgt:decide (((pool.length:Nat):Int) < ((k+1:Nat):Int))=false:=by simp;omega
 obtain⟨b,off,rfl,hbR,c5,c6⟩:=HC.out k q hx
 by_cases ht:q.tag=1
 ·have KK:=Hq (show Is3 (dqS l) x (p,q.text) (some s1) by
   obtain⟨s,rfl,hn⟩:=HI1.out.live
   refine jqM ?_
   unfold dqS
   rw [hn]
   show(match(if k+1=0 then none else s.pool[k+1 - 1]?) with|none=>_|some k=>_)=_
   rw [H.out.hpool,if_neg Om,Nat.add_sub_cancel,hx]
   show(if q.tag=1 then _ else _)=_
   rw [if_pos ht,HP.out s rfl])
  rw [ht] at c5
  clear hx ht
  go_wp2_with fail
  go_ret
  exact⟨(p,q.text),some s1,_,rfl,⟨rfl,rfl⟩,KK.out,HM1.out,HS1.out⟩
 have htn:(q.tag !=1)=true:=by simpa using ht
 have KQ:=Hq (KEY.out ⟨#[]⟩ (.inr ⟨s1,rfl,by rw [if_neg Om,Nat.add_sub_cancel,hx];exact ht⟩))
 clear hx ht
 go_wp2_with (go_at_call 78;refine(aq4 R A cap p0 20 l pool _ _ HS1.out Om).mono ?_;rintro e3 w3 ⟨rfl,hmv,hat⟩;obtain⟨hm2,ha2,fz2,ee,c2',T1,T2,_⟩:=FIN.out w3 hmv hat;have HM:=Hq hm2;have HA:=Hq ha2;clear hmv hat hm2 ha2)
 go_ret
 exact⟨(p,⟨#[]⟩),none,_,rfl,⟨rfl,rfl⟩,KQ.out,HM.out,HA.out⟩
theorem iq6 {σ:Type} (l:List UInt8) (want:Option (List UInt8)) (act:σ→Nat→Nat→Rs→Rx σ) (k:Nat) (seen:Bool) (v:σ) (st:Rs):(bqX l want act (k+1) seen v st).o=(dqS l st).o.go fun a s1=>
  if want=some a.2.toList∧seen=true then none else(aqS l 4 s1).o.go fun long s2=>
   if want=some a.2.toList then(act v a.1 long s2).o.go fun x' s3=> (bqX l want act k true x' s3).o else(aqP l long s2).o.go fun _ s3=> (bqX l want act k seen v s3).o:=by
 rw [bqX,cqx]
 congr 1
 funext a s1
 simp only [iq5,cqx]
 rfl
theorem fqm {σ:Type} (l:List UInt8) (want:Option (List UInt8)) (act:σ→Nat→Nat→Rs→Rx σ) (k:Nat) (seen:Bool) (v:σ) (x:Rz) (h:k=0∨x=none):(x.go fun s=> (bqX l want act k seen v s).o)=x.go fun s=>some (v,s):=by
 rcases h with rfl|rfl<;>rfl
theorem hqT (R lo:Nat) (A:Option Addr) (cap:Nat) (l:List UInt8) (pool:List Ko) (x:Rz) (w:World) (h:At3 w R A cap l pool x) (hpl:Pl3 w R lo pool):
  Calls Tryz.prog 83 #[.pointer (some ⟨R,0,none⟩)] w fun e w'=> ∃x',e= .returned (.tuple #[])∧Is3 (eqj l) x () x'∧Mv R w w'∧At3 w' R A cap l pool x':=by
 have H:=Hq h
 have HPL:=Hq hpl
 clear h hpl
 go_enter Tryz.func83,Tryz.ntmps83
 go_wp2_with (go_at_call 77;refine(aqu R A cap 2 l pool x _ H.out Om).mono ?_;rintro e1 w1 ⟨n,x1,v1,rfl,⟨rfl,ha1⟩,hi,hm,hs⟩;have HI1:=Hq hi;have HM1:=Hq hm;have HS1:=Hq hs;clear hi hm hs)
 have HE1:=Hq (show(x.go fun s=> (eqj l s).o)=x1.go fun s=> (bqX l none (fun x _ _ s=> .ok (x,s)) n false () s).o by
  unfold eqj cqg
  simp only [cqx]
  exact HI1.out.step _)
 go_loopw [3] (fun i wr=> ∃(k:Nat) (xr:Rz),i= .int .i64 k∧k≤n∧Hid ((x.go fun s=> (eqj l s).o)=xr.go fun s=> (bqX l none (fun x _ _ s=> .ok (x,s)) (n - k) false () s).o)∧Hid (Mv R w wr)∧Hid (At3 wr R A cap l pool xr)) (fun i _=>n - (RowKit.intOf i).toNat)
 case atStart=>exact⟨0,x1,rfl,by omega,HE1,HM1,HS1⟩
 case round=>
  obtain⟨k,xr,rfl,hk,HE,HM,HS⟩:=hrel
  have fzr:=HS.out.fz
  by_cases hlt:k<n
  ·have ht:decide ((k:Int) <n)=true:=by simp;omega
   rcases xr with _|s
   ·obtain⟨e2,d2,T1,T2,_⟩:=HS.out.e2
    go_wp2_with fail
    refine⟨rfl, .tuple #[],by simp [results,Tryz.results83], ?_⟩
    exact⟨none,rfl,HE.out.trans (fqm _ _ _ _ _ _ _ (.inr rfl)),HM.out,HS.out⟩
   have d2:=HS.out.c2
   obtain⟨m,hm⟩: ∃m,n - k=m+1:=⟨n - k - 1,by omega⟩
   rw [hm] at HE
   have hm2:m=n - (k+1):=by omega
   clear hm
   have HE2:=Hq (HE.out.trans (show _=(Rz.go (some s) fun s=> (dqS l s).o.go fun a s1=> (aqS l 4 s1).o.go fun long s2=> (aqP l long s2).o.go fun _ s3=> (bqX l none (fun x _ _ s=>Except.ok (x,s)) m false () s3).o) by simp [iq6]))
   go_wp2_with (first
    | (go_at_call 105;refine(cq8 R lo s.pos A cap l pool _ _ HS.out (HPL.out.mv HM.out) (by rintro s' e;injection e with e;rw [e])).mono ?_;rintro e3 w3 ⟨a3,x3,v3,rfl,⟨rfl,_⟩,hi,hm,hs⟩;have HI3:=Hq hi;have HM3:=Hq hm;have HS3:=Hq hs;clear hi hm hs)
    | (go_at_call 77;refine(aqu R A cap 4 l pool x3 _ HS3.out Om).mono ?_;rintro e4 w4 ⟨a4,x4,v4,rfl,⟨rfl,ha4⟩,hi,hm,hs⟩;have HI4:=Hq hi;have HM4:=Hq hm;have HS4:=Hq hs;clear hi hm hs)
    | (go_at_call 104;refine(cqq R A cap a4 l pool x4 _ HS4.out Om).mono ?_;rintro e5 w5 ⟨a5,x5,v5,rfl,_,hi,hm,hs⟩;have HI5:=Hq hi;have HM5:=Hq hm;have HS5:=Hq hs;clear hi hm hs))
   go_roundw
   case rel=>exact⟨k+1,x5,by go_num,by omega,Hq (((HE2.out.trans (HI3.out.step _)).trans (HI4.out.step _)).trans ((HI5.out.step _).trans (by rw [hm2]))),Hq (((HM.out.trans HM3.out).trans HM4.out).trans HM5.out),HS5⟩
   case measure=>simp [RowKit.intOf];omega
  have ht:decide ((k:Int) <n)=false:=by simp;omega
  go_wp2_with fail
  refine⟨rfl, .tuple #[],by simp [results,Tryz.results83], ?_⟩
  exact⟨xr,rfl,HE.out.trans (fqm _ _ _ _ _ _ _ (.inl Om)),HM.out,HS.out⟩
theorem gq4 {α β γ:Type} (r:Ro α) (f:α→Rs→Ro β) (g:β→Rs→Ro γ):(r.go f).go g=r.go fun a s=> (f a s).go g:=by cases r<;>rfl
def nqT (l:List UInt8) (f:aqq) (at' long:Nat) (s:Rs):Rx aqq:=if long≠2 then .error (at',26) else Rx.bind (aqS l 2 s) fun v s'=> .ok ({ f with value:=v },s')
theorem nqi (l:List UInt8) (st:Rs):(bqY l st).o=(aqS l 2 st).o.go fun a s1=> (aqS l 2 s1).o.go fun n s2=> (aqS l 2 s2).o.go fun d s3=> (aqS l 2 s3).o.go fun k s4=> (bqX l (some aqL) (nqT l) k false ⟨a,n,d,0⟩ s4).o:=by
 unfold bqY cqg
 simp only [cqx]
 rfl
theorem nqU (l:List UInt8) (f:aqq) (at' long:Nat) (s:Rs):(nqT l f at' long s).o=if long≠2 then none else(aqS l 2 s).o.go fun v s'=>some ({ f with value:=v },s'):=by
 unfold nqT
 rw [iq5,cqx]
 rfl
theorem oqk {t:ByteArray}:(t.toList== [67,111,110,115,116,97,110,116,86,97,108,117,101])=decide (some aqL=some t.toList):=by
 rw [show([67,111,110,115,116,97,110,116,86,97,108,117,101]:List UInt8)=aqL by decide+kernel]
 by_cases h:t.toList=aqL
 ·simp [h]
 rw [decide_eq_false (fun e=>h (by injection e with e;exact e.symm))]
 simpa using h
theorem kqt (R lo base:Nat) (A:Option Addr) (cap:Nat) (l:List UInt8) (pool:List Ko) (x:Rz) (cs:List aqq) (w:World) (h:At3 w R A cap l pool x) (hpl:Pl3 w R lo pool) (hB:base≤w.heap.size) (hR:R<base) (hr:gqD w R base 13 119 4 cs.length (cs.flatMap aqq.cells)) (hc:cs.length≤100000):
  Calls Tryz.prog 81 #[.pointer (some ⟨R,0,none⟩)] w fun e w'=> ∃k x',e= .returned (.tuple #[])∧Is3 (bqY l) x k x'∧At3 w' R A cap l pool x'∧gqD w' R base 13 119 4 (cs++ [k]).length ((cs++ [k]).flatMap aqq.cells)∧Fr R base 13 w w':=by
 have H:=Hq h
 have HR:=Hq hr
 have HPL:=Hq hpl
 have hlt0:=h.lt
 clear h hr hpl
 go_enter Tryz.func81,Tryz.ntmps81
 go_upto_region 1 with(first
  | (go_at_call 77;refine(aqu R A cap 2 l pool x2 _ HS2.out Om).mono ?_;rintro e3 w3 ⟨a3,x3,v3,rfl,⟨rfl,ha3⟩,hi,hm,hs⟩;have HI3:=Hq hi;have HM3:=Hq hm;have HS3:=Hq hs;clear hi hm hs)
  | (go_at_call 77;refine(aqu R A cap 2 l pool x1 _ HS1.out Om).mono ?_;rintro e2 w2 ⟨a2,x2,v2,rfl,⟨rfl,ha2⟩,hi,hm,hs⟩;have HI2:=Hq hi;have HM2:=Hq hm;have HS2:=Hq hs;clear hi hm hs)
  | (go_at_call 77;refine(aqu R A cap 2 l pool x _ H.out Om).mono ?_;rintro e1 w1 ⟨a1,x1,v1,rfl,⟨rfl,ha1⟩,hi,hm,hs⟩;have HI1:=Hq hi;have HM1:=Hq hm;have HS1:=Hq hs;clear hi hm hs))
 have HE3:=Hq (show(x.go fun s=> (bqY l s).o)=_ by simp only [nqi];exact((HI1.out.step _).trans (HI2.out.step _)).trans (HI3.out.step _))
 have HM:=Hq ((HM1.out.trans HM2.out).trans HM3.out)
 have hz3:=HM.out.size
 obtain⟨F,hF⟩: ∃F,F=w3.heap.size:=⟨_,rfl⟩
 obtain⟨W,hW⟩: ∃W,W=w3.alloc (.cells #[.int .i64 a1, .int .i64 a2, .int .i64 a3, .int .i64 0] 119):=⟨_,rfl⟩
 have X0:=Hq (show Bx W F [.int .i64 a1, .int .i64 a2, .int .i64 a3, .int .i64 0] 119 by rw [hW,hF];exact aql w3 _ _)
 have HS:=Hq (show At3 W R A cap l pool x3 by rw [hW];exact HS3.out.alloc _)
 have HMW:=Hq (show Mv R w W by rw [hW];exact HM.out.alloc _ hlt0)
 rw [←hW, ←hF]
 have hwF:w.heap.size≤F:=by omega
 have hRF:R<F:=by omega
 have hFR: ¬F=R:=by omega
 clear hW hF hz3 HI1 HI2 HI3 HM1 HM2 HM3 HS1 HS2 HS3 HM
 go_upto_block 0 with(go_at_call 77;refine(aqu R A cap 2 l pool x3 _ HS.out Om).mono ?_;rintro e4 w4 ⟨n,x4,v4,rfl,⟨rfl,ha4⟩,hi,hm,hs⟩;have HI4:=Hq hi;have HM4:=Hq hm;have HS4:=Hq hs;clear hi hm hs)
 have HE4:=Hq (HE3.out.trans (HI4.out.step _))
 have X4:=Hq (HM4.out.bx X0.out hFR)
 have HMW4:=Hq (HMW.out.trans HM4.out)
 clear HE3 X0 HMW HS HM4 HI4
 go_cut [4,5,6,7,8] (fun v4 v5 v6 v7 v8 wc=>Hid (∃k x',Is3 (bqY l) x k x'∧At3 wc R A cap l pool x'∧Bx wc F k.cells 119∧Mv R w wc))
 case first=>
  go_wp2_with fail
  go_loopw [4,5,6,7,8] (fun v4 v5 v6 v7 v8 wr=> ∃(k:Nat) (had:Bool) (fv:aqq) (xr:Rz),v5= .int .i64 k∧v4= .bool had∧k≤n∧Hid ((x.go fun s=> (bqY l s).o)=xr.go fun s=> (bqX l (some aqL) (nqT l) (n - k) had fv s).o)∧Hid (Mv R w wr)∧Hid (At3 wr R A cap l pool xr)∧Hid (Bx wr F fv.cells 119)) (fun _ i _ _ _ _=>n - (RowKit.intOf i).toNat)
  case atStart=>exact⟨0,false,⟨a1,a2,a3,0⟩,x4,rfl,rfl,by omega,HE4,HMW4,HS4,X4⟩
  case round=>
   obtain⟨k,had,fv,xr,rfl,rfl,hk,HE,HM,HS,HX⟩:=hrel
   have fzr:=HS.out.fz
   by_cases hlt:k<n
   ·have ht:decide ((k:Int) <n)=true:=by simp;omega
    rcases xr with _|s
    ·obtain⟨e2,d2,T1,T2,_⟩:=HS.out.e2
     go_wp2_with fail
     go_meet
     exact Hq ⟨fv,none,HE.out,HS.out,HX.out,HM.out⟩
    have d2:=HS.out.c2
    obtain⟨p,d1,hp,hp2⟩:=HS.out.c1
    have HP:=Hq hp
    obtain⟨m,hm⟩: ∃m,n - k=m+1:=⟨n - k - 1,by omega⟩
    rw [hm] at HE
    have hm2:m=n - (k+1):=by omega
    clear hm hp
    go_upto_region 8 with(go_at_call 105;refine(cq8 R lo p A cap l pool _ _ HS.out (HPL.out.mv HM.out) HP.out).mono ?_;rintro e3 w3 ⟨⟨a3p,a3⟩,x3,v3,rfl,⟨rfl,rfl⟩,hi,hm,hs⟩;have HI3:=Hq hi;have HM3:=Hq hm;have HS3:=Hq hs;clear hi hm hs)
    have HE2:=Hq (HE.out.trans ((congrArg (Rz.go (some s)) (funext fun s=>iq6 ..)).trans (HI3.out.step _)))
    have X3:=Hq (HM3.out.bx HX.out hFR)
    have HMr:=Hq (HM.out.trans HM3.out)
    have fz3:=HS3.out.fz
    clear HX HM HE HS HI3 HM3
    --ROUND
    rcases x3 with _|s3
    ·obtain⟨e3,d3,T3,T4,_⟩:=HS3.out.e2
     go_wp2_with (first| (go_at_call 77;refine(aqu R A cap 4 l pool none _ HS3.out Om).mono ?_;rintro e4 w4 ⟨a4,x4,v4,rfl,⟨rfl,ha4⟩,hi,hm,hs⟩;obtain rfl:=hi.dead;have HM4:=Hq hm;have HS4:=Hq hs;clear hi hm hs) | (go_at_call 104;refine(cqq R A cap a4 l pool none _ HS4.out Om).mono ?_;rintro e5 w5 ⟨a5,x5,v5,rfl,⟨ho,ha5⟩,hi,hm,hs⟩;obtain rfl:=hi.dead;have HM5:=Hq hm;have HS5:=Hq hs;have HO5:=Hq ho;clear hi hm hs ho))
     go_roundw
     case rel=>exact⟨k+1,had,fv,none,by go_num,rfl,by omega,Hq (HE2.out.trans rfl),Hq ((HMr.out.trans HM4.out).trans HM5.out),Hq (HS5.out),Hq (HM5.out.bx (HM4.out.bx X3.out hFR) hFR)⟩
     case measure=>simp [RowKit.intOf];omega
    have d3:=HS3.out.c2
    have hcv:=oqk (t:=a3)
    by_cases hq:some aqL=some a3.toList
    ·rw [decide_eq_true hq] at hcv
     cases had
     ·have HE3:=Hq (HE2.out.trans (show _=(Rz.go (some s3) fun s1=> (aqS l 4 s1).o.go fun long s2=> (nqT l fv a3p long s2).o.go fun x' s3=> (bqX l (some aqL) (nqT l) m true x' s3).o) by simp [hq]))
      clear hq
      go_upto_region 13 with(go_at_call 77;refine(aqu R A cap 4 l pool (some s3) _ HS3.out Om).mono ?_;rintro e4 w4 ⟨a4,x4,v4,rfl,⟨rfl,ha4⟩,hi,hm,hs⟩;have HI4:=Hq hi;have HM4:=Hq hm;have HS4:=Hq hs;clear hi hm hs)
      have fz4:=HS4.out.fz
      have X4:=Hq (HM4.out.bx X3.out hFR)
      have HE4:=Hq (HE3.out.trans (HI4.out.step _))
      rcases x4 with _|s4
      ·obtain⟨e4,d4,T5,T6,_⟩:=HS4.out.e2
       go_wp2_with (go_at_call 77;refine(aqu R A cap 2 l pool none _ HS4.out Om).mono ?_;rintro e5 w5 ⟨a5,x5,v5,rfl,⟨rfl,ha5⟩,hi,hm,hs⟩;obtain rfl:=hi.dead;have HM5:=Hq hm;have HS5:=Hq hs;have XP:=X4.out;have X:=hm.bx XP hFR;have X5:=Hq X;have zz:=fun o=>X.frozen o;have yy:=X.cell 3 rfl;clear X;clear hi hm hs)
       go_roundw
       case rel=>exact⟨k+1,true,{ fv with value:=a5 },none,by go_num,rfl,by omega,Hq (HE4.out.trans rfl),Hq (((HMr.out.trans HM4.out).trans HM5.out).put _ _ hwF hlt0),Hq (HS5.out.far _ _ (.inl hRF)),Hq (X5.out.set 3 _)⟩
       case measure=>simp [RowKit.intOf];omega
      have d4:=HS4.out.c2
      by_cases h2:a4=2
      ·subst h2
       have HE5:=Hq (HE4.out.trans (show _=(Rz.go (some s4) fun s2=> (aqS l 2 s2).o.go fun v s3=> (bqX l (some aqL) (nqT l) m true { fv with value:=v } s3).o) by refine congrArg (Rz.go (some s4)) (funext fun s2=> ?_);rw [nqU,if_neg Sp,gq4];rfl))
       go_wp2_with (go_at_call 77;refine(aqu R A cap 2 l pool (some s4) _ HS4.out Om).mono ?_;rintro e5 w5 ⟨a5,x5,v5,rfl,⟨rfl,ha5⟩,hi,hm,hs⟩;have HI5:=Hq hi;have HM5:=Hq hm;have HS5:=Hq hs;have XP:=X4.out;have X:=hm.bx XP hFR;have X5:=Hq X;have zz:=fun o=>X.frozen o;have yy:=X.cell 3 rfl;clear X;clear hi hm hs)
       go_roundw
       case rel=>exact⟨k+1,true,{ fv with value:=a5 },x5,by go_num,rfl,by omega,Hq ((HE5.out.trans (HI5.out.step _)).trans (by rw [hm2])),Hq (((HMr.out.trans HM4.out).trans HM5.out).put _ _ hwF hlt0),Hq (HS5.out.far _ _ (.inl hRF)),Hq (X5.out.set 3 _)⟩
       case measure=>simp [RowKit.intOf];omega
      have h2b:((a4:Int) !=2)=true:=by simp;omega
      have HE5:=Hq (HE4.out.trans (show _=none by simp only [nqU,if_pos h2];rfl))
      go_wp2_with (first| (go_at_call 78;refine(aq4 R A cap a3p 26 l pool (some s4) _ HS4.out Om).mono ?_;rintro e5 w5 ⟨rfl,hm,hs⟩;have HM5:=Hq hm;have HS5:=Hq hs;clear hm hs) | (go_at_call 77;refine(aqu R A cap 2 l pool none _ HS5.out Om).mono ?_;rintro e6 w6 ⟨a6,x6,v6,rfl,⟨rfl,ha6⟩,hi,hm,hs⟩;obtain rfl:=hi.dead;have HM6:=Hq hm;have HS6:=Hq hs;have XP:=HM5.out.bx X4.out hFR;have X:=hm.bx XP hFR;have X6:=Hq X;have zz:=fun o=>X.frozen o;have yy:=X.cell 3 rfl;clear X;clear hi hm hs))
      go_roundw
      case rel=>exact⟨k+1,true,{ fv with value:=a6 },none,by go_num,rfl,by omega,Hq (HE5.out),Hq ((((HMr.out.trans HM4.out).trans HM5.out).trans HM6.out).put _ _ hwF hlt0),Hq (HS6.out.far _ _ (.inl hRF)),Hq (X6.out.set 3 _)⟩
      case measure=>simp [RowKit.intOf];omega
     have HE3:=Hq (HE2.out.trans (show _=none by simp [hq];rfl))
     clear hq
     go_wp2_with (first| (go_at_call 77;refine(aqu R A cap 2 l pool none _ HS5.out Om).mono ?_;rintro e6 w6 ⟨a6,x6,v6,rfl,⟨rfl,ha6⟩,hi,hm,hs⟩;obtain rfl:=hi.dead;have HM6:=Hq hm;have HS6:=Hq hs;have XP:=HM5.out.bx (HM4.out.bx X3.out hFR) hFR;have X:=hm.bx XP hFR;have X6:=Hq X;have zz:=fun o=>X.frozen o;have yy:=X.cell 3 rfl;clear X;clear hi hm hs) | (go_at_call 77;refine(aqu R A cap 4 l pool none _ HS4.out Om).mono ?_;rintro e5 w5 ⟨a5,x5,v5,rfl,⟨rfl,ha5⟩,hi,hm,hs⟩;obtain rfl:=hi.dead;have HM5:=Hq hm;have HS5:=Hq hs;obtain⟨ee,dd,TT1,TT2,_⟩:=hs.e2;have ff:=hs.fz;clear hi hm hs) | (go_at_call 78;refine(aq4 R A cap a3p 24 l pool (some s3) _ HS3.out Om).mono ?_;rintro e4 w4 ⟨rfl,hm,hs⟩;have HM4:=Hq hm;have HS4:=Hq hs;clear hm hs))
     go_roundw
     case rel=>exact⟨k+1,true,{ fv with value:=a6 },none,by go_num,rfl,by omega,Hq (HE3.out),Hq ((((HMr.out.trans HM4.out).trans HM5.out).trans HM6.out).put _ _ hwF hlt0),Hq (HS6.out.far _ _ (.inl hRF)),Hq (X6.out.set 3 _)⟩
     case measure=>simp [RowKit.intOf];omega
    rw [decide_eq_false hq] at hcv
    have HE3:=Hq (HE2.out.trans (show _=(Rz.go (some s3) fun s1=> (aqS l 4 s1).o.go fun long s2=> (aqP l long s2).o.go fun _ s3=> (bqX l (some aqL) (nqT l) m had fv s3).o) by simp only [hq,false_and,if_false]))
    clear hq
    go_wp2_with (first| (go_at_call 77;refine(aqu R A cap 4 l pool (some s3) _ HS3.out Om).mono ?_;rintro e4 w4 ⟨a4,x4,v4,rfl,⟨rfl,ha4⟩,hi,hm,hs⟩;have HI4:=Hq hi;have HM4:=Hq hm;have HS4:=Hq hs;clear hi hm hs) | (go_at_call 104;refine(cqq R A cap a4 l pool x4 _ HS4.out Om).mono ?_;rintro e5 w5 ⟨a5,x5,v5,rfl,⟨ho,ha5⟩,hi,hm,hs⟩;have HI5:=Hq hi;have HM5:=Hq hm;have HS5:=Hq hs;have HO5:=Hq ho;clear hi hm hs ho))
    go_roundw
    case rel=>exact⟨k+1,had,fv,x5,by go_num,rfl,by omega,Hq (((HE3.out.trans (HI4.out.step _)).trans (HI5.out.step _)).trans (by rw [hm2])),Hq ((HMr.out.trans HM4.out).trans HM5.out),Hq (HS5.out),Hq (HM5.out.bx (HM4.out.bx X3.out hFR) hFR)⟩
    case measure=>simp [RowKit.intOf];omega
   have ht:decide ((k:Int) <n)=false:=by simp;omega
   go_wp2_with fail
   go_meet
   exact Hq ⟨fv,xr,HE.out.trans (fqm _ _ _ _ _ _ _ (.inl Om)),HS.out,HX.out,HM.out⟩
 case rest=>
  obtain⟨k,x',hi,hat,X,hm⟩:=hcut.out
  have HI:=Hq hi
  have HA:=Hq hat
  have HM:=Hq hm
  unfold aqq.cells at X
  have d0:=X.cell 0 rfl
  have d1:=X.cell 1 rfl
  have d2:=X.cell 2 rfl
  have d3:=X.cell 3 rfl
  have z:=fun o=>X.frozen o
  obtain⟨pv,c8,ho⟩:=HR.out.mv hm hR Om
  have HO:=Hq ho
  have hzc:=hm.size
  have hRc:R<wc.heap.size:=by omega
  have fz2:=hat.fz
  clear hi hat hm X hcut ho
  obtain⟨Av,cv,rfl⟩:=aq7 HO.out
  go_wp2_with fail
  go_region_law (first
   | (refine aq6 rfl (.tmp 75) (.tmp 77) 55 rfl Tryz.underlying55 eqU rfl Om base rfl ((aqj HO.out (fun _ _=>rfl)).alloc _) rfl rfl (aqm _ _ _ _ (by first|rfl|omega| (simp<;>omega))) Oc Om Mz Om (by first|rfl|omega| (simp<;>omega)) ?_
      intro g6 cap6 W' ho hg hb hgg
      have d8:=(hb.cell (p:=⟨R,13,none⟩) hR).trans ((((Below.refl wc.heap.size wc).alloc Nr _).drew.cell (p:=⟨R,13,none⟩) hRc).trans c8)
      have f8:=(hb.frozen (p:=⟨R,13,none⟩) hR).trans ((((Below.refl wc.heap.size wc).alloc Nr _).drew.frozen (p:=⟨R,13,none⟩) hRc).trans (fz2 13))
      have HO6:=Hq ho
      have HB6:=Hq hb
      clear ho hg hb hgg))
  all_goals
   go_wp2_with fail
   refine⟨rfl, .tuple #[],by simp [results,Tryz.results81], ?_⟩
   refine⟨k,x',rfl,HI.out, ?_,⟨_,World.cell?_setCell_same _ _ _ d8, ?_⟩, ?_⟩
   ·exact(((HA.out.alloc _).drew.low HB6.out hR).far _ _ (.inr ⟨rfl,by simp⟩))
   ·refine aqF (aqj HO6.out fun g hg=>Below.heap_setCell _ _ _ _ ?_) Sp (by simp [aqq.cells])
    have:=(HO6.out.lt g hg).1
    simp
    omega
   exact((((Fr.refl R base 13 w).mv HM.out hB).low hR ((Rf9.alloc Om _).drew)).low hR HB6.out).cell _
end Go.Proofs.YtdbniocnjhfhdaaGreatDoor
