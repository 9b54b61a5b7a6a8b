/- Part 29 of what the laws rest on: walks. Conditions: those that each theorem names. -/
import Derived.Test.YtdbniocnjhfhdaaGreatDoorB28
import Derived.Deep.DeepCutAuto
set_option linter.unusedSimpArgs false
set_option linter.unusedVariables false
set_option maxRecDepth 100000
set_option maxHeartbeats 4000000
namespace Go.Proofs.YtdbniocnjhfhdaaGreatDoor
open Go Go.RowKit Lib Go.Maps
structure R5 (w:World) (ok:Nat→Prop) (c:aqc) (A:Option Addr) (cap:Nat) (ifs flds mths:Value) (wk:World):Prop where
 bel:Below w.heap.size w wk
 bx:Bx wk w.heap.size [.int .i64 c.minor, .int .i64 c.major, .slice A c.pool.length cap, .int .i64 c.acc, .int .i64 c.this, .int .i64 c.sup,ifs,flds,mths] 58
 bk:aqQ wk ok c A cap ifs flds mths
 lt:w.heap.size<wk.heap.size
variable {w wk:World} {ok:Nat→Prop} {c:aqc} {A:Option Addr} {cap:Nat} {ifs flds mths:Value}
theorem R5.below {wq:World} (h:R5 w ok c A cap ifs flds mths wk) (hb:Below wk.heap.size wk wq):R5 w ok c A cap ifs flds mths wq:=
 ⟨h.bel.trans (hb.mono (Nat.le_of_lt h.lt)),h.bx.below hb h.lt,h.bk.below hb,Nat.lt_of_lt_of_le h.lt hb.size⟩
theorem R5.alloc (h:R5 w ok c A cap ifs flds mths wk) (b):R5 w ok c A cap ifs flds mths (wk.alloc b):=h.below (Rf9.alloc Nr _)
theorem R5.start (h:aqQ w ok c A cap ifs flds mths):R5 w ok c A cap ifs flds mths (w.alloc (.cells #[.int .i64 c.minor, .int .i64 c.major, .slice A c.pool.length cap, .int .i64 c.acc, .int .i64 c.this, .int .i64 c.sup,ifs,flds,mths] 58)):=
 ⟨Rf9.alloc Nr _,aql w [.int .i64 c.minor, .int .i64 c.major, .slice A c.pool.length cap, .int .i64 c.acc, .int .i64 c.this, .int .i64 c.sup,ifs,flds,mths] 58,h.below (Rf9.alloc Nr _),by simp⟩
theorem Bx.nine {w:World} {g:Nat} {a0 a1 a2 a3 a4 a5 a6 a7 a8:Value} {t:TypeId} (h:Bx w g [a0,a1,a2,a3,a4,a5,a6,a7,a8] t):w.cell? ⟨g,0,none⟩=some a0∧w.cell? ⟨g,1,none⟩=some a1∧w.cell? ⟨g,2,none⟩=some a2∧w.cell? ⟨g,3,none⟩=some a3∧w.cell? ⟨g,4,none⟩=some a4∧w.cell? ⟨g,5,none⟩=some a5∧w.cell? ⟨g,6,none⟩=some a6∧w.cell? ⟨g,7,none⟩=some a7∧w.cell? ⟨g,8,none⟩=some a8:=
 ⟨h.cell 0 rfl,h.cell 1 rfl,h.cell 2 rfl,h.cell 3 rfl,h.cell 4 rfl,h.cell 5 rfl,h.cell 6 rfl,h.cell 7 rfl,h.cell 8 rfl⟩
theorem R5.drewN (h:R5 w ok c A cap ifs flds mths wk) (m:Nat):R5 w ok c A cap ifs flds mths (wk.drewN m):=h.below (below_drewN Rf9 m)
theorem R5.set (B:aqQ w ok c A cap ifs flds mths) (h:R5 w ok c A cap ifs flds mths wk) {p:Addr} (hg:w.heap.size<p.block) (v:Value):R5 w ok c A cap ifs flds mths (wk.setCell p v):=by
 have hb:Below w.heap.size w (wk.setCell p v):=h.bel.setCell Om _
 exact⟨hb,(Below.heap_setCell _ _ _ _ Om).trans h.bx,B.below hb,by simpa using h.lt⟩
theorem fq5 (h:R5 w ok c A cap ifs flds mths wk) {n tag:Int} (hn:bqA n):
  Calls Tryz.prog 91 #[.agg #[.int .i64 c.minor, .int .i64 c.major, .slice A c.pool.length cap, .int .i64 c.acc, .int .i64 c.this, .int .i64 c.sup,ifs,flds,mths], .int .i64 n, .int .i64 tag] wk fun e w'=>e= .returned (bqc (aqt c.pool n tag))∧Below wk.heap.size wk w':=
 cq3 c A cap ifs flds mths n tag ok wk h.bk.hp h.bk.h1 h.bk.h2 h.bk.h3 hn.2 hn.1
theorem cqV (h:R5 w ok c A cap ifs flds mths wk) {n:Int} (hn:bqA n):
  Calls Tryz.prog 90 #[.agg #[.int .i64 c.minor, .int .i64 c.major, .slice A c.pool.length cap, .int .i64 c.acc, .int .i64 c.this, .int .i64 c.sup,ifs,flds,mths], .int .i64 n] wk fun e w'=>e= .returned (cqh (aqf c.pool n))∧Below wk.heap.size wk w':=
 fqn c A cap ifs flds mths n ok wk h.bk hn
theorem eq7 (h:R5 w ok c A cap ifs flds mths wk) {n:Int} (hn:bqA n) (hf: ∀k∈c.pool,bqA k.a):
  Calls Tryz.prog 89 #[.agg #[.int .i64 c.minor, .int .i64 c.major, .slice A c.pool.length cap, .int .i64 c.acc, .int .i64 c.this, .int .i64 c.sup,ifs,flds,mths], .int .i64 n] wk fun e w'=>e= .returned (cqh (aqE c.pool n))∧Below wk.heap.size wk w':=
 lq1 c A cap ifs flds mths n ok wk h.bk hn hf
theorem oqt (pool:List Ko) (n:Int) (ht: ∀k∈pool,k.text.size≤65536):(dqO pool n).1.size≤65536∧(dqO pool n).2.1.size≤65536:=by
 have tsz: ∀n,((aqf pool n).getD ⟨#[]⟩).size≤65536:=fun n=>by
  cases hq:aqf pool n with
  |none=>exact Nat.zero_le _
  |some s=>exact cqe hq ht
 unfold dqO
 cases aqt pool n 12 with
 |none=>exact⟨Nat.zero_le _,Nat.zero_le _⟩
 |some k=>exact⟨tsz _,tsz _⟩
theorem kqD (pool:List Ko) (T a b:Int) (hT:T=9∨T=10∨T=11):cqR pool T a b=if(!(aqt pool a 7).isSome|| !(dqO pool b).2.2)=true then 20 else if((T==9)&& !aqD (dqO pool b).2.1.data.toList|| !(T==9)&& !(aqB (dqO pool b).2.1).2.2)=true then 22
  else if((T==9)&& !bqh (dqO pool b).1.data.toList|| !(T==9)&&((dqO pool b).1.data.toList==bqG) || ((dqO pool b).1.data.toList==dqN)&&(T==11|| !((aqB (dqO pool b).2.1).2.1.data.toList== [86])))=true then 21 else 0:=by
 unfold cqR
 rw [kqB]
 obtain⟨⟨n,d,o⟩,hv⟩: ∃v,dqO pool b=v:=⟨_,rfl⟩
 rw [hv]
 cases aqt pool a 7 with
 |none=>rfl
 |some k=>
  cases o with
  |false=>rfl
  |true=>
   have hm:(n.data.toList==dqN)=true→bqh n.data.toList=false:=fun h=>by rw [beq_iff_eq.1 h];decide
   simp only [if_true]
   have e1:(n.data.toList=bqG)=((n.data.toList==bqG)=true):=by simp
   have e2:(n.data.toList=dqN)=((n.data.toList==dqN)=true):=by simp
   have e3:((aqB d).2.1.data.toList≠ [86])=(((aqB d).2.1.data.toList== [86])=false):=by simp
   simp only [e1,e2,e3]
   generalize (n.data.toList==bqG)=b1 at*
   generalize (n.data.toList==dqN)=b2 at*
   generalize ((aqB d).2.1.data.toList== [86])=b3 at*
   generalize aqD d.data.toList=b4 at*
   generalize bqh n.data.toList=b5 at*
   generalize (aqB d).2.2=b6 at*
   rcases hT with rfl|rfl|rfl
   ·cases b2
    ·cases b4<;>cases b5<;>rfl
    rw [hm rfl]
    cases b4<;>rfl
   ·cases b1<;>cases b2<;>cases b3<;>cases b6<;>rfl
   cases b1<;>cases b2<;>cases b3<;>cases b6<;>rfl
theorem nqt (c:aqc) (A:Option Addr) (cap:Nat) (ifs flds mths:Value) (ok:Nat→Prop) (w:World) (h:aqQ w ok c A cap ifs flds mths) (hF: ∀k∈c.pool,lqN k) (k:Ko) (hk:k∈c.pool):
  Calls Tryz.prog 85 #[bqb c (.slice A c.pool.length cap) ifs flds mths,koV k] w fun e w'=>e= .returned (.int .i64 (gqz c.pool k))∧Below w.heap.size w w':=by
 have hf: ∀k∈c.pool,bqA k.a∧bqA k.b:=fun q hq=> ⟨(hF q hq).1,(hF q hq).2.1⟩
 have ht: ∀k∈c.pool,k.text.size≤65536:=fun q hq=> (hF q hq).2.2.1
 obtain⟨h1,h2,h3,h4⟩:=hF k hk
 obtain⟨T,tx,nu,a,b⟩:=k
 unfold oqf at h4
 simp only at h1 h2 h4
 have tsz: ∀n,((aqf c.pool n).getD ⟨#[]⟩).size≤65536:=fun n=>by
  cases hq:aqf c.pool n with
  |none=>exact Nat.zero_le _
  |some s=>exact cqe hq ht
 have hbl:=oqt c.pool b ht
 obtain⟨E,hE⟩: ∃E,gqz c.pool ⟨T,tx,nu,a,b⟩=E:=⟨_,rfl⟩
 obtain⟨sa,hsa⟩: ∃s,(aqf c.pool a).getD ⟨#[]⟩=s:=⟨_,rfl⟩
 obtain⟨oa,hoa⟩: ∃s,(aqf c.pool a).isSome=s:=⟨_,rfl⟩
 obtain⟨sb,hsb⟩: ∃s,(aqf c.pool b).getD ⟨#[]⟩=s:=⟨_,rfl⟩
 obtain⟨ob,hob⟩: ∃s,(aqf c.pool b).isSome=s:=⟨_,rfl⟩
 obtain⟨x7,hx7⟩: ∃x,(aqt c.pool a 7).getD aqY=x:=⟨_,rfl⟩
 obtain⟨o7,ho7⟩: ∃x,(aqt c.pool a 7).isSome=x:=⟨_,rfl⟩
 obtain⟨⟨na,nd,nb⟩,hbv⟩: ∃v,dqO c.pool b=v:=⟨_,rfl⟩
 have z1:sa.size≤1000000:=by have:=tsz a;rw [hsa] at this;omega
 have z2:sb.size≤1000000:=by have:=tsz b;rw [hsb] at this;omega
 rw [hbv] at hbl
 have z3:na.size≤1000000:=Nat.le_trans hbl.1 Dd9
 have z4:nd.size≤1000000:=Nat.le_trans hbl.2 Dd9
 have HSA:=Hq hsa
 have HOA:=Hq hoa
 have HSB:=Hq hsb
 have HOB:=Hq hob
 have HX7:=Hq hx7
 have HO7:=Hq ho7
 have HBV:=Hq hbv
 have HFF:=Hq hf
 have H1:=Hq h1
 have H2:=Hq h2
 have R1:=Hq ((R5.start h).alloc (.cells #[.int .i64 T, .string tx, .int .i64 nu, .int .i64 a, .int .i64 b] 78))
 have Y1:=Hq (aqh (w.alloc (.cells #[.int .i64 c.minor, .int .i64 c.major, .slice A c.pool.length cap, .int .i64 c.acc, .int .i64 c.this, .int .i64 c.sup,ifs,flds,mths] 58)) [.int .i64 T, .string tx, .int .i64 nu, .int .i64 a, .int .i64 b] 78 (w.heap.size+1) Sp)
 rw [hE,aqe]
 simp only [koV]
 clear h hF hf ht h1 h2 h3 hk tsz hbl
 have e7:T=7→E=if(!oa)=true then 20 else if(!aq1 sa.data.toList)=true then 21 else 0:=by
  rintro rfl
  rw [←hE, ←hoa, ←hsa]
  show eqM c.pool a=_
  unfold eqM
  cases aqf c.pool a with
  |none=>rfl
  |some s=>show(if aq1 s.data.toList=true then(0:Int) else 21)=if(!aq1 s.data.toList)=true then 21 else 0;cases aq1 s.data.toList<;>rfl
 have e12:T=12→E=if(!oa|| !ob)=true then 20 else if(!aq5 sa.data.toList)=true then 21 else if(!aqD sb.data.toList&& !(aqB sb).2.2)=true then 22 else 0:=by
  rintro rfl
  rw [←hE, ←hoa, ←hsa, ←hob, ←hsb]
  show eqN c.pool a b=_
  unfold eqN
  cases aqf c.pool a with
  |none=>rfl
  |some s=>
   cases aqf c.pool b with
   |none=>rfl
   |some d=>
    show(if aq5 s.data.toList=false then(21:Int) else if aqD d.data.toList=false∧(aqB d).2.2=false then 22 else 0)=if(!aq5 s.data.toList)=true then 21 else if(!aqD d.data.toList&& !(aqB d).2.2)=true then 22 else 0
    generalize aq5 s.data.toList=m1
    generalize aqD d.data.toList=m2
    generalize (aqB d).2.2=m3
    cases m1<;>cases m2<;>cases m3<;>rfl
 obtain⟨g1,hg1⟩: ∃v,aq1 sa.data.toList=v:=⟨_,rfl⟩
 obtain⟨m1,hm1⟩: ∃v,aq5 sa.data.toList=v:=⟨_,rfl⟩
 obtain⟨f1,hf1⟩: ∃v,aqD sb.data.toList=v:=⟨_,rfl⟩
 obtain⟨⟨ka,kr,kb⟩,hkv⟩: ∃v,aqB sb=v:=⟨_,rfl⟩
 obtain⟨f2,hf2⟩: ∃v,aqD nd.data.toList=v:=⟨_,rfl⟩
 obtain⟨⟨la,lr,lb⟩,hlv⟩: ∃v,aqB nd=v:=⟨_,rfl⟩
 obtain⟨mb,hmb⟩: ∃v,bqh na.data.toList=v:=⟨_,rfl⟩
 obtain⟨q1,hq1⟩: ∃v,(na.toList== [60,99,108,105,110,105,116,62])=v:=⟨_,rfl⟩
 obtain⟨q2,hq2⟩: ∃v,(na.toList== [60,105,110,105,116,62])=v:=⟨_,rfl⟩
 obtain⟨q3,hq3⟩: ∃v,(lr.toList== [86])=v:=⟨_,rfl⟩
 have er:(T=9∨T=10∨T=11)→E=if(!o7|| !nb)=true then 20 else if((T==9)&& !f2|| !(T==9)&& !lb)=true then 22 else if((T==9)&& !mb|| !(T==9)&&q1||q2&&(T==11|| !q3))=true then 21 else 0:=by
  intro hT
  rw [←hE,show gqz c.pool ⟨T,tx,nu,a,b⟩=cqR c.pool T a b by unfold gqz;rcases hT with rfl|rfl|rfl<;>rfl,kqD _ _ _ _ hT,ho7,hbv]
  simp only
  rw [hlv,hf2,hmb,show(na.data.toList==bqG)=q1 by rw [←hq1,ByteArray.toList_eq];rfl,show(na.data.toList==dqN)=q2 by rw [←hq2,ByteArray.toList_eq];rfl]
  simp only
  rw [show(lr.data.toList== [86])=q3 by rw [←hq3,ByteArray.toList_eq]]
 rw [hg1] at e7
 rw [hm1,hf1,hkv] at e12
 have C1:=Hq (fun W=>eq5 sa W z1)
 have C2:=Hq (fun W=>fq2 sa W z1)
 have C3:=Hq (fun W=>dqm sb W z2)
 have C4:=Hq (fun W=>eq6 sb W z2)
 have C5:=Hq (fun W=>dqm nd W z4)
 have C6:=Hq (fun W=>eq6 nd W z4)
 have C7:=Hq (fun W=>eqv na W z3)
 rw [hg1] at C1
 rw [hm1] at C2
 rw [hf1] at C3
 rw [hkv] at C4
 rw [hf2] at C5
 rw [hlv] at C6
 rw [hmb] at C7
 have E7:=Hq e7
 have E12:=Hq e12
 have ER:=Hq er
 have HE:=Hq hE
 clear hE hsa hoa hsb hob hx7 ho7 hbv hg1 hm1 hf1 hkv hf2 hlv hmb e7 e12 er z1 z2 z3 z4
 rcases h4 with rfl|rfl|rfl|rfl|rfl|rfl|rfl
 ·go_enter Tryz.func85,Tryz.ntmps85
  go_wp2_with fail
  go_ret
  exact⟨by rw [←HE.out];rfl,R1.out.bel⟩
 ·go_enter Tryz.func85,Tryz.ntmps85
  go_wp2_with fail
  go_ret
  exact⟨by rw [←HE.out];rfl,R1.out.bel⟩
 ·have HX:=Hq (E7.out rfl)
  go_enter Tryz.func85,Tryz.ntmps85
  have y3:=Y1.out.cell 3 rfl
  go_wp2_with (first| (refine wpList_load_row rfl _ _ rfl w.heap.size rfl _ _ _ _ R1.out.bx Tryz.underlying58 rfl Kq9 ?_) | (go_at_call 90;refine aqa ?_))
  refine aqb ?_
  refine(cqV R1.out H1.out).mono ?_
  rintro e w2 ⟨rfl,hb⟩
  simp only [cqh]
  rw [HSA.out,HOA.out]
  have Rw2:=Hq (R1.out.below hb)
  have Yw2:=Hq (Y1.out.below hb (Y1.out.lt))
  clear hb R1 Y1 y3
  cases oa
  case false=>
   go_wp2_with fail
   go_ret
   exact⟨by rw [HX.out];rfl,Rw2.out.bel⟩
  go_wp2_with (first| (refine wpList_load_row rfl _ _ rfl w.heap.size rfl _ _ _ _ Rw2.out.bx Tryz.underlying58 rfl Kq9 ?_) | (go_at_call 34;refine aqa ?_))
  refine aqb ?_
  refine(C1.out _).mono ?_
  rintro e w3 ⟨rfl,hb⟩
  have Rw3:=Hq (Rw2.out.below hb)
  have Yw3:=Hq (Yw2.out.below hb (Yw2.out.lt))
  clear hb Rw2 Yw2
  cases g1
  all_goals
   go_wp2_with fail
   go_ret
   exact⟨by rw [HX.out];rfl,Rw3.out.bel⟩
 ·have HX:=Hq (ER.out Dd9)
  go_enter Tryz.func85,Tryz.ntmps85
  have y3:=Y1.out.cell 3 rfl
  go_wp2_with (first| (refine wpList_load_row rfl _ _ rfl w.heap.size rfl _ _ _ _ R1.out.bx Tryz.underlying58 rfl Kq9 ?_) | (go_at_call 91;refine aqa ?_))
  refine aqb ?_
  refine(fq5 R1.out H1.out).mono ?_
  rintro e w2 ⟨rfl,hb⟩
  simp only [bqc,koV]
  rw [HX7.out,HO7.out]
  replace hb:=hb.alloc hb.size (.cells #[.int .i64 x7.tag, .string x7.text, .int .i64 x7.num, .int .i64 x7.a, .int .i64 x7.b] 78)
  have Rw2:=Hq (R1.out.below hb)
  have Yw2:=Hq (Y1.out.below hb (Y1.out.lt))
  clear hb R1 Y1 y3
  have y4:=Yw2.out.cell 4 rfl
  go_wp2_with (first| (refine wpList_load_row rfl _ _ rfl w.heap.size rfl _ _ _ _ Rw2.out.bx Tryz.underlying58 rfl Kq9 ?_) | (go_at_call 110;refine aqa ?_))
  refine aqb ?_
  refine(fq4 c A cap ifs flds mths b ok _ Rw2.out.bk H2.out HFF.out).mono ?_
  rintro e w3 ⟨rfl,hb⟩
  rw [HBV.out]
  simp only [nqr]
  have Rw3:=Hq (Rw2.out.below hb)
  have Yw3:=Hq (Yw2.out.below hb (Yw2.out.lt))
  clear hb Rw2 Yw2 y4
  cases o7
  case false=>
   go_wp2_with fail
   go_ret
   exact⟨by rw [HX.out];rfl,Rw3.out.bel⟩
  cases nb
  case false=>
   go_wp2_with fail
   go_ret
   exact⟨by rw [HX.out];rfl,Rw3.out.bel⟩
  go_wp2_with (first| (refine wpList_load_row rfl _ _ rfl w.heap.size rfl _ _ _ _ Rw3.out.bx Tryz.underlying58 rfl Kq9 ?_) | (go_at_call 108;refine aqa ?_))
  refine aqb ?_
  refine(C5.out _).mono ?_
  rintro e w4 ⟨rfl,hb⟩
  have Rw4:=Hq (Rw3.out.below hb)
  have Yw4:=Hq (Yw3.out.below hb (Yw3.out.lt))
  clear hb Rw3 Yw3
  go_wp2_with (first| (refine wpList_load_row rfl _ _ rfl w.heap.size rfl _ _ _ _ Rw4.out.bx Tryz.underlying58 rfl Kq9 ?_) | (go_at_call 109;refine aqa ?_))
  refine aqb ?_
  refine(C6.out _).mono ?_
  rintro e w5 ⟨rfl,hb⟩
  have Rw5:=Hq (Rw4.out.below hb)
  have Yw5:=Hq (Yw4.out.below hb (Yw4.out.lt))
  clear hb Rw4 Yw4
  have y0:=Yw5.out.cell 0 rfl
  replace HX:=Hq (HX.out.trans (show _=if(!f2)=true then 22 else if(!mb||q2&& !q3)=true then 21 else 0 by simp))
  cases f2
  case false=>
   go_wp2_with fail
   go_ret
   exact⟨by rw [HX.out];rfl,Rw5.out.bel⟩
  go_wp2_with (first| (refine wpList_load_row rfl _ _ rfl w.heap.size rfl _ _ _ _ Rw5.out.bx Tryz.underlying58 rfl Kq9 ?_) | (go_at_call 111;refine aqa ?_))
  refine aqb ?_
  refine(C7.out _).mono ?_
  rintro e w6 ⟨rfl,hb⟩
  have Rw6:=Hq (Rw5.out.below hb)
  have Yw6:=Hq (Yw5.out.below hb (Yw5.out.lt))
  clear hb Rw5 Yw5
  have y0:=Yw6.out.cell 0 rfl
  cases mb<;>cases q2<;>cases q3
  all_goals
   go_wp2_with fail
   go_ret
   exact⟨by rw [HX.out];rfl,Rw6.out.bel⟩
 ·have HX:=Hq (ER.out Dd9)
  go_enter Tryz.func85,Tryz.ntmps85
  have y3:=Y1.out.cell 3 rfl
  go_wp2_with (first| (refine wpList_load_row rfl _ _ rfl w.heap.size rfl _ _ _ _ R1.out.bx Tryz.underlying58 rfl Kq9 ?_) | (go_at_call 91;refine aqa ?_))
  refine aqb ?_
  refine(fq5 R1.out H1.out).mono ?_
  rintro e w2 ⟨rfl,hb⟩
  simp only [bqc,koV]
  rw [HX7.out,HO7.out]
  replace hb:=hb.alloc hb.size (.cells #[.int .i64 x7.tag, .string x7.text, .int .i64 x7.num, .int .i64 x7.a, .int .i64 x7.b] 78)
  have Rw2:=Hq (R1.out.below hb)
  have Yw2:=Hq (Y1.out.below hb (Y1.out.lt))
  clear hb R1 Y1 y3
  have y4:=Yw2.out.cell 4 rfl
  go_wp2_with (first| (refine wpList_load_row rfl _ _ rfl w.heap.size rfl _ _ _ _ Rw2.out.bx Tryz.underlying58 rfl Kq9 ?_) | (go_at_call 110;refine aqa ?_))
  refine aqb ?_
  refine(fq4 c A cap ifs flds mths b ok _ Rw2.out.bk H2.out HFF.out).mono ?_
  rintro e w3 ⟨rfl,hb⟩
  rw [HBV.out]
  simp only [nqr]
  have Rw3:=Hq (Rw2.out.below hb)
  have Yw3:=Hq (Yw2.out.below hb (Yw2.out.lt))
  clear hb Rw2 Yw2 y4
  cases o7
  case false=>
   go_wp2_with fail
   go_ret
   exact⟨by rw [HX.out];rfl,Rw3.out.bel⟩
  cases nb
  case false=>
   go_wp2_with fail
   go_ret
   exact⟨by rw [HX.out];rfl,Rw3.out.bel⟩
  go_wp2_with (first| (refine wpList_load_row rfl _ _ rfl w.heap.size rfl _ _ _ _ Rw3.out.bx Tryz.underlying58 rfl Kq9 ?_) | (go_at_call 108;refine aqa ?_))
  refine aqb ?_
  refine(C5.out _).mono ?_
  rintro e w4 ⟨rfl,hb⟩
  have Rw4:=Hq (Rw3.out.below hb)
  have Yw4:=Hq (Yw3.out.below hb (Yw3.out.lt))
  clear hb Rw3 Yw3
  go_wp2_with (first| (refine wpList_load_row rfl _ _ rfl w.heap.size rfl _ _ _ _ Rw4.out.bx Tryz.underlying58 rfl Kq9 ?_) | (go_at_call 109;refine aqa ?_))
  refine aqb ?_
  refine(C6.out _).mono ?_
  rintro e w5 ⟨rfl,hb⟩
  have Rw5:=Hq (Rw4.out.below hb)
  have Yw5:=Hq (Yw4.out.below hb (Yw4.out.lt))
  clear hb Rw4 Yw4
  have y0:=Yw5.out.cell 0 rfl
  replace HX:=Hq (HX.out.trans (show _=if(!lb)=true then 22 else if(q1||q2&& !q3)=true then 21 else 0 by simp))
  cases lb
  case false=>
   go_wp2_with fail
   go_ret
   exact⟨by rw [HX.out];rfl,Rw5.out.bel⟩
  go_wp2_with (first| (refine wpList_load_row rfl _ _ rfl w.heap.size rfl _ _ _ _ Rw5.out.bx Tryz.underlying58 rfl Kq9 ?_) | (go_at_call 111;refine aqa ?_))
  refine aqb ?_
  refine(C7.out _).mono ?_
  rintro e w6 ⟨rfl,hb⟩
  have Rw6:=Hq (Rw5.out.below hb)
  have Yw6:=Hq (Yw5.out.below hb (Yw5.out.lt))
  clear hb Rw5 Yw5
  have y0:=Yw6.out.cell 0 rfl
  cases q1<;>cases q2<;>cases q3
  all_goals
   go_wp2_with fail
   go_ret
   exact⟨by rw [HX.out];rfl,Rw6.out.bel⟩
 ·have HX:=Hq (ER.out Dd9)
  go_enter Tryz.func85,Tryz.ntmps85
  have y3:=Y1.out.cell 3 rfl
  go_wp2_with (first| (refine wpList_load_row rfl _ _ rfl w.heap.size rfl _ _ _ _ R1.out.bx Tryz.underlying58 rfl Kq9 ?_) | (go_at_call 91;refine aqa ?_))
  refine aqb ?_
  refine(fq5 R1.out H1.out).mono ?_
  rintro e w2 ⟨rfl,hb⟩
  simp only [bqc,koV]
  rw [HX7.out,HO7.out]
  replace hb:=hb.alloc hb.size (.cells #[.int .i64 x7.tag, .string x7.text, .int .i64 x7.num, .int .i64 x7.a, .int .i64 x7.b] 78)
  have Rw2:=Hq (R1.out.below hb)
  have Yw2:=Hq (Y1.out.below hb (Y1.out.lt))
  clear hb R1 Y1 y3
  have y4:=Yw2.out.cell 4 rfl
  go_wp2_with (first| (refine wpList_load_row rfl _ _ rfl w.heap.size rfl _ _ _ _ Rw2.out.bx Tryz.underlying58 rfl Kq9 ?_) | (go_at_call 110;refine aqa ?_))
  refine aqb ?_
  refine(fq4 c A cap ifs flds mths b ok _ Rw2.out.bk H2.out HFF.out).mono ?_
  rintro e w3 ⟨rfl,hb⟩
  rw [HBV.out]
  simp only [nqr]
  have Rw3:=Hq (Rw2.out.below hb)
  have Yw3:=Hq (Yw2.out.below hb (Yw2.out.lt))
  clear hb Rw2 Yw2 y4
  cases o7
  case false=>
   go_wp2_with fail
   go_ret
   exact⟨by rw [HX.out];rfl,Rw3.out.bel⟩
  cases nb
  case false=>
   go_wp2_with fail
   go_ret
   exact⟨by rw [HX.out];rfl,Rw3.out.bel⟩
  go_wp2_with (first| (refine wpList_load_row rfl _ _ rfl w.heap.size rfl _ _ _ _ Rw3.out.bx Tryz.underlying58 rfl Kq9 ?_) | (go_at_call 108;refine aqa ?_))
  refine aqb ?_
  refine(C5.out _).mono ?_
  rintro e w4 ⟨rfl,hb⟩
  have Rw4:=Hq (Rw3.out.below hb)
  have Yw4:=Hq (Yw3.out.below hb (Yw3.out.lt))
  clear hb Rw3 Yw3
  go_wp2_with (first| (refine wpList_load_row rfl _ _ rfl w.heap.size rfl _ _ _ _ Rw4.out.bx Tryz.underlying58 rfl Kq9 ?_) | (go_at_call 109;refine aqa ?_))
  refine aqb ?_
  refine(C6.out _).mono ?_
  rintro e w5 ⟨rfl,hb⟩
  have Rw5:=Hq (Rw4.out.below hb)
  have Yw5:=Hq (Yw4.out.below hb (Yw4.out.lt))
  clear hb Rw4 Yw4
  have y0:=Yw5.out.cell 0 rfl
  replace HX:=Hq (HX.out.trans (show _=if(!lb)=true then 22 else if(q1||q2)=true then 21 else 0 by simp))
  cases lb
  case false=>
   go_wp2_with fail
   go_ret
   exact⟨by rw [HX.out];rfl,Rw5.out.bel⟩
  go_wp2_with (first| (refine wpList_load_row rfl _ _ rfl w.heap.size rfl _ _ _ _ Rw5.out.bx Tryz.underlying58 rfl Kq9 ?_) | (go_at_call 111;refine aqa ?_))
  refine aqb ?_
  refine(C7.out _).mono ?_
  rintro e w6 ⟨rfl,hb⟩
  have Rw6:=Hq (Rw5.out.below hb)
  have Yw6:=Hq (Yw5.out.below hb (Yw5.out.lt))
  clear hb Rw5 Yw5
  have y0:=Yw6.out.cell 0 rfl
  cases q1<;>cases q2
  all_goals
   go_wp2_with fail
   go_ret
   exact⟨by rw [HX.out];rfl,Rw6.out.bel⟩
 have HX:=Hq (E12.out rfl)
 go_enter Tryz.func85,Tryz.ntmps85
 have y3:=Y1.out.cell 3 rfl
 go_wp2_with (first| (refine wpList_load_row rfl _ _ rfl w.heap.size rfl _ _ _ _ R1.out.bx Tryz.underlying58 rfl Kq9 ?_) | (go_at_call 90;refine aqa ?_))
 refine aqb ?_
 refine(cqV R1.out H1.out).mono ?_
 rintro e w2 ⟨rfl,hb⟩
 simp only [cqh]
 rw [HSA.out,HOA.out]
 have Rw2:=Hq (R1.out.below hb)
 have Yw2:=Hq (Y1.out.below hb (Y1.out.lt))
 clear hb R1 Y1 y3
 have y4:=Yw2.out.cell 4 rfl
 go_wp2_with (first| (refine wpList_load_row rfl _ _ rfl w.heap.size rfl _ _ _ _ Rw2.out.bx Tryz.underlying58 rfl Kq9 ?_) | (go_at_call 90;refine aqa ?_))
 refine aqb ?_
 refine(cqV Rw2.out H2.out).mono ?_
 rintro e w3 ⟨rfl,hb⟩
 simp only [cqh]
 rw [HSB.out,HOB.out]
 have Rw3:=Hq (Rw2.out.below hb)
 have Yw3:=Hq (Yw2.out.below hb (Yw2.out.lt))
 clear hb Rw2 Yw2 y4
 cases oa
 case false=>
  go_wp2_with fail
  go_ret
  exact⟨by rw [HX.out];rfl,Rw3.out.bel⟩
 cases ob
 case false=>
  go_wp2_with fail
  go_ret
  exact⟨by rw [HX.out];rfl,Rw3.out.bel⟩
 go_wp2_with (first| (refine wpList_load_row rfl _ _ rfl w.heap.size rfl _ _ _ _ Rw3.out.bx Tryz.underlying58 rfl Kq9 ?_) | (go_at_call 107;refine aqa ?_))
 refine aqb ?_
 refine(C2.out _).mono ?_
 rintro e w4 ⟨rfl,hb⟩
 have Rw4:=Hq (Rw3.out.below hb)
 have Yw4:=Hq (Yw3.out.below hb (Yw3.out.lt))
 clear hb Rw3 Yw3
 cases m1
 case false=>
  go_wp2_with fail
  go_ret
  exact⟨by rw [HX.out];rfl,Rw4.out.bel⟩
 go_wp2_with (first| (refine wpList_load_row rfl _ _ rfl w.heap.size rfl _ _ _ _ Rw4.out.bx Tryz.underlying58 rfl Kq9 ?_) | (go_at_call 108;refine aqa ?_))
 refine aqb ?_
 refine(C3.out _).mono ?_
 rintro e w5 ⟨rfl,hb⟩
 have Rw5:=Hq (Rw4.out.below hb)
 have Yw5:=Hq (Yw4.out.below hb (Yw4.out.lt))
 clear hb Rw4 Yw4
 go_wp2_with (first| (refine wpList_load_row rfl _ _ rfl w.heap.size rfl _ _ _ _ Rw5.out.bx Tryz.underlying58 rfl Kq9 ?_) | (go_at_call 109;refine aqa ?_))
 refine aqb ?_
 refine(C4.out _).mono ?_
 rintro e w6 ⟨rfl,hb⟩
 have Rw6:=Hq (Rw5.out.below hb)
 have Yw6:=Hq (Yw5.out.below hb (Yw5.out.lt))
 clear hb Rw5 Yw5
 cases f1<;>cases kb
 all_goals
  go_wp2_with fail
  go_ret
  exact⟨by rw [HX.out];rfl,Rw6.out.bel⟩
theorem fqo (a f:Int) (w:World):Calls Tryz.prog 112 #[.int .i64 a, .int .i64 f] w fun e w'=>e= .returned (.bool (aqJ a f))∧w=w':=by
 go_enter Tryz.func112,Tryz.ntmps112
 go_wp2_with fail
 go_ret
 exact⟨rfl,rfl⟩
theorem gqH (a:Int) (w:World):Calls Tryz.prog 113 #[.int .i64 a] w fun e w'=>e= .returned (.int .i64 (dqI a))∧w=w':=by
 obtain⟨b1,h1⟩: ∃b,(bits .and .i64 a 1 !=0)=b:=⟨_,rfl⟩
 obtain⟨b2,h2⟩: ∃b,(bits .and .i64 a 2 !=0)=b:=⟨_,rfl⟩
 obtain⟨b3,h3⟩: ∃b,(bits .and .i64 a 4 !=0)=b:=⟨_,rfl⟩
 have HE:=Hq (show dqI a=(if b1=true then 1 else 0)+(if b2=true then 1 else 0)+(if b3=true then 1 else 0) by unfold dqI lqB aqJ;rw [h1,h2,h3])
 cases b1<;>cases b2<;>cases b3
 all_goals
  go_enter Tryz.func113,Tryz.ntmps113
  go_wp2_with fail
  refine wp_loop_rounds 4 ?_
  rw [rounds_succ]
  go_wp2_with fail
  rw [rounds_succ]
  go_wp2_with fail
  rw [rounds_succ]
  go_wp2_with fail
  rw [rounds_succ]
  go_wp2_with fail
  go_ret
  exact⟨by rw [HE.out];rfl,rfl⟩
theorem fq6 (a f:Int):aqJ a f=(BitVec.ofInt 64 a&&&BitVec.ofInt 64 f !=0#64):=by
 unfold aqJ
 show(IntKind.i64.wrap ((BitVec.ofInt 64 a&&&BitVec.ofInt 64 f).toNat:Int) !=0)=_
 generalize BitVec.ofInt 64 a&&&BitVec.ofInt 64 f=x
 have hx:=x.isLt
 rw [IntKind.wrap_i64]
 by_cases h:x=0#64
 ·subst h;simp
 have h0:x.toNat≠0:=fun e=>h (BitVec.eq_of_toNat_eq e)
 have h1:(x !=0#64)=true:=by simpa using h
 rw [h1,bne_iff_ne]
 omega
theorem oqu (a f g k:Int) (h:BitVec.ofInt 64 k=BitVec.ofInt 64 f|||BitVec.ofInt 64 g):aqJ a k=(aqJ a f||aqJ a g):=by
 rw [fq6,fq6,fq6,h,BitVec.and_or_distrib_left]
 generalize BitVec.ofInt 64 a&&&BitVec.ofInt 64 f=x
 generalize BitVec.ofInt 64 a&&&BitVec.ofInt 64 g=y
 by_cases hx:x=0#64
 ·subst hx
  simp
 have h1:x|||y≠0#64:=fun e=>hx (BitVec.or_eq_zero_iff.1 e).1
 rw [show(x|||y !=0#64)=true by simpa using h1,show(x !=0#64)=true by simpa using hx]
 rfl
theorem lq3 (a:Int):aqJ a 1032=(aqJ a 8||aqJ a 1024):=oqu a 8 1024 1032 Dd9
theorem kqE (c:aqc) (p i f m:Value) (ok:Nat→Prop) (w:World) (h:aqy w ok c p i f m) (hl:1024<c.pool.length∨64<c.ifs.length∨64<c.flds.length∨64<c.mths.length):
  Calls Tryz.prog 84 #[bqb c p i f m] w fun e w'=>e= .returned (.bool true)∧Below w.heap.size w w':=by
 obtain⟨A1,k1,rfl,q1,z1⟩:=aqd h.hpool
 obtain⟨A2,k2,rfl,q2,z2⟩:=aqd h.hifs
 obtain⟨A3,k3,rfl,q3,z3⟩:=aqd h.hflds
 obtain⟨_,_,h4,_⟩:=h.hmths
 obtain⟨A4,k4,rfl,q4,z4⟩:=aqd h4
 clear h h4
 have HW:=Hq ((Below.refl w.heap.size w).alloc Nr (.cells #[.int .i64 c.minor, .int .i64 c.major, .slice A1 c.pool.length k1, .int .i64 c.acc, .int .i64 c.this, .int .i64 c.sup, .slice A2 c.ifs.length k2, .slice A3 c.flds.length k3, .slice A4 c.mths.length k4] 58))
 rw [aqe]
 generalize c.pool.length=n1 at*
 generalize c.ifs.length=n2 at*
 generalize c.flds.length=n3 at*
 generalize c.mths.length=n4 at*
 by_cases h1:1024<n1
 ·clear hl
  go_enter Tryz.func84,Tryz.ntmps84
  go_wp2
  go_ret
  exact⟨rfl,HW.out⟩
 by_cases h2:64<n2
 ·clear hl
  go_enter Tryz.func84,Tryz.ntmps84
  go_wp2
  go_ret
  exact⟨rfl,HW.out⟩
 by_cases h3:64<n3
 ·clear hl
  go_enter Tryz.func84,Tryz.ntmps84
  go_wp2
  go_ret
  exact⟨rfl,HW.out⟩
 have h4:64<n4:=by omega
 clear hl
 go_enter Tryz.func84,Tryz.ntmps84
 go_wp2
 go_ret
 exact⟨rfl,HW.out⟩
theorem iq9 (c:aqc) (p i f m:Value) (ok:Nat→Prop) (w:World) (h:aqy w ok c p i f m) (hl1:c.pool.length≤1024) (hl2:c.ifs.length≤64) (hl3:c.flds.length≤64) (hl4:c.mths.length≤64):
  Calls Tryz.prog 84 #[bqb c p i f m] w fun e w'=>e= .returned (.bool (c.mths.any cqz))∧Below w.heap.size w w':=by
 obtain⟨A1,k1,rfl,q1,z1⟩:=aqd h.hpool
 obtain⟨A2,k2,rfl,q2,z2⟩:=aqd h.hifs
 obtain⟨A3,k3,rfl,q3,z3⟩:=aqd h.hflds
 obtain⟨ms,hms,h4,h5⟩:=h.hmths
 obtain⟨A4,k4,rfl,q4,z4⟩:=aqd h4
 have g1: ¬1024<c.pool.length:=by omega
 have g2: ¬64<c.ifs.length:=by omega
 have g3: ¬64<c.flds.length:=by omega
 have g4: ¬64<c.mths.length:=by omega
 have H4:=Hq h4
 have H5:=Hq h5
 have HMS:=Hq hms
 have HW:=Hq ((Below.refl w.heap.size w).alloc Nr (.cells #[.int .i64 c.minor, .int .i64 c.major, .slice A1 c.pool.length k1, .int .i64 c.acc, .int .i64 c.this, .int .i64 c.sup, .slice A2 c.ifs.length k2, .slice A3 c.flds.length k3, .slice A4 c.mths.length k4] 58))
 have X0:=Hq (aql w [.int .i64 c.minor, .int .i64 c.major, .slice A1 c.pool.length k1, .int .i64 c.acc, .int .i64 c.this, .int .i64 c.sup, .slice A2 c.ifs.length k2, .slice A3 c.flds.length k3, .slice A4 c.mths.length k4] 58)
 clear h h4 h5 hms
 rw [aqe]
 go_enter Tryz.func84,Tryz.ntmps84
 go_wp2_with fail
 go_loopw [3] (fun i wr=> ∃k:Nat,k≤c.mths.length∧i= .int .i64 k∧Hid (Below w.heap.size w wr)∧Hid (Bx wr w.heap.size [.int .i64 c.minor, .int .i64 c.major, .slice A1 c.pool.length k1, .int .i64 c.acc, .int .i64 c.this, .int .i64 c.sup, .slice A2 c.ifs.length k2, .slice A3 c.flds.length k3, .slice A4 c.mths.length k4] 58)∧Hid (c.mths.any cqz=(c.mths.drop k).any cqz)) (fun i _=>c.mths.length - (RowKit.intOf i).toNat)
 case atStart=>exact⟨0,by omega,rfl,HW,X0,Hq (by rw [List.drop_zero])⟩
 case round=>
  obtain⟨k,hk,rfl,HBr,HXr,HEr⟩:=hrel
  have x8:=HXr.out.cell 8 rfl
  by_cases hlt:k<c.mths.length
  ·have hmsl:ms.length=c.mths.length:=by rw [←HMS.out,List.length_map]
   obtain⟨q,hq⟩: ∃q,ms[k]?=some q:=⟨_,List.getElem?_eq_getElem Om⟩
   obtain⟨mv,code,traps⟩:=q
   have hcm:c.mths[k]?=some mv:=by rw [←HMS.out,List.getElem?_map,hq];rfl
   have hM:aqO w ok mv code traps:=H5.out _ (List.mem_of_getElem? hq)
   obtain⟨Ac,kc,rfl,_,zc⟩:=aqd hM.hcode
   obtain⟨At,kt,rfl,_,zt⟩:=aqd hM.htraps
   obtain⟨A',cap',ev,_,_,_,h6⟩:=H4.out.keep (aqC.of_below HBr.out)
   cases ev
   obtain⟨b,off,rfl,hbl,_,hc⟩:=h6 Om
   have hr:=cqL (fun m:aqr×Value×Value=>m.1.cells m.2.1 m.2.2) 8 (fun _=>rfl) ms k _ hq
   have m0:=hc _ _ ((hr 0 Om).trans rfl)
   have m1:=hc _ _ ((hr 1 Om).trans rfl)
   have m2:=hc _ _ ((hr 2 Om).trans rfl)
   have m3:=hc _ _ ((hr 3 Om).trans rfl)
   have m4:=hc _ _ ((hr 4 Om).trans rfl)
   have m5:=hc _ _ ((hr 5 Om).trans rfl)
   have m6:=hc _ _ ((hr 6 Om).trans rfl)
   have m7:=hc _ _ ((hr 7 Om).trans rfl)
   simp only [Nat.add_zero] at m0
   rw [←Nat.add_assoc] at m1 m2 m3 m4 m5 m6 m7
   have HDR:=Hq (show c.mths.drop k=mv::c.mths.drop (k+1) by
    rw [List.drop_eq_getElem_cons hlt]
    congr 1
    rw [List.getElem?_eq_getElem hlt] at hcm
    injection hcm)
   clear hq hcm hM hc hr h6 hmsl
   by_cases t1:64<mv.traps.length
   ·have HR:=Hq (show c.mths.any cqz=true by rw [HEr.out,HDR.out,List.any_cons];simp [cqz,t1])
    have q1:(64:Int) <mv.traps.length:=by omega
    go_wp2_with fail
    go_ret
    exact⟨by rw [HR.out];rfl,HBr.out⟩
   by_cases t2:4096<mv.code.length
   ·have HR:=Hq (show c.mths.any cqz=true by rw [HEr.out,HDR.out,List.any_cons];simp [cqz,t2])
    have q1: ¬(64:Int) <mv.traps.length:=by omega
    have q2:(4096:Int) <mv.code.length:=by omega
    go_wp2_with fail
    go_ret
    exact⟨by rw [HR.out];rfl,HBr.out⟩
   have HE2:=Hq (show c.mths.any cqz=(c.mths.drop (k+1)).any cqz by rw [HEr.out,HDR.out,List.any_cons];simp [cqz,t1,t2])
   go_wp2_with fail
   go_roundw
   case rel=>exact⟨k+1,by omega,by go_num,HBr,HXr,HE2⟩
   case measure=>simp [RowKit.intOf];omega
  have HR:=Hq (show c.mths.any cqz=false by rw [HEr.out,List.drop_of_length_le Om];rfl)
  go_wp2_with fail
  go_ret
  exact⟨by rw [HR.out];rfl,HBr.out⟩
theorem lq4 (c:aqc) (p i f m:Value) (ok:Nat→Prop) (w:World) (h:aqy w ok c p i f m):
  Calls Tryz.prog 84 #[bqb c p i f m] w fun e w'=>e= .returned (.bool (eqE c))∧Below w.heap.size w w':=by
 by_cases hl:1024<c.pool.length∨64<c.ifs.length∨64<c.flds.length∨64<c.mths.length
 ·have hc:eqE c=true:=by
   unfold eqE
   rcases hl with h1|h1|h1|h1<;>simp [h1]
  rw [hc]
  exact kqE c p i f m ok w h hl
 have h1: ¬1024<c.pool.length:=by omega
 have h2: ¬64<c.ifs.length:=by omega
 have h3: ¬64<c.flds.length:=by omega
 have h4: ¬64<c.mths.length:=by omega
 have hc:eqE c=c.mths.any cqz:=by
  unfold eqE
  rw [decide_eq_false h1,decide_eq_false h2,decide_eq_false h3,decide_eq_false h4]
  simp
 rw [hc]
 exact iq9 c p i f m ok w h Om Om Om Om
variable {c:aqc}
theorem kqF (p i f m:Value) (acc:Int) (nm:ByteArray) (w:World):
  Calls Tryz.prog 114 #[bqb c p i f m, .int .i64 acc, .string nm] w fun e w'=>e= .returned (.bool (!cqE c.acc acc nm.data.toList))∧Below w.heap.size w w':=by
 have HW:=Hq ((Below.refl w.heap.size w).alloc Nr (.cells #[.int .i64 c.minor, .int .i64 c.major,p, .int .i64 c.acc, .int .i64 c.this, .int .i64 c.sup,i,f,m] 58))
 obtain⟨R,hR⟩: ∃R,cqE c.acc acc nm.data.toList=R:=⟨_,rfl⟩
 have HH:=Hq (fun(a f:Int) W=>fqo a f W)
 have HV:=Hq (fun W=>gqH acc W)
 obtain⟨n,hn⟩: ∃n,dqI acc=n:=⟨_,rfl⟩
 obtain⟨v,hv⟩: ∃v,decide ((n:Int) >1)=v:=⟨_,rfl⟩
 obtain⟨face,h512⟩: ∃v,aqJ c.acc 512=v:=⟨_,rfl⟩
 obtain⟨st,h8⟩: ∃v,aqJ acc 8=v:=⟨_,rfl⟩
 obtain⟨ab,h1024⟩: ∃v,aqJ acc 1024=v:=⟨_,rfl⟩
 obtain⟨nat,h256⟩: ∃v,aqJ acc 256=v:=⟨_,rfl⟩
 obtain⟨b26,h26⟩: ∃v,(bits .and .i64 acc 26 !=0)=v:=⟨_,rfl⟩
 obtain⟨b3,h3⟩: ∃v,(bits .and .i64 acc 3==0)=v:=⟨_,rfl⟩
 obtain⟨b16,h16⟩: ∃v,(bits .and .i64 acc 16 !=0)=v:=⟨_,rfl⟩
 obtain⟨ini,e1⟩: ∃b,(nm.toList== [60,105,110,105,116,62])=b:=⟨_,rfl⟩
 obtain⟨cl,e2⟩: ∃b,(nm.toList== [60,99,108,105,110,105,116,62])=b:=⟨_,rfl⟩
 have hnb:ini=true→cl=false:=by
  rintro rfl
  rw [beq_iff_eq] at e1
  rw [←e2,e1]
  rfl
 have h:=hR
 unfold cqE at h
 rw [hn,h256,h1024,show aqJ acc 26=b26 from h26,h512,show aqJ acc 3= !b3 by rw [←h3];rfl,show aqJ acc 16=b16 from h16,lq3,h8,h1024, ←ByteArray.toList_eq,show(nm.toList==dqN)=ini from e1,show(nm.toList==bqG)=cl from e2] at h
 have hv1:(1<n)=(v=true):=by rw [←hv];simp;omega
 simp only [hv1] at h
 rw [hR]
 rw [hn] at HV
 have HF:=Hq h
 have HNB:=Hq hnb
 clear hn hR h hnb hv1
 rw [aqe]
 cases nat
 case true=>
  go_enter Tryz.func114,Tryz.ntmps114
  go_wp2_with (first
   | (go_at_call 112;(with_reducible refine(HH.out _ _ _).mono ?_);rintro e w1 ⟨rfl,rfl⟩)
   | (go_at_call 113;(with_reducible refine(HV.out _).mono ?_);rintro e w1 ⟨rfl,rfl⟩))
  go_ret
  exact⟨by rw [←HF.out];rfl,HW.out⟩
 cases v
 case true=>
  go_enter Tryz.func114,Tryz.ntmps114
  go_wp2_with (first
   | (go_at_call 112;(with_reducible refine(HH.out _ _ _).mono ?_);rintro e w1 ⟨rfl,rfl⟩)
   | (go_at_call 113;(with_reducible refine(HV.out _).mono ?_);rintro e w1 ⟨rfl,rfl⟩))
  go_ret
  exact⟨by rw [←HF.out];rfl,HW.out⟩
 cases ab<;>cases b26
 case true.true=>
  go_enter Tryz.func114,Tryz.ntmps114
  go_wp2_with (first
   | (go_at_call 112;(with_reducible refine(HH.out _ _ _).mono ?_);rintro e w1 ⟨rfl,rfl⟩)
   | (go_at_call 113;(with_reducible refine(HV.out _).mono ?_);rintro e w1 ⟨rfl,rfl⟩))
  go_ret
  exact⟨by rw [←HF.out];rfl,HW.out⟩
 all_goals
  cases face
  case' true=>
   cases b3
   case true=>
    go_enter Tryz.func114,Tryz.ntmps114
    go_wp2_with (first
     | (go_at_call 112;(with_reducible refine(HH.out _ _ _).mono ?_);rintro e w1 ⟨rfl,rfl⟩)
     | (go_at_call 113;(with_reducible refine(HV.out _).mono ?_);rintro e w1 ⟨rfl,rfl⟩))
    go_ret
    exact⟨by rw [←HF.out];rfl,HW.out⟩
   cases b16
   case true=>
    go_enter Tryz.func114,Tryz.ntmps114
    go_wp2_with (first
     | (go_at_call 112;(with_reducible refine(HH.out _ _ _).mono ?_);rintro e w1 ⟨rfl,rfl⟩)
     | (go_at_call 113;(with_reducible refine(HV.out _).mono ?_);rintro e w1 ⟨rfl,rfl⟩))
    go_ret
    exact⟨by rw [←HF.out];rfl,HW.out⟩
  all_goals
   cases ini
   case true=>
    obtain rfl:=HNB.out rfl
    cases st
    all_goals
     go_enter Tryz.func114,Tryz.ntmps114
     go_wp2_with (first
      | (go_at_call 112;(with_reducible refine(HH.out _ _ _).mono ?_);rintro e w1 ⟨rfl,rfl⟩)
      | (go_at_call 113;(with_reducible refine(HV.out _).mono ?_);rintro e w1 ⟨rfl,rfl⟩))
     go_ret
     exact⟨by rw [←HF.out];rfl,HW.out⟩
   cases cl
   case false=>
    go_enter Tryz.func114,Tryz.ntmps114
    go_wp2_with (first
     | (go_at_call 112;(with_reducible refine(HH.out _ _ _).mono ?_);rintro e w1 ⟨rfl,rfl⟩)
     | (go_at_call 113;(with_reducible refine(HV.out _).mono ?_);rintro e w1 ⟨rfl,rfl⟩))
    go_ret
    exact⟨by rw [←HF.out];rfl,HW.out⟩
   cases st
   all_goals
    go_enter Tryz.func114,Tryz.ntmps114
    go_wp2_with (first
     | (go_at_call 112;(with_reducible refine(HH.out _ _ _).mono ?_);rintro e w1 ⟨rfl,rfl⟩)
     | (go_at_call 113;(with_reducible refine(HV.out _).mono ?_);rintro e w1 ⟨rfl,rfl⟩))
    go_ret
    exact⟨by rw [←HF.out];rfl,HW.out⟩
end Go.Proofs.YtdbniocnjhfhdaaGreatDoor
