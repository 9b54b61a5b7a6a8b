/- Part 25 of what the laws rest on: walks. Conditions: those that each theorem names. -/
import Derived.Test.YtdbniocnjhfhdaaGreatDoorB24
set_option linter.unusedSimpArgs false
set_option linter.unusedVariables false
set_option maxRecDepth 100000
set_option maxHeartbeats 2000000
namespace Go.Proofs.YtdbniocnjhfhdaaGreatDoor
open Go Go.RowKit Lib
def lqV (l:List UInt8) (m:aqr) (at':Nat) (st:Rs):Rx aqr:=
 Rx.bind (aqS l 2 st) fun sk s1=>Rx.bind (aqS l 2 s1) fun lo s2=>Rx.bind (aqS l 4 s2) fun n s3=>
  if 4096<n then .error (s2.pos,2)
  else Rx.bind (aqP l n s3) fun b s4=>Rx.bind (bqo l 64 s4) fun k s5=>Rx.bind (bqO (dqa l) k s5) fun ts s6=>Rx.bind (eqj l s6) fun _ s7=>
   if s7.pos≠s7.most then .error (at',25) else .ok ({ m with has:=true,stack:=sk,locals:=lo,code:=b,traps:=ts },{ s7 with most:=4611686018427387904 })
def oqP (l:List UInt8) (m:aqr) (sk lo:Nat) (b:List UInt8) (ts:List bqK) (s:Rs):Ro aqr:=(eqj l s).o.go fun _ s7=>if s7.pos≠s7.most then none else some ({ m with has:=true,stack:=sk,locals:=lo,code:=b,traps:=ts },{ s7 with most:=4611686018427387904 })
def nqj (l:List UInt8) (m:aqr) (sk lo:Nat) (b:List UInt8) (s:Rs):Ro aqr:=(bqo l 64 s).o.go fun k s5=> (bqO (dqa l) k s5).o.go (oqP l m sk lo b)
theorem oql (l:List UInt8) (m:aqr) (at':Nat) (st:Rs):(lqV l m at' st).o=(aqS l 2 st).o.go fun sk s1=> (aqS l 2 s1).o.go fun lo s2=> (aqS l 4 s2).o.go fun n s3=>if 4096<n then none else(aqP l n s3).o.go (nqj l m sk lo):=by
 unfold lqV nqj oqP
 simp only [cqx,iq5]
 rfl
theorem Is3.up {α:Type} {F:Rs→Rx α} {x x':Rz} {a:α} {P:Prop} (h:Is3 F x a x') (k: ∀s,x=some s→P): ∀s,x'=some s→P:=by
 rintro s rfl
 obtain⟨s0,h,_⟩:=h.live
 exact k s0 h
theorem oqm (l:List UInt8) (st:Rs):(dqa l st).o=(aqS l 2 st).o.go fun a s1=> (aqS l 2 s1).o.go fun b s2=> (aqS l 2 s2).o.go fun c s3=> (aqS l 2 s3).o.go fun d s4=>some (⟨a,b,c,d⟩,s4):=by
 unfold dqa
 simp only [cqx]
 rfl
def iq7 (at' long:Nat) (s:Rs):Rs:={ s with most:=s.pos+long,named:=at' }
def kqu (l:List UInt8) (m:aqr) (at':Nat) (st:Rs):Rx aqr:=Rx.bind (aqS l 4 st) fun long s=>lqV l m at' (iq7 at' long s)
theorem lqW (l:List UInt8) (m:aqr) (at':Nat) (st:Rs):(kqu l m at' st).o=(aqS l 4 st).o.go fun long s=> (lqV l m at' (iq7 at' long s)).o:=cqx _ _
theorem At3.mark {W:World} {R:Nat} {A:Option Addr} {cap:Nat} {l:List UInt8} {pool:List Ko} {x:Rz} {p:Nat} (h:At3 W R A cap l pool x) (d1:W.cell? ⟨R,1,none⟩=some (.int .i64 p)) (at' long:Nat) (hl:long<4294967296):
  At3 ((W.setCell ⟨R,4,none⟩ (.int .i64 ((p:Int)+long))).setCell ⟨R,5,none⟩ (.int .i64 at')) R A cap l pool (x.map (iq7 at' long)):=by
 obtain⟨p',most,nm,e,bad,hr,hp,hs⟩:=h
 obtain rfl:p'=p:=by have:=hs.c1.symm.trans d1;simp at this;omega
 have h1:=hs.pos
 have h2:=hs.len
 have T:=(hs.s4 (p'+long) Om Om).s5 at'
 rw [Int.natCast_add] at T
 refine⟨p',p'+long,at',e,bad, ?_, ?_,T⟩
 ·cases x with
  |none=>exact hr
  |some s=>exact⟨hr.1,by show s.pos+long=_;rw [hr.1],rfl,hr.2.2.2⟩
 cases x with
 |none=>exact nofun
 |some s=>intro s' e;injection e with e;subst e;exact hp s rfl
theorem nqV {α:Type} (x:Rz) (f:Rs→Rs) (k:Rs→Ro α):(Rz.go (x.map f) k)=x.go fun s=>k (f s):=by cases x<;>rfl
theorem At3.long {W:World} {R:Nat} {A:Option Addr} {cap:Nat} {l:List UInt8} {pool:List Ko} {x:Rz} (h:At3 W R A cap l pool x):At3 (W.setCell ⟨R,4,none⟩ (.int .i64 4611686018427387904)) R A cap l pool (x.map fun s=> { s with most:=4611686018427387904 }):=by
 obtain⟨p',most,nm,e,bad,hr,hp,hs⟩:=h
 have h1:=hs.pos
 have h2:=hs.len
 refine⟨p',4611686018427387904,nm,e,bad, ?_, ?_,hs.s4 4611686018427387904 Om Om⟩
 ·cases x with
  |none=>exact hr
  |some s=>exact⟨hr.1,rfl,hr.2.2.1,hr.2.2.2⟩
 cases x with
 |none=>exact nofun
 |some s=>intro s' e;injection e with e;subst e;exact hp s rfl
structure Mu (R M base:Nat) (w w':World):Prop where
 but:But base [R,M] w w'
 cl: ∀j,6≤j→w'.cell? ⟨R,j,none⟩=w.cell? ⟨R,j,none⟩
theorem Mu.refl (R M base:Nat) (w:World):Mu R M base w w:=⟨But.refl _ _ _,fun _ _=>rfl⟩
theorem Mu.trans {R M base:Nat} {a b c:World} (h:Mu R M base a b) (k:Mu R M base b c):Mu R M base a c:=⟨h.but.trans k.but,fun j hj=> (k.cl j hj).trans (h.cl j hj)⟩
theorem Mu.mv {R M base:Nat} {a b c:World} (h:Mu R M base a b) (k:Mv R b c) (hb:base≤a.heap.size):Mu R M base a c:=
 h.trans ⟨k.1.mono (Nat.le_trans hb h.but.size) fun g _ h=>by simp at h;simp [h],k.2⟩
theorem Mu.m {R M base:Nat} {a b:World} (h:Mu R M base a b) (o:Nat) (v:Value) (hRM:R≠M):Mu R M base a (b.setCell ⟨M,o,none⟩ v):=
 ⟨h.but.set ⟨M,o,none⟩ (.inl Sp) v,fun j hj=> (World.cell?_setCell_other _ _ _ _ (by intro e;injection e;omega)).trans (h.cl j hj)⟩
theorem Mu.r {R M base:Nat} {a b:World} (h:Mu R M base a b) (o:Nat) (v:Value) (ho:o<6):Mu R M base a (b.setCell ⟨R,o,none⟩ v):=
 ⟨h.but.set ⟨R,o,none⟩ (.inl Sp) v,fun j hj=> (World.cell?_setCell_other _ _ _ _ (by intro e;injection e;omega)).trans (h.cl j hj)⟩
theorem Mu.low {R M base:Nat} {a b c:World} (h:Mu R M base a b) (hR:R<base) (k:Below base b c):Mu R M base a c:=h.trans ⟨But.of_below k,fun o _=>k.cell (p:=⟨R,o,none⟩) hR⟩
theorem Mu.less {R M base b2:Nat} {a b:World} (h:Mu R M base a b) (hb:b2≤base):Mu R M b2 a b:=⟨h.but.mono hb fun _ _ h=>h,h.cl⟩
theorem Pl3.mu {W W':World} {R M base lo:Nat} {pool:List Ko} (h:Pl3 W R lo pool) (m:Mu R M base W W') (hb:lo≤base) (hM:lo≤M):Pl3 W' R lo pool:=by
 obtain⟨pv,h1,h2⟩:=h
 exact⟨pv,(m.cl 8 Om).trans h1,h2.keep ⟨m.but.size,fun g hg hk o=>m.but.cell (p:=⟨g,o,none⟩) (Nat.lt_of_lt_of_le hk.1 hb) (by have:=hk.1;have:=hk.2;simp;omega)⟩⟩
theorem kqv:(Tryz.prog.info? 157).map (fun i=> (i.zero,i.size,i.bytes))=some (some (.agg #[.int .i64 0, .int .i64 0, .int .i64 0, .int .i64 0]),4,32):=by kernel_rfl
theorem hqU (R M lo p:Nat) (A:Option Addr) (cap:Nat) (l:List UInt8) (pool:List Ko) (x:Rz) (mv:aqr) (cv0 tv0:Value) (w:World) (h:At3 w R A cap l pool x) (hpl:Pl3 w R lo pool) (hRM:R<M) (hlo:lo≤M) (hM:Bx w M (mv.cells cv0 tv0) 91) (hmt:aqO w (fun g=>M<g) mv cv0 tv0) (hx: ∀s,x=some s→tv0= .slice none 0 0):
  Calls Tryz.prog 106 #[.pointer (some ⟨R,0,none⟩), .pointer (some ⟨M,0,none⟩), .int .i64 p] w fun e w'=> ∃mv' cv tv x',e= .returned (.tuple #[])∧Is3 (kqu l mv p) x mv' x'∧At3 w' R A cap l pool x'∧Bx w' M (mv'.cells cv tv) 91∧mv'.has=true∧aqO w' (fun g=>M<g) mv' cv tv∧Mu R M w.heap.size w w':=by
 have H:=Hq h
 have HPL:=Hq hpl
 have HX:=Hq hM
 have HMT:=Hq hmt
 have HLV:=Hq hx
 have hlt0:=h.lt
 have hMlt:=hM.lt
 have hMR: ¬M=R:=by omega
 clear h hpl hM hmt hx
 go_enter Tryz.func106,Tryz.ntmps106
 go_upto_region 1 with(go_at_call 77;refine(aqu R A cap 4 l pool x _ H.out Om).mono ?_;rintro e1 w1 ⟨a1,x1,v1,rfl,⟨rfl,ha1⟩,hi,hm,hs⟩;have HI1:=Hq hi;have HM1:=Hq hm;have HS1:=Hq hs;clear hi hm hs)
 obtain⟨p1,d1,_,_⟩:=HS1.out.c1
 have fz1:=HS1.out.fz
 obtain⟨_,_,_,_,_,_,_,hs1⟩:=id HS1.out
 have b4:=hs1.c4
 have b5:=hs1.c5
 clear hs1
 have X1:=HM1.out.bx HX.out hMR
 have b3:=X1.cell 3 rfl
 have z3:=X1.frozen 3
 go_upto_region 4 with fail
 obtain⟨W,hW⟩: ∃W,W=(((w1.setCell ⟨R,4,none⟩ (.int .i64 ((p1:Int)+a1))).setCell ⟨R,5,none⟩ (.int .i64 p)).setCell ⟨M,3,none⟩ (.bool true)):=⟨_,rfl⟩
 rw [←hW]
 have HS:=Hq (show At3 W R A cap l pool (x1.map (iq7 p a1)) by rw [hW];exact(HS1.out.mark d1 p a1 ha1).far _ _ (.inl hRM))
 have XW:=Hq (show Bx W M (aqr.cells { mv with has:=true } cv0 tv0) 91 by rw [hW];exact((X1.set_other _ _ Sd).set_other _ _ Sd).set 3 _)
 have HMu:=Hq (show Mu R M w.heap.size w W by rw [hW];exact((((Mu.refl R M w.heap.size w).mv HM1.out Nr).r 4 _ Om).r 5 _ Om).m 3 _ Om)
 have HE0:=Hq (show(x.go fun s=> (kqu l mv p s).o)=_ by simp only [lqW];exact(HI1.out.step _).trans ((nqV x1 (iq7 p a1) fun s=> (lqV l mv p s).o).symm.trans (congrArg _ (funext fun s=>oql ..))))
 have HLV1:=Hq (show∀s,Option.map (iq7 p a1) x1=some s→tv0= .slice none 0 0 by
  intro s e
  cases x1 with
  |none=>cases e
  |some s1=>obtain⟨s,h,_⟩:=HI1.out.live;exact HLV.out s h)
 generalize hxx:Option.map (iq7 p a1) x1=xx at HS HE0 HLV1
 clear hW hxx X1 b3 z3 b4 b5 d1 fz1 HS1 HI1 HM1 HX H
 go_upto_region 8 with(first
  | (go_at_call 77;refine(aqu R A cap 4 l pool x3 _ HS3.out Om).mono ?_;rintro e4 w4 ⟨a4,x4,v4,rfl,⟨rfl,ha4⟩,hi,hm,hs⟩;have HI4:=Hq hi;have HM4:=Hq hm;have HS4:=Hq hs;clear hi hm hs)
  | (go_at_call 77;refine(aqu R A cap 2 l pool x2 _ HS2.out Om).mono ?_;rintro e3 w3 ⟨a3,x3,v3,rfl,⟨rfl,ha3⟩,hi,hm,hs⟩;have HI3:=Hq hi;have HM3:=Hq hm;have HS3:=Hq (hs.far ⟨M,5,none⟩ (.int .i64 a3) (.inl hRM));have XP:=X2.out;have X:=hm.bx XP hMR;have zz:=fun o=>X.frozen o;have yy:=X.cell 5 rfl;have X3:=Hq (X.set 5 (.int .i64 a3));clear X;obtain⟨p3,dd1,_⟩:=hs.c1;have ff:=hs.fz;clear hi hm hs)
  | (go_at_call 77;refine(aqu R A cap 2 l pool xx _ HS.out Om).mono ?_;rintro e2 w2 ⟨a2,x2,v2,rfl,⟨rfl,ha2⟩,hi,hm,hs⟩;have HI2:=Hq hi;have HM2:=Hq hm;have HS2:=Hq (hs.far ⟨M,4,none⟩ (.int .i64 a2) (.inl hRM));have XP:=XW.out;have X:=hm.bx XP hMR;have zz:=fun o=>X.frozen o;have yy:=X.cell 4 rfl;have X2:=Hq (X.set 4 (.int .i64 a2));clear X;clear hi hm hs))
 have HE4:=Hq (((HE0.out.trans (HI2.out.step _)).trans (HI3.out.step _)).trans (HI4.out.step _))
 have HL4:=Hq (HI4.out.up (HI3.out.up (HI2.out.up HLV1.out)))
 have X4:=Hq (HM4.out.bx X3.out hMR)
 have HMu4:=Hq ((((HMu.out.mv HM2.out Nr).m 4 (.int .i64 a2) Om).mv HM3.out Nr).m 5 (.int .i64 a3) Om |>.mv HM4.out Nr)
 clear HE0 HI2 HI3 HI4 HM2 HM3 HM4 HS2 HS3 X2 X3 HMu HS XW HLV1
 go_upto_if 46 with fail
 go_cut [] (fun wc=>Hid (∃x',((x.go fun s=> (kqu l mv p s).o)=x'.go fun s=> (aqP l a4 s).o.go (nqj l mv a2 a3))∧At3 wc R A cap l pool x'∧(∀s,x'=some s→tv0= .slice none 0 0)∧Mv R w4 wc))
 case first=>
  by_cases h4:4096<a4
  ·have ht:decide ((4096:Int) <a4)=true:=by simp;omega
   have HE5:=Hq (HE4.out.trans (show _=none by simp only [if_pos h4];exact gq1 _))
   go_wp2_with (go_at_call 78;refine(aq4 R A cap p3 2 l pool x4 _ HS4.out Om).mono ?_;rintro e5 w5 ⟨rfl,hm,hs⟩;have HM5:=Hq hm;have HS5:=Hq hs;clear hm hs)
   go_meet
   exact Hq ⟨none,HE5.out,HS5.out,nofun,HM5.out⟩
  have ht:decide ((4096:Int) <a4)=false:=by simp;omega
  have HE5:=Hq (HE4.out.trans (show _=(x4.go fun s=> (aqP l a4 s).o.go (nqj l mv a2 a3)) by simp only [if_neg h4]))
  go_wp2_with fail
  go_meet
  exact Hq ⟨x4,HE5.out,HS4.out,HL4.out,Mv.refl _ _⟩
 case rest=>
  obtain⟨x5,he,hs,hl,hm⟩:=hcut.out
  have HE5:=Hq he
  have HS5:=Hq hs
  have HL5:=Hq hl
  have HM5:=Hq hm
  have X5:=Hq (hm.bx X4.out hMR)
  clear he hs hl hm hcut HE4 HL4 X4 HS4
  go_upto_block 0 with(first
   | (go_at_call 80;refine(eqg R A cap 64 l pool x6 _ HS6'.out Om).mono ?_;rintro e7 w7 ⟨a7,x7,v7,rfl,⟨rfl,ha7⟩,hi,hm,hs⟩;have HI7:=Hq hi;have HM7:=Hq hm;have HS7:=Hq hs;clear hi hm hs)
   | (go_at_call 104;refine(cqq R A cap a4 l pool x5 _ HS5.out Om).mono ?_;rintro e6 w6 ⟨a6,x6,v6,rfl,⟨ho,ha6⟩,hi,hm,hs⟩;have HI6:=Hq hi;have HM6:=Hq hm;have HS6:=Hq hs;have HO6:=Hq ho;obtain⟨Ao,co,rfl⟩:=aq7 ho;have XP:=X5.out;have X:=hm.bx XP hMR;have zz:=fun o=>X.frozen o;have yy:=X.cell 6 rfl;have X6:=Hq (X.set 6 (.slice Ao a6.length co));clear X;have HS6':=Hq (hs.far ⟨M,6,none⟩ (.slice Ao a6.length co) (.inl hRM));clear hi hm hs ho))
  have HE7:=Hq ((HE5.out.trans (HI6.out.step _)).trans (HI7.out.step _))
  have HL7:=Hq (HI7.out.up (HI6.out.up HL5.out))
  have X7:=Hq (HM7.out.bx X6.out hMR)
  have HMu7:=Hq ((((HMu4.out.mv HM5.out Nr).mv HM6.out Nr).m 6 (.slice Ao a6.length co) Om).mv HM7.out Nr)
  have hz6:=(((HMu4.out.mv HM5.out Nr).but.size))
  have hz56:=HM6.out.size
  have hz67:=HM7.out.size
  simp at hz67
  have HCO:=Hq (show bqm w7 (fun g=>M<g∧g<w7.heap.size) 1 a6.length (a6.map bV) (.slice Ao a6.length co) by
   have h1:(w6.setCell ⟨M,6,none⟩ (.slice Ao a6.length co)).ownsRow wc.heap.size 5 1 (.slice Ao a6.length co) a6.length (a6.map bV):=aqj HO6.out fun g hg=>Below.heap_setCell _ _ _ _ (fun e=>by have:=(HO6.out.lt g hg).1;simp at e;omega)
   have h2:=HM7.out.own h1 Om
   exact aqs h2 _ Om Om fun g hg=>by have:=h2.lt g hg;omega)
  have HTV:=Hq (show bqm w7 (fun g=>M<g) 4 mv.traps.length (mv.traps.flatMap bqK.cells) tv0 from((HMT.out.htraps.mono (ok':=fun g=>M<g) fun _ _ h=>h).keep ⟨HMu7.out.but.size,fun g hg hk o=>HMu7.out.but.cell (p:=⟨g,o,none⟩) hg Sd⟩))
  have HPL7:=Hq (show∀W,Mu R M w7.heap.size w7 W→Pl3 W R lo pool from fun W hW=> (HPL.out.mu HMu7.out Om hlo).mu hW Om hlo)
  clear HE5 HI6 HI7 HL5 X5 X6 HM5 HM6 HM7 HS5 HS6 HS6' HO6 HMu4
  go_cut [10] (fun v10 wx=>Hid (∃ts tv x8,Is3 (bqO (dqa l) a7) x7 ts x8∧At3 wx R A cap l pool x8∧Bx wx M (aqr.cells { mv with has:=true,stack:=a2,locals:=a3,code:=a6,traps:=ts } (.slice Ao a6.length co) tv) 91∧bqm wx (fun g=>M<g) 4 ts.length (ts.flatMap bqK.cells) tv∧Mu R M w7.heap.size w7 wx))
  case first=>
   rcases x7 with _|s7
   ·obtain⟨e2,d2,T1,T2,_⟩:=HS7.out.e2
    have ff:=HS7.out.fz
    have k0:((0:Int) <a7)∨ ¬((0:Int) <a7):=Decidable.em _
    go_wp2_with fail
    go_loopw [10] (fun v10 wr=>v10= .int .i64 0∧wr=w7) (fun _ _=>0)
    case atStart=>exact⟨rfl,rfl⟩
    case round=>
     obtain⟨rfl,rfl⟩:=hrel
     rcases k0 with k0|k0
     all_goals
      go_wp2_with fail
      go_meet
      exact Hq ⟨mv.traps,tv0,none,rfl,HS7.out,X7.out,HTV.out,Mu.refl _ _ _ _⟩
   obtain rfl:=HL7.out s7 rfl
   have hM7:M<w7.heap.size:=by omega
   have hR7:R<w7.heap.size:=by omega
   go_wp2_with fail
   go_loopw [10] (fun v10 wr=> ∃(i:Nat) (ts:List bqK) (tv:Value) (xr:Rz),v10= .int .i64 i∧i≤a7∧ts.length=i∧Hid ((Rz.go (some s7) fun s=> (bqO (dqa l) a7 s).o)=xr.go fun s=> (Rx.pre ts (bqO (dqa l) (a7 - i) s)).o)∧Hid (At3 wr R A cap l pool xr)∧Hid (Bx wr M (aqr.cells { mv with has:=true,stack:=a2,locals:=a3,code:=a6,traps:=ts } (.slice Ao a6.length co) tv) 91)∧Hid (wr.ownsRow w7.heap.size 157 4 tv ts.length (ts.flatMap bqK.cells))∧Hid (Mu R M w7.heap.size w7 wr)) (fun i _=>a7 - (RowKit.intOf i).toNat)
   case atStart=>exact⟨0, [], .slice none 0 0,some s7,rfl,by omega,rfl,Hq (dq4 _ _ _),HS7,X7,Hq (World.ownsRow_nil _ _ _ _),Hq (Mu.refl _ _ _ _)⟩
   case round=>
    obtain⟨i,ts,tv,xr,rfl,hi7,rfl,HE,HS,HX,HO,HM⟩:=hrel
    have fzr:=HS.out.fz
    have hzr:=HM.out.but.size
    have fin:(ts.length=a7∨xr=none)→Hid (∃ts tv x8,Is3 (bqO (dqa l) a7) (some s7) ts x8∧At3 wr R A cap l pool x8∧Bx wr M (aqr.cells { mv with has:=true,stack:=a2,locals:=a3,code:=a6,traps:=ts } (.slice Ao a6.length co) tv) 91∧bqm wr (fun g=>M<g) 4 ts.length (ts.flatMap bqK.cells) tv∧Mu R M w7.heap.size w7 wr):=fun h=>
     Hq ⟨ts,tv,xr,HE.out.trans (fqZ _ _ _ _ (h.imp (fun h=>by omega) id)),HS.out,HX.out,aqs HO.out _ Om Om fun g hg=>by have:=HO.out.lt g hg;omega,HM.out⟩
    have FIN:=Hq fin
    clear fin
    by_cases hlt:ts.length<a7
    ·have ht:decide ((ts.length:Int) <a7)=true:=by simp;omega
     rcases xr with _|sr
     ·obtain⟨e2,d2,T1,T2,_⟩:=HS.out.e2
      have FF:=Hq (FIN.out (.inr rfl))
      clear FIN
      go_wp2_with fail
      go_meet
      exact FF.out
     have d2:=HS.out.c2
     obtain⟨m,hm⟩: ∃m,a7 - ts.length=m+1:=⟨a7 - ts.length - 1,by omega⟩
     rw [hm] at HE
     have hm2:m=a7 - (ts.length+1):=by omega
     clear hm FIN
     obtain⟨At,ct,rfl⟩:=aq7 HO.out
     have y7:=HX.out.cell 7 rfl
     have zm:=fun o=>HX.out.frozen o
     go_upto_region 15 with fail
     go_region_law (first
      | (go_simp;go_at_call 77;refine(aqu R A cap 2 l pool x10 _ HS10.out Om).mono ?_;rintro e11 w11 ⟨b11,x11,v11,rfl,⟨rfl,hb11⟩,hi,hm,hs⟩;have HI11:=Hq hi;have HM11:=Hq hm;have HS11:=Hq hs;have X:=hm.bx (by exact X10.out) hMR;have y11:=X.cell 7 rfl;have z11:=fun o=>X.frozen o;have X11:=Hq X;clear hi hm hs X;have hs8:=HM8.out.size;have hs9:=HM9.out.size;have hs10:=HM10.out.size;have hs11:=HM11.out.size;simp only [World.size_drew] at hs8;have hM11:M<w11.heap.size:=Om;have hN11: ¬M=w11.heap.size:=Om;dsimp only)
      | (go_simp;go_at_call 77;refine(aqu R A cap 2 l pool x9 _ HS9.out Om).mono ?_;rintro e10 w10 ⟨b10,x10,v10,rfl,⟨rfl,hb10⟩,hi,hm,hs⟩;have HI10:=Hq hi;have HM10:=Hq hm;have HS10:=Hq hs;have X:=hm.bx (by exact X9.out) hMR;have y10:=X.cell 7 rfl;have z10:=fun o=>X.frozen o;have X10:=Hq X;clear hi hm hs X;dsimp only)
      | (go_simp;go_at_call 77;refine(aqu R A cap 2 l pool x8 _ HS8.out Om).mono ?_;rintro e9 w9 ⟨b9,x9,v9,rfl,⟨rfl,hb9⟩,hi,hm,hs⟩;have HI9:=Hq hi;have HM9:=Hq hm;have HS9:=Hq hs;have X:=hm.bx (by exact X8.out) hMR;have y9:=X.cell 7 rfl;have z9:=fun o=>X.frozen o;have X9:=Hq X;clear hi hm hs X;dsimp only)
      | (go_simp;go_at_call 77;refine(aqu R A cap 2 l pool (some sr) _ (by first|exact HS.out.drew|exact HS.out) Om).mono ?_;rintro e8 w8 ⟨b8,x8,v8,rfl,⟨rfl,hb8⟩,hi,hm,hs⟩;have HI8:=Hq hi;have HM8:=Hq hm;have HS8:=Hq hs;have X:=hm.bx (by exact HX.out) hMR;have y8:=X.cell 7 rfl;have z8:=fun o=>X.frozen o;have X8:=Hq X;clear hi hm hs X;dsimp only)
      | (refine aq6 rfl (.tmp 74) (.tmp 84) 89 rfl Tryz.underlying89 kqv rfl Om w7.heap.size rfl ((HM11.out.own (HM10.out.own (HM9.out.own (HM8.out.own (aqj HO.out (fun _ _=>rfl)) Om) Om) Om) Om).alloc _) rfl rfl (aqm _ _ _ _ (by first|rfl|omega| (simp<;>omega))) Oc Om Mz Om (by have:=HM8.out.size;have:=HM9.out.size;have:=HM10.out.size;have:=HM11.out.size;simp at*;omega) ?_
         intro g6 cap6 W' ho hg hb hgg
         have d7:=(hb.cell (p:=⟨M,7,none⟩) hM7).trans ((((Below.refl w11.heap.size w11).alloc Nr _).cell (p:=⟨M,7,none⟩) hM11).trans y11)
         have f7:=(hb.frozen (p:=⟨M,7,none⟩) hM7).trans ((((Below.refl w11.heap.size w11).alloc Nr _).frozen (p:=⟨M,7,none⟩) hM11).trans (z11 7))
         have HO6:=Hq ho
         have HB6:=Hq hb
         have XB:=Hq ((X11.out.below ((Below.refl w11.heap.size w11).alloc Nr (.cells #[.int .i64 b8, .int .i64 b9, .int .i64 b10, .int .i64 b11] 157)) hM11).below hb hM7)
         clear ho hg hb hgg))
     all_goals
      go_wp2_with fail
      go_roundw
      case rel=>exact⟨ts.length+1,ts++ [⟨b8,b9,b10,b11⟩], .slice (some ⟨g6,0,none⟩) (ts.length+1) cap6,x11,by go_num,by omega,by simp,Hq (HE.out.trans ((dq5 (show Is3 (dqa l) (some sr) ⟨b8,b9,b10,b11⟩ x11 from(show(Rz.go (some sr) fun s=> (dqa l s).o)=_ by simp only [oqm];exact(((HI8.out.step _).trans (HI9.out.step _)).trans (HI10.out.step _)).trans (HI11.out.step _))) m ts).trans (by rw [hm2]))),Hq (((HS11.out.alloc _).low HB6.out hR7).far _ _ (.inl hRM)),Hq (XB.out.set 7 _),
       Hq (aqF (aqj HO6.out fun g hg=>Below.heap_setCell _ _ _ _ (fun e=>by have:=(HO6.out.lt g hg).1;simp at e;omega)) Sp (by simp [bqK.cells])),Hq ((((((((HM.out.low hR7 Rf9.drew).mv HM8.out Nr).mv HM9.out Nr).mv HM10.out Nr).mv HM11.out Nr).low hR7 (Rf9.alloc (by have:=HM8.out.size;have:=HM9.out.size;have:=HM10.out.size;have:=HM11.out.size;simp at*;omega) _)).low hR7 HB6.out).m 7 _ Om)⟩
      case measure=>simp [RowKit.intOf];omega
    have ht:decide ((ts.length:Int) <a7)=false:=by simp;omega
    have FF:=Hq (FIN.out (.inl Om))
    clear FIN
    go_wp2_with fail
    go_meet
    exact FF.out
  case rest=>
   obtain⟨ts,tv,x8,hi,hat,X,hsl,hm⟩:=hcut.out
   have HE8:=Hq (HE7.out.trans (hi.step _))
   have HS8:=Hq hat
   have X8:=Hq X
   have HTS:=Hq hsl
   have HM8:=Hq hm
   have hzc:=hm.but.size
   clear hi hat X hsl hm hcut
   go_upto_region 17 with(go_at_call 83;refine(hqT R lo A cap l pool x8 _ HS8.out (HPL7.out _ HM8.out)).mono ?_;rintro e9 w9 ⟨x9,rfl,hi,hm,hs⟩;have HI9:=Hq hi;have HM9:=Hq hm;have HS9:=Hq hs;clear hi hm hs)
   have HE9:=Hq (HE8.out.trans (HI9.out.step _))
   have X9:=Hq (HM9.out.bx X8.out hMR)
   have hz9:=HM9.out.size
   obtain⟨p9,m9,n9,q9,bad9,hr9,hp9,hs9⟩:=HS9.out
   have d1:=hs9.c1
   have d4:=hs9.c4
   have ff:=hs9.fz
   have HR9:=Hq hr9
   have HP9:=Hq hp9
   have HMA:=Hq (show∀W,Mu R M w9.heap.size w9 W→aqO W (fun g=>M<g) { mv with has:=true,stack:=a2,locals:=a3,code:=a6,traps:=ts } (.slice Ao a6.length co) tv∧Mu R M w.heap.size w W from fun W hW=>by
    have k1:Mu R M w7.heap.size w7 W:=(HM8.out.mv HM9.out Nr).trans (hW.less Om)
    have k2:Mu R M wc.heap.size wc W:=((Mu.refl R M _ wc).mv HM9.out Nr).trans (hW.less Om)
    refine⟨⟨?_, ?_⟩,HMu7.out.trans (k1.less Om)⟩
    ·exact(HCO.out.keep ⟨k1.but.size,fun g hg hk o=>k1.but.cell (p:=⟨g,o,none⟩) hg Sd⟩).mono fun _ _ h=>h.1
    exact HTS.out.keep ⟨k2.but.size,fun g hg hk o=>k2.but.cell (p:=⟨g,o,none⟩) hg Sd⟩)
   clear hr9 hp9 hs9
   by_cases hpm:p9=m9
   ·have ht:((p9:Int) !=m9)=false:=by simp [hpm]
    have HPM:=Hq hpm
    clear hpm
    go_quiet (fail)
    go_wp2_with fail
    refine⟨rfl, .tuple #[],by simp [results,Tryz.results106], ?_⟩
    have hk:=fun q=>HMA.out _ (((Mu.refl R M w9.heap.size w9).low Om (below_drewN (Below.refl w9.heap.size w9) q)).r 4 (.int .i64 4611686018427387904) Om)
    refine⟨_,_,_,_,rfl, ?_,(HS9.out.keep (below_drewN Rf9 _)).long,((X9.out.below (below_drewN (Below.refl w9.heap.size w9) _) Om).set_other _ _ Sd),rfl,(hk _).1,(hk _).2⟩
    refine HE9.out.trans ?_
    cases x9 with
    |none=>rfl
    |some s9=>
     show(if s9.pos≠s9.most then _ else _)=_
     rw [if_neg (by rw [HR9.out.1,HR9.out.2.1];simpa using HPM.out)]
     rfl
   have ht:((p9:Int) !=m9)=true:=by simp;omega
   have HPM:=Hq hpm
   clear hpm
   go_quiet (fail)
   go_wp2_with (go_at_call 78;refine(aq4 R A cap p 25 l pool x9 _ (HS9.out.keep (below_drewN Rf9 _)) Om).mono ?_;rintro e10 w10 ⟨rfl,hm,hs⟩;have HM10:=Hq hm;have HS10:=Hq hs;obtain⟨_,_,_,_,_,_,_,hs2⟩:=hs;have b4:=hs2.c4;have fff:=hs2.fz;clear hm hs2)
   refine⟨rfl, .tuple #[],by simp [results,Tryz.results106], ?_⟩
   have hk:=fun q (h:Mv R (w9.drewN q) w10)=>HMA.out _ ((((Mu.refl R M w9.heap.size w9).low Om (below_drewN (Below.refl w9.heap.size w9) q)).mv h Sp).r 4 (.int .i64 4611686018427387904) Om)
   refine⟨_,_,_,none,rfl, ?_,HS10.out.long,((HM10.out.bx (X9.out.below (below_drewN (Below.refl w9.heap.size w9) _) Om) hMR).set_other _ _ Sd),rfl,(hk _ HM10.out).1,(hk _ HM10.out).2⟩
   refine HE9.out.trans ?_
   cases x9 with
   |none=>rfl
   |some s9=>
    show(if s9.pos≠s9.most then _ else _)=_
    rw [if_pos (by rw [HR9.out.1,HR9.out.2.1];exact HPM.out)]
    rfl
theorem oqn (l:List UInt8) (st:Rs):(cq5 l st).o=(aqS l 2 st).o.go fun a s1=> (aqS l 2 s1).o.go fun n s2=> (aqS l 2 s2).o.go fun d s3=> (aqS l 2 s3).o.go fun k s4=> (bqX l (some fqu) (dqp l) k false ⟨a,n,d,false,0,0, [], []⟩ s4).o:=by
 unfold cq5 cqg
 simp only [cqx]
theorem lqX {t:ByteArray}:(t.toList== [67,111,100,101])=decide (some fqu=some t.toList):=by
 rw [show([67,111,100,101]:List UInt8)=fqu by decide+kernel]
 by_cases h:t.toList=fqu
 ·simp [h]
 rw [decide_eq_false (fun e=>h (by injection e with e;exact e.symm))]
 simpa using h
theorem oqo (l:List UInt8) (m:aqr) (p:Nat) (s:Rs) (k:aqr→Rs→Ro aqr):((aqS l 4 s).o.go fun long s2=> (dqp l m p long s2).o.go k)=(kqu l m p s).o.go k:=by
 rw [lqW,gq4]
 rfl
theorem Mv.mu {R M:Nat} {w a b:World} (h:Mv R w a) (k:Mu R M a.heap.size a b) (hM:w.heap.size≤M):Mv R w b:=
 ⟨h.1.trans (k.but.mono h.1.size fun g hg hh=>by simp at hh⊢;omega),fun j hj=> (k.cl j hj).trans (h.2 j hj)⟩
def Ms3 (w:World) (R base:Nat) (ks:List (aqr×Value×Value)):Prop:= ∃pv,w.cell? ⟨R,14,none⟩=some pv∧w.ownsRow base 91 8 pv ks.length (bqs ks)∧ ∀q∈ks,aqO w (fun g=>base≤g∧pv.ownBlock≠some g) q.1 q.2.1 q.2.2
theorem kqw {w w':World} {r:Option Nat} (h:w.drew.grownBy w' r):w.grownBy w' r:=⟨h.os,h.tape,h.output,h.size,h.block⟩
theorem iq8 (R lo base:Nat) (A:Option Addr) (cap:Nat) (l:List UInt8) (pool:List Ko) (x:Rz) (ks:List (aqr×Value×Value)) (w:World) (h:At3 w R A cap l pool x) (hpl:Pl3 w R lo pool) (hlb:lo≤base) (hB:base≤w.heap.size) (hR:R<base) (hr:Ms3 w R base ks) (hc:ks.length≤100000):
  Calls Tryz.prog 82 #[.pointer (some ⟨R,0,none⟩)] w fun e w'=> ∃q x',e= .returned (.tuple #[])∧Is3 (cq5 l) x q.1 x'∧At3 w' R A cap l pool x'∧Ms3 w' R base (ks++ [q])∧Fr R base 14 w w':=by
 have H:=Hq h
 have HR:=Hq hr
 have HPL:=Hq hpl
 have hlt0:=h.lt
 clear h hr hpl
 go_enter Tryz.func82,Tryz.ntmps82
 go_upto_region 1 with(first
  | (go_at_call 77;refine(aqu R A cap 2 l pool x2 _ HS2.out Om).mono ?_;rintro e3 w3 ⟨a3,x3,v3,rfl,⟨rfl,ha3⟩,hi,hm,hs⟩;have HI3:=Hq hi;have HM3:=Hq hm;have HS3:=Hq hs;clear hi hm hs)
  | (go_at_call 77;refine(aqu R A cap 2 l pool x1 _ HS1.out Om).mono ?_;rintro e2 w2 ⟨a2,x2,v2,rfl,⟨rfl,ha2⟩,hi,hm,hs⟩;have HI2:=Hq hi;have HM2:=Hq hm;have HS2:=Hq hs;clear hi hm hs)
  | (go_at_call 77;refine(aqu R A cap 2 l pool x _ H.out Om).mono ?_;rintro e1 w1 ⟨a1,x1,v1,rfl,⟨rfl,ha1⟩,hi,hm,hs⟩;have HI1:=Hq hi;have HM1:=Hq hm;have HS1:=Hq hs;clear hi hm hs))
 have HE3:=Hq (show(x.go fun s=> (cq5 l s).o)=_ by simp only [oqn];exact((HI1.out.step _).trans (HI2.out.step _)).trans (HI3.out.step _))
 have HM:=Hq ((HM1.out.trans HM2.out).trans HM3.out)
 have hz3:=HM.out.size
 obtain⟨M,hM⟩: ∃M,M=w3.heap.size:=⟨_,rfl⟩
 obtain⟨W,hW⟩: ∃W,W=w3.alloc (.cells #[.int .i64 a1, .int .i64 a2, .int .i64 a3, .bool false, .int .i64 0, .int .i64 0, .slice none 0 0, .slice none 0 0] 91):=⟨_,rfl⟩
 have X0:=Hq (show Bx W M [.int .i64 a1, .int .i64 a2, .int .i64 a3, .bool false, .int .i64 0, .int .i64 0, .slice none 0 0, .slice none 0 0] 91 by rw [hW,hM];exact aql w3 _ _)
 have HS:=Hq (show At3 W R A cap l pool x3 by rw [hW];exact HS3.out.alloc _)
 have HMW:=Hq (show Mv R w W by rw [hW];exact HM.out.alloc _ hlt0)
 rw [←hW, ←hM]
 have hwM:w.heap.size≤M:=by omega
 have hRM:R<M:=by omega
 have hMR: ¬M=R:=by omega
 have hlo:lo≤M:=by omega
 clear hW hM hz3 HI1 HI2 HI3 HM1 HM2 HM3 HS1 HS2 HS3 HM
 go_upto_block 0 with(go_at_call 77;refine(aqu R A cap 2 l pool x3 _ HS.out Om).mono ?_;rintro e4 w4 ⟨n,x4,v4,rfl,⟨rfl,hn⟩,hi,hm,hs⟩;have HI4:=Hq hi;have HM4:=Hq hm;have HS4:=Hq hs;clear hi hm hs)
 have HE4:=Hq (HE3.out.trans (HI4.out.step _))
 have X4:=Hq (HM4.out.bx X0.out hMR)
 have HMW4:=Hq (HMW.out.trans HM4.out)
 clear HE3 X0 HMW HS HM4 HI4
 go_cut [4,5,6] (fun v4 v5 v6 wc=>Hid (∃m cv tv x',Is3 (cq5 l) x m x'∧At3 wc R A cap l pool x'∧Bx wc M (m.cells cv tv) 91∧aqO wc (fun g=>M<g) m cv tv∧Mv R w wc))
 case first=>
  go_wp2_with fail
  go_loopw [4,5,6] (fun v4 v5 v6 wr=> ∃(k:Nat) (mv:aqr) (cv tv:Value) (xr:Rz),v4= .int .i64 k∧k≤n∧Hid ((x.go fun s=> (cq5 l s).o)=xr.go fun s=> (bqX l (some fqu) (dqp l) (n - k) mv.has mv s).o)∧Hid (Mv R w wr)∧Hid (At3 wr R A cap l pool xr)∧Hid (Bx wr M (mv.cells cv tv) 91)∧Hid (aqO wr (fun g=>M<g) mv cv tv)∧Hid (∀s,xr=some s→mv.has=false→tv= .slice none 0 0)) (fun i _ _ _=>n - (RowKit.intOf i).toNat)
  case atStart=>exact⟨0,⟨a1,a2,a3,false,0,0, [], []⟩, .slice none 0 0, .slice none 0 0,x4,rfl,by omega,HE4,HMW4,HS4,X4,Hq ⟨aqs (World.ownsRow_nil _ 0 5 1) _ Om Om (fun g hg=>by cases hg),aqs (World.ownsRow_nil _ 0 157 4) _ Om Om (fun g hg=>by cases hg)⟩,Hq fun _ _ _=>rfl⟩
  case round=>
   obtain⟨k,mv,cv,tv,xr,rfl,hk,HE,HM,HS,HX,HMA,HINV⟩:=hrel
   have fzr:=HS.out.fz
   by_cases hlt:k<n
   ·have ht:decide ((k:Int) <n)=true:=by simp;omega
    rcases xr with _|s
    ·obtain⟨e2,d2,T1,T2,_⟩:=HS.out.e2
     go_wp2_with fail
     go_meet
     exact Hq ⟨mv,cv,tv,none,HE.out,HS.out,HX.out,HMA.out,HM.out⟩
    have d2:=HS.out.c2
    obtain⟨p,d1,hp,hp2⟩:=HS.out.c1
    have HP:=Hq hp
    obtain⟨m,hm⟩: ∃m,n - k=m+1:=⟨n - k - 1,by omega⟩
    rw [hm] at HE
    have hm2:m=n - (k+1):=by omega
    clear hm hp
    go_upto_region 7 with(go_at_call 105;refine(cq8 R lo p A cap l pool _ _ HS.out (HPL.out.mv HM.out) HP.out).mono ?_;rintro e3 w3 ⟨⟨a3p,t3⟩,x3,v3,rfl,⟨rfl,hpp⟩,hi,hm,hs⟩;obtain rfl:=hpp;have HI3:=Hq hi;have HM3:=Hq hm;have HS3:=Hq hs;clear hi hm hs)
    have HE2:=Hq (HE.out.trans ((congrArg (Rz.go (some s)) (funext fun s=>iq6 ..)).trans (HI3.out.step _)))
    have X3:=Hq (HM3.out.bx HX.out hMR)
    have HMA3:=Hq (show∀W,Mv R w3 W→aqO W (fun g=>M<g) mv cv tv from fun W hW=>by
     have kk:aqC (fun g=>M<g) wr W:=⟨(HM3.out.trans hW).1.size,fun g hg hk o=> (HM3.out.trans hW).1.cell (p:=⟨g,o,none⟩) hg Sd⟩
     exact⟨HMA.out.hcode.keep kk,HMA.out.htraps.keep kk⟩)
    have HMr:=Hq (HM.out.trans HM3.out)
    have HINV3:=Hq (show∀s,x3=some s→mv.has=false→tv= .slice none 0 0 from HI3.out.up HINV.out)
    have fz3:=HS3.out.fz
    have y3:=X3.out.cell 3 rfl
    have zz3:=fun o=>X3.out.frozen o
    clear HX HM HE HS HI3 HM3 HMA HINV
    rcases x3 with _|s3
    ·obtain⟨e3,d3,T3,T4,_⟩:=HS3.out.e2
     go_wp2_with (first| (go_at_call 77;refine(aqu R A cap 4 l pool none _ HS3.out Om).mono ?_;rintro e4 w4 ⟨a4,x4,v4,rfl,⟨rfl,ha4⟩,hi,hm,hs⟩;obtain rfl:=hi.dead;have HM4:=Hq hm;have HS4:=Hq hs;clear hi hm hs) | (go_at_call 104;refine(cqq R A cap a4 l pool none _ HS4.out Om).mono ?_;rintro e5 w5 ⟨a5,x5,v5,rfl,⟨ho,ha5⟩,hi,hm,hs⟩;obtain rfl:=hi.dead;have HM5:=Hq hm;have HS5:=Hq hs;have HO5:=Hq ho;clear hi hm hs ho))
     go_roundw
     case rel=>exact⟨k+1,mv,cv,tv,none,by go_num,by omega,Hq (HE2.out.trans rfl),Hq ((HMr.out.trans HM4.out).trans HM5.out),Hq (HS5.out),Hq (HM5.out.bx (HM4.out.bx X3.out hMR) hMR),Hq (HMA3.out _ (HM4.out.trans HM5.out)),Hq (nofun)⟩
     case measure=>simp [RowKit.intOf];omega
    have d3:=HS3.out.c2
    have hcv:=lqX (t:=t3)
    by_cases hq:some fqu=some t3.toList
    ·rw [decide_eq_true hq] at hcv
     rcases hhas:mv.has with _|_
     ·rw [hhas] at y3
      have HE3:=Hq (HE2.out.trans (show _=(Rz.go (some s3) fun s1=> (kqu l mv a3p s1).o.go fun x' s3=> (bqX l (some fqu) (dqp l) m true x' s3).o) by simp only [hq,hhas,if_true,oqo];simp))
      have HTN:=Hq (HINV3.out s3 rfl hhas)
      clear hq hhas
      go_wp2_with (go_at_call 106;refine(hqU R M lo a3p A cap l pool (some s3) mv cv tv _ HS3.out (HPL.out.mv HMr.out) hRM hlo X3.out (HMA3.out _ (Mv.refl _ _)) (fun _ _=>HTN.out)).mono ?_;rintro e4 w4 ⟨mv4,cv4,tv4,x4,rfl,hi,hs,hx,hh,ma,hmu⟩;have HI4:=Hq hi;have HH4:=Hq hh;have HS4:=Hq hs;have X4:=Hq hx;have HMA4:=Hq ma;have HMU4:=Hq hmu;clear hi hs hx hh ma hmu)
      go_roundw
      case rel=>exact⟨k+1,mv4,cv4,tv4,x4,by go_num,by omega,Hq (((HE3.out.trans (HI4.out.step _)).trans (by rw [hm2,HH4.out]))),Hq (HMr.out.mu HMU4.out hwM),Hq (HS4.out),Hq (X4.out),Hq (HMA4.out),Hq (fun s _ h=>by rw [HH4.out] at h;cases h)⟩
      case measure=>simp [RowKit.intOf];omega
     rw [hhas] at y3
     have HE3:=Hq (HE2.out.trans (show _=none by simp only [hq,hhas,if_true];simp;rfl))
     clear hq hhas
     go_wp2_with (first| (go_at_call 106;refine(hqU R M lo a3p A cap l pool none mv cv tv _ HS4.out (HPL.out.mv (HMr.out.trans HM4.out)) hRM hlo (HM4.out.bx X3.out hMR) (HMA3.out _ HM4.out) nofun).mono ?_;rintro e5 w5 ⟨mv5,cv5,tv5,x5,rfl,hi,hs,hx,hh,ma,hmu⟩;obtain rfl:=hi.dead;have HH5:=Hq hh;have HS5:=Hq hs;have X5:=Hq hx;have HMA5:=Hq ma;have HMU5:=Hq hmu;clear hi hs hx hh ma hmu) | (go_at_call 78;refine(aq4 R A cap a3p 24 l pool (some s3) _ HS3.out Om).mono ?_;rintro e4 w4 ⟨rfl,hm,hs⟩;have HM4:=Hq hm;have HS4:=Hq hs;clear hm hs))
     go_roundw
     case rel=>exact⟨k+1,mv5,cv5,tv5,none,by go_num,by omega,Hq (HE3.out),Hq ((HMr.out.trans HM4.out).mu HMU5.out hwM),Hq (HS5.out),Hq (X5.out),Hq (HMA5.out),Hq (nofun)⟩
     case measure=>simp [RowKit.intOf];omega
    rw [decide_eq_false hq] at hcv
    have HE3:=Hq (HE2.out.trans (show _=(Rz.go (some s3) fun s1=> (aqS l 4 s1).o.go fun long s2=> (aqP l long s2).o.go fun _ s3=> (bqX l (some fqu) (dqp l) m mv.has mv s3).o) by simp only [hq,false_and,if_false]))
    clear hq
    go_wp2_with (first| (go_at_call 77;refine(aqu R A cap 4 l pool (some s3) _ HS3.out Om).mono ?_;rintro e4 w4 ⟨a4,x4,v4,rfl,⟨rfl,ha4⟩,hi,hm,hs⟩;have HI4:=Hq hi;have HM4:=Hq hm;have HS4:=Hq hs;clear hi hm hs) | (go_at_call 104;refine(cqq R A cap a4 l pool x4 _ HS4.out Om).mono ?_;rintro e5 w5 ⟨a5,x5,v5,rfl,⟨ho,ha5⟩,hi,hm,hs⟩;have HI5:=Hq hi;have HM5:=Hq hm;have HS5:=Hq hs;have HO5:=Hq ho;clear hi hm hs ho))
    go_roundw
    case rel=>exact⟨k+1,mv,cv,tv,x5,by go_num,by omega,Hq (((HE3.out.trans (HI4.out.step _)).trans (HI5.out.step _)).trans (by rw [hm2])),Hq ((HMr.out.trans HM4.out).trans HM5.out),Hq (HS5.out),Hq (HM5.out.bx (HM4.out.bx X3.out hMR) hMR),Hq (HMA3.out _ (HM4.out.trans HM5.out)),Hq (HI5.out.up (HI4.out.up HINV3.out))⟩
    case measure=>simp [RowKit.intOf];omega
   have ht:decide ((k:Int) <n)=false:=by simp;omega
   go_wp2_with fail
   go_meet
   exact Hq ⟨mv,cv,tv,xr,HE.out.trans (fqm _ _ _ _ _ _ _ (.inl Om)),HS.out,HX.out,HMA.out,HM.out⟩
 case rest=>
  obtain⟨mv,cv,tv,x',hi,hat,X,hma,hm⟩:=hcut.out
  have HI:=Hq hi
  have HA:=Hq hat
  have HM:=Hq hm
  unfold aqr.cells at X
  have d0:=X.cell 0 rfl
  have d1:=X.cell 1 rfl
  have d2:=X.cell 2 rfl
  have d3:=X.cell 3 rfl
  have d4:=X.cell 4 rfl
  have d5:=X.cell 5 rfl
  have d6:=X.cell 6 rfl
  have d7:=X.cell 7 rfl
  have z:=fun o=>X.frozen o
  obtain⟨pv,c8,ho,hks⟩:=HR.out
  have c8:=(hm.2 14 Om).trans c8
  have hzc:=hm.size
  have hRc:R<wc.heap.size:=by omega
  have fz2:=hat.fz
  have HMS:=Hq (gqm hks ho Rf9 hm.1 hR hB ⟨hma.hcode.mono fun g _ hg=>by omega,hma.htraps.mono fun g _ hg=>by omega⟩)
  have HO:=Hq (hm.own ho hR)
  obtain⟨Ac,kc,rfl,_⟩:=hma.hcode
  obtain⟨At,kt,rfl,_⟩:=hma.htraps
  clear hi hat hm X hcut ho hks hma
  obtain⟨Av,cv,rfl⟩:=aq7 HO.out
  go_wp2_with fail
  go_region_law (first
   | (refine aq6 rfl (.tmp 60) (.tmp 62) 56 rfl Tryz.underlying56 eqr rfl Om base rfl ((aqj HO.out (fun _ _=>rfl)).alloc _) rfl rfl (aqm _ _ _ _ (by first|rfl|omega| (simp<;>omega))) Oc Om Mz Om (by first|rfl|omega| (simp<;>omega)) ?_
      intro g6 cap6 W' ho hg hb hgg
      have d8:=(hb.cell (p:=⟨R,14,none⟩) hR).trans ((((Below.refl wc.heap.size wc).alloc Nr _).drew.cell (p:=⟨R,14,none⟩) hRc).trans c8)
      have f8:=(hb.frozen (p:=⟨R,14,none⟩) hR).trans ((((Below.refl wc.heap.size wc).alloc Nr _).drew.frozen (p:=⟨R,14,none⟩) hRc).trans (fz2 14))
      have HMG:=Hq (fun n c=>fqx (n:=n) (c:=c) HMS.out (kqw hg) (fun q hq=> (HO.out.lt q hq).2) hgg)
      have HO6:=Hq ho
      have HB6:=Hq hb
      clear ho hg hb hgg))
  all_goals
   go_wp2_with fail
   refine⟨rfl, .tuple #[],by simp [results,Tryz.results82], ?_⟩
   refine⟨(mv, .slice Ac mv.code.length kc, .slice At mv.traps.length kt),x',rfl,HI.out, ?_,⟨_,World.cell?_setCell_same _ _ _ d8, ?_,hqh (HMG.out _ _) _ _ hR⟩, ?_⟩
   ·exact(((HA.out.alloc _).drew.low HB6.out hR).far _ _ (.inr ⟨rfl,by simp⟩))
   ·refine aqF (aqj HO6.out fun g hg=>Below.heap_setCell _ _ _ _ ?_) Sp (by simp [bqs,aqr.cells])
    have:=(HO6.out.lt g hg).1
    simp
    omega
   exact((((Fr.refl R base 14 w).mv HM.out hB).low hR ((Rf9.alloc Om _).drew)).low hR HB6.out).cell _
end Go.Proofs.YtdbniocnjhfhdaaGreatDoor
