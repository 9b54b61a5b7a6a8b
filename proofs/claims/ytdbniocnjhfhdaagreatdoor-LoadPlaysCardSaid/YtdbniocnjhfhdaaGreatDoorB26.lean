/- Part 26 of what the laws rest on: walks. Conditions: those that each theorem names. -/
import Derived.Test.YtdbniocnjhfhdaaGreatDoorB25
set_option linter.unusedSimpArgs false
set_option linter.unusedVariables false
set_option maxRecDepth 100000
set_option maxHeartbeats 40000000
namespace Go.Proofs.YtdbniocnjhfhdaaGreatDoor
open Go Go.RowKit Lib
theorem oqQ (l:List UInt8) (mi ma:Nat) (pool:List Ko) (a t u:Nat) (ifs:List Nat) (flds:List aqq) (mths:List aqr) (s:Rs):(mqx l mi ma pool a t u ifs flds mths s).o=(eqj l s).o.go fun _ s'=>
  if s'.pos<l.length then none else some (⟨mi,ma,pool,a,t,u,ifs.map Int.ofNat,flds,mths⟩,s'):=by
 unfold mqx
 simp only [cqx,iq5]
 rfl
theorem oqR (l:List UInt8) (mi ma:Nat) (pool:List Ko) (a t u:Nat) (ifs:List Nat) (flds:List aqq) (s:Rs):(mqy l mi ma pool a t u ifs flds s).o=(bqo l 64 s).o.go fun n s'=> (bqO (cq5 l) n s').o.go fun ms s=> (mqx l mi ma pool a t u ifs flds ms s).o:=by
 unfold mqy
 simp only [cqx]
theorem oqS (l:List UInt8) (mi ma:Nat) (pool:List Ko) (a t u:Nat) (ifs:List Nat) (s:Rs):(nqP l mi ma pool a t u ifs s).o=(bqo l 64 s).o.go fun n s'=> (bqO (bqY l) n s').o.go fun fs s=> (mqy l mi ma pool a t u ifs fs s).o:=by
 unfold nqP
 simp only [cqx]
def plS (pool:List Ko) (s:Rs):Rs:={ s with pool:=pool }
def nqk (l:List UInt8) (mi ma:Nat) (pool:List Ko) (s:Rs):Ro aqc:=(aqS l 2 s).o.go fun a s5=> (aqS l 2 s5).o.go fun t s6=> (aqS l 2 s6).o.go fun u s7=> (bqo l 64 s7).o.go fun n s'=> (bqO (aqS l 2) n s').o.go fun is s=> (nqP l mi ma pool a t u is s).o
def hqV (l:List UInt8) (mi ma n:Nat) (s:Rs):Ro aqc:=if 1025<n then none else if n=0 then none else(bqO (koP l) (n - 1) s).o.go fun pool s=>nqk l mi ma pool (plS pool s)
def oqp (l:List UInt8) (s:Rs):Ro aqc:=(aqS l 2 s).o.go fun mi s1=> (aqS l 2 s1).o.go fun ma s2=> (aqS l 2 s2).o.go (hqV l mi ma)
theorem nql (l:List UInt8) (st:Rs):(bqP l st).o=(aqS l 4 st).o.go fun m s0=>if m≠3405691582 then none else oqp l s0:=by
 unfold bqP nq4 oqp hqV
 unfold nqk
 simp only [cqx,iq5,gq2,gq4]
 congr 1;funext m s0;split;rfl
 congr 1;funext mi s1;congr 1;funext ma s2;congr 1;funext n s3;split;rfl
 rfl
def Cl3 (W:World) (R:Nat) (vs:List Value):Prop:= ∀j u,vs[j]?=some u→W.cell? ⟨R,6+j,none⟩=some u
section
variable {W W':World} {R:Nat} {A:Option Addr} {cap:Nat} {l:List UInt8} {pool:List Ko} {x:Rz} {vs:List Value}
theorem Cl3.mv (h:Cl3 W R vs) (m:Mv R W W'):Cl3 W' R vs:=fun j u hu=> (m.2 _ Om).trans (h j u hu)
theorem Cl3.low (h:Cl3 W R vs) {B:Nat} (hb:Below B W W') (hB:R<B):Cl3 W' R vs:=fun j u hu=> (hb.cell (p:=⟨R,6+j,none⟩) hB).trans (h j u hu)
theorem Cl3.put (h:Cl3 W R vs) (j:Nat) (v:Value) (hk: ∀i,i≠j→W'.cell? ⟨R,6+i,none⟩=W.cell? ⟨R,6+i,none⟩) (hv:W'.cell? ⟨R,6+j,none⟩=some v):Cl3 W' R (vs.set j v):=fun i u hu=>by
 rw [List.getElem?_set] at hu
 by_cases e:j=i
 ·subst e
  rw [if_pos rfl] at hu
  split at hu
  ·injection hu with hu;subst hu;exact hv
  cases hu
 rw [if_neg e] at hu
 exact(hk i fun h=>e h.symm).trans (h i u hu)
theorem Cl3.set (h:Cl3 W R vs) (j:Nat) (v:Value) {z:Value} (hz:W.cell? ⟨R,6+j,none⟩=some z):Cl3 (W.setCell ⟨R,6+j,none⟩ v) R (vs.set j v):=
 h.put j v (fun i hi=>World.cell?_setCell_other _ _ _ _ (by intro e;injection e;omega)) (World.cell?_setCell_same _ _ _ hz)
theorem Cl3.fr {base j:Nat} (h:Cl3 W R vs) (m:Fr R base (6+j) W W') {v:Value} (hv:W'.cell? ⟨R,6+j,none⟩=some v):Cl3 W' R (vs.set j v):=
 h.put j v (fun i hi=>m.cl _ Om Om) hv
theorem Mv.low (m:Mv R W W') (hR:R<W.heap.size):Below R W W':=(m.1.mono (S':= []) (Nat.le_of_lt hR) fun k hk hm=>by simp at hm;omega).below
theorem Fr.below {base j:Nat} (m:Fr R base j W W') (hR:R<base):Below R W W':=(m.but.mono (S':= []) (Nat.le_of_lt hR) fun k hk hm=>by simp at hm;omega).below
theorem fq0 (a:World) (o:Nat) (v:Value):Below R a (a.setCell ⟨R,o,none⟩ v):=(Below.refl R a).setCell Nr v
theorem dqK {size n:Nat} {cs:List Value} {v:Value} (h:bqm W (fun g=>R<g) size n cs v) (m:Mv R W W'):bqm W' (fun g=>R<g) size n cs v:=h.keep ⟨m.1.size,fun g hg hk o=>m.1.cell (p:=⟨g,o,none⟩) hg Sd⟩
theorem gqE {size n base j:Nat} {cs:List Value} {v:Value} (h:bqm W (fun g=>R<g) size n cs v) (m:Fr R base j W W') (hb:W.heap.size≤base):bqm W' (fun g=>R<g) size n cs v:=h.keep ⟨m.but.size,fun g hg hk o=>m.but.cell (p:=⟨g,o,none⟩) (show g<base by omega) Sd⟩
theorem oqq {size n:Nat} {cs:List Value} {v:Value} (h:bqm W (fun g=>R<g) size n cs v) (o:Nat) (u:Value):bqm (W.setCell ⟨R,o,none⟩ u) (fun g=>R<g) size n cs v:=
 h.keep ⟨by simp,fun g hg hk o'=>World.cell?_of_block (w:=W) (Below.heap_setCell W _ u g Sd)⟩
theorem Pl3.set {lo:Nat} (h:Pl3 W R lo pool) (o:Nat) (u:Value) (ho:8<o):Pl3 (W.setCell ⟨R,o,none⟩ u) R lo pool:=by
 obtain⟨pv,h1,h2⟩:=h
 exact⟨pv,(World.cell?_setCell_other _ _ _ _ (by intro e;injection e;omega)).trans h1,h2.keep ⟨by simp,fun g hg hk o'=>World.cell?_of_block (w:=W) (Below.heap_setCell W _ u g (by simpa using hk.2))⟩⟩
theorem At3.plS (h:At3 W R A cap l [] x) (pool:List Ko):At3 W R A cap l pool (x.map (plS pool)):=by
 obtain⟨p,m,n,e,b,h1,h2,h3⟩:=h
 refine⟨p,m,n,e,b, ?_, ?_,h3⟩
 ·cases x with
  |none=>exact h1
  |some s=>exact h1
 cases x with
 |none=>exact nofun
 |some s=>intro s' e;injection e with e;subst e;rfl
end
theorem gqF {B:Nat} {a w:World} (h:Below B a w) (g:Nat) (cs:Array Value) (hg:B≤g):Below B a (w.setRow g cs):=h.trans ⟨rfl,rfl,rfl,by simp,fun k hk=>setRow_other w g k cs Om⟩
def gq5:List Value:= [.int .i64 0, .int .i64 0, .slice none 0 0, .int .i64 0, .int .i64 0, .int .i64 0, .slice none 0 0, .slice none 0 0, .slice none 0 0]
theorem jqN {w:World} {g:Nat} {vs:List Value} {t:TypeId} (h:Bx w g vs t):Bx w.drew g vs t:=h
theorem zs9 {w:World} {g:Nat} {t:TypeId} (h:Bx w g gq5 t):Bx (((((((((w.setCell ⟨g,0,none⟩ (.int .i64 0)).setCell ⟨g,1,none⟩ (.int .i64 0)).setCell ⟨g,2,none⟩ (.slice none 0 0)).setCell ⟨g,3,none⟩ (.int .i64 0)).setCell ⟨g,4,none⟩ (.int .i64 0)).setCell ⟨g,5,none⟩ (.int .i64 0)).setCell ⟨g,6,none⟩ (.slice none 0 0)).setCell ⟨g,7,none⟩ (.slice none 0 0)).setCell ⟨g,8,none⟩ (.slice none 0 0)) g gq5 t:=by
 have h9:=(((((((((h.set 0 (.int .i64 0)).set 1 (.int .i64 0)).set 2 (.slice none 0 0)).set 3 (.int .i64 0)).set 4 (.int .i64 0)).set 5 (.int .i64 0)).set 6 (.slice none 0 0)).set 7 (.slice none 0 0)).set 8 (.slice none 0 0))
 exact h9
theorem zb9 {w w':World} {g:Nat} (h:Below g w w'):Below g w (((((((((w'.setCell ⟨g,0,none⟩ (.int .i64 0)).setCell ⟨g,1,none⟩ (.int .i64 0)).setCell ⟨g,2,none⟩ (.slice none 0 0)).setCell ⟨g,3,none⟩ (.int .i64 0)).setCell ⟨g,4,none⟩ (.int .i64 0)).setCell ⟨g,5,none⟩ (.int .i64 0)).setCell ⟨g,6,none⟩ (.slice none 0 0)).setCell ⟨g,7,none⟩ (.slice none 0 0)).setCell ⟨g,8,none⟩ (.slice none 0 0)).drew:=
 (((((((((h.setCell (p:=⟨g,0,none⟩) (Nat.le_refl g) _).setCell (p:=⟨g,1,none⟩) (Nat.le_refl g) _).setCell (p:=⟨g,2,none⟩) (Nat.le_refl g) _).setCell (p:=⟨g,3,none⟩) (Nat.le_refl g) _).setCell (p:=⟨g,4,none⟩) (Nat.le_refl g) _).setCell (p:=⟨g,5,none⟩) (Nat.le_refl g) _).setCell (p:=⟨g,6,none⟩) (Nat.le_refl g) _).setCell (p:=⟨g,7,none⟩) (Nat.le_refl g) _).setCell (p:=⟨g,8,none⟩) (Nat.le_refl g) _).drew
theorem bq4 {P:Program} {fn:Func} {tmps:Array Value} {a b c:Tmp} {T:TypeId} {g:Nat} {vs:List Value} {t:TypeId} {w:World} {d:TypeDesc} {x y:Value} (hr:fn.results= #[.cell a T, .tmp b, .tmp c]) (ha:tmps.getD a undef= .pointer (some ⟨g,0,none⟩)) (hx:tmps.getD b undef=x) (hy:tmps.getD c undef=y) (hb:Bx w g vs t)
  (hu:P.underlying T=some d) (hd:(match d with| .struct _| .array _ _=>true|_=>false)=true) (hi:(P.info? T).map (·.size)=some vs.length):(results fn tmps).run P w= .ok (.tuple #[.agg vs.toArray,x,y]) w:=by
 have:=run_loadVar_row (P:=P) w g t T vs.toArray (0,0) d hb hu hd (by simpa using hi)
 unfold results
 rw [hr]
 rw [Array.getD_eq_getD_getElem?] at ha hx hy
 simp [ha,hx,hy,asAddr,this,Result.andThen]
theorem nqW {l:List UInt8} {Z:Ro aqc} (h:(match bq6 l with| .error _=>none| .ok c=>some c)=Z.map (·.1)) (hz:Z=none): ∃q,bq6 l= .error q:=by
 subst hz
 cases e:bq6 l with
 |error q=>exact⟨q,rfl⟩
 |ok c=>rw [e] at h;cases h
theorem rd_ok {l:List UInt8} {Z:Ro aqc} {c:aqc} {s:Rs} (h:(match bq6 l with| .error _=>none| .ok c=>some c)=Z.map (·.1)) (hz:Z=some (c,s)):bq6 l= .ok c:=by
 subst hz
 cases e:bq6 l with
 |error q=>rw [e] at h;cases h
 |ok c'=>rw [e] at h;injection h with h;rw [h]
theorem fq1 {B R:Nat} {a b c:World} (h:Below B a b) (k:Below R b c) (hB:B<R):Below B a c:=h.trans ((But.of_below (S:= []) k).mono (Nat.le_of_lt hB) fun _ _ h=>h).below
def oqT (w:World) (l:List UInt8) (e:Ending) (w':World):Prop:=Below w.heap.size w w'∧((∃q,bq6 l= .error q∧ ∃(cs:List Value) (b er:Int),cs.length=9∧(∀u∈cs,u.oneCell'=true)∧e= .returned (.tuple #[.agg cs.toArray, .int .i64 b, .int .i64 er])∧er≠0∧er≠12)∨
 ∃c pv iv fv mv,bq6 l= .ok c∧e= .returned (.tuple #[.agg (c.cells pv iv fv mv).toArray, .int .i64 0, .int .i64 0])∧aqy w' (fun g=>w.heap.size≤g) c pv iv fv mv)
theorem lqY (A:Option Addr) (cap:Nat) (l:List UInt8) (w:World) (hrd:RdB w A l.length cap l) (hA: ∀a,A=some a→a.block<w.heap.size):
  Calls Tryz.prog 58 #[.slice A l.length cap] w (oqT w l):=by
 have HRD:=Hq hrd
 have HAA:=Hq hA
 have hl9:=hrd.hmax
 clear hrd hA
 have X0:=Hq (aql w [.int .i64 0, .int .i64 0, .slice none 0 0, .int .i64 0, .int .i64 0, .int .i64 0, .slice none 0 0, .slice none 0 0, .slice none 0 0] 58)
 go_enter Tryz.func58,Tryz.ntmps58
 by_cases hl:65536<l.length
 ·have hl2:decide ((65536:Int) <l.length)=true:=by simp;omega
  go_wp2_with (refine wpList_store_row rfl _ _ _ rfl w.heap.size _ rfl rfl _ _ X0.out Kq9 rfl Oc ?_)
  refine bodyPost_ret (bq4 rfl rfl rfl rfl (X0.out.row [.int .i64 0, .int .i64 0, .slice none 0 0, .int .i64 0, .int .i64 0, .int .i64 0, .slice none 0 0, .slice none 0 0, .slice none 0 0]) rfl rfl Kq9) rfl ?_
  exact⟨gqF (Rf9.alloc Nr _) _ _ Nr, .inl ⟨_,by unfold bq6;rw [if_pos hl], [.int .i64 0, .int .i64 0, .slice none 0 0, .int .i64 0, .int .i64 0, .int .i64 0, .slice none 0 0, .slice none 0 0, .slice none 0 0],0,2,rfl,by simp [Value.oneCell'],rfl,by decide,by decide⟩⟩
 have hl2:decide ((65536:Int) <l.length)=false:=by simp;omega
 go_upto_region 4 with fail
 obtain⟨w2,hw2⟩: ∃w2,w2=((w.alloc (.cells #[.int .i64 0, .int .i64 0, .slice none 0 0, .int .i64 0, .int .i64 0, .int .i64 0, .slice none 0 0, .slice none 0 0, .slice none 0 0] 58)).alloc (.cells #[.slice A l.length cap, .int .i64 0, .int .i64 0, .int .i64 0, .int .i64 4611686018427387904, .int .i64 0, .int .i64 0, .int .i64 0, .slice none 0 0, .int .i64 0, .int .i64 0, .int .i64 0, .slice none 0 0, .slice none 0 0, .slice none 0 0] 161)):=⟨_,rfl⟩
 rw [←hw2]
 obtain⟨R,hR⟩: ∃R,R=w.heap.size+1:=⟨_,rfl⟩
 rw [←hR]
 have hz2:w2.heap.size=R+1:=by rw [hw2,hR];simp
 have XR:=show Bx w2 R [.slice A l.length cap, .int .i64 0, .int .i64 0, .int .i64 0, .int .i64 4611686018427387904, .int .i64 0, .int .i64 0, .int .i64 0, .slice none 0 0, .int .i64 0, .int .i64 0, .int .i64 0, .slice none 0 0, .slice none 0 0, .slice none 0 0] 161 by rw [hw2,hR];exact aqh _ _ _ _ Sp
 have XC:=Hq (show Bx w2 w.heap.size [.int .i64 0, .int .i64 0, .slice none 0 0, .int .i64 0, .int .i64 0, .int .i64 0, .slice none 0 0, .slice none 0 0, .slice none 0 0] 58 by rw [hw2];exact X0.out.below (Rf9.alloc Nr _) Sp)
 have BB:=Hq (show Below w.heap.size w w2 by rw [hw2];exact(Rf9.alloc Nr _).alloc Sp _)
 have HS0:=Hq (show At3 w2 R A cap l [] (some ⟨0,4611686018427387904,0, []⟩) from⟨0,4611686018427387904,0,0,0,⟨rfl,rfl,rfl,rfl⟩,(fun s e=>by injection e with e;subst e;rfl),XR.cell 0 rfl,XR.cell 1 rfl,XR.cell 2 rfl,XR.cell 3 rfl,XR.cell 4 rfl,XR.cell 5 rfl,fun o=>XR.frozen o,HRD.out.below BB.out,fun a ha=>by have:=HAA.out a ha;omega,by omega,by omega,by omega,by omega,by omega⟩)
 have CL0:=Hq (show Cl3 w2 R [.int .i64 0, .int .i64 0, .slice none 0 0, .int .i64 0, .int .i64 0, .int .i64 0, .slice none 0 0, .slice none 0 0, .slice none 0 0] from fun j u hu=>by
  refine XR.cell (6+j) ?_
  rw [Nat.add_comm]
  exact hu)
 have HT:=Hq (show∃x0:Rz,At3 w2 R A cap l [] x0∧(match bq6 l with| .error _=>none| .ok c=>some c)=((x0.go fun s=> (bqP l s).o).map (·.1)) by
  refine⟨_,HS0.out, ?_⟩
  unfold bq6
  rw [if_neg hl]
  show _=((bqP l ⟨0,4611686018427387904,0, []⟩).o.map (·.1))
  cases bqP l ⟨0,4611686018427387904,0, []⟩ <;>rfl)
 clear HS0
 obtain⟨x0,hs0,ht0⟩:=HT.out
 have HS0:=Hq hs0
 have HT0:=Hq ht0
 have hRw:R<w2.heap.size:=by omega
 have hwR:w.heap.size<R:=by omega
 clear hw2 XR X0 HRD HAA hs0 ht0 HT hz2 hR
 go_upto_region 5 with(go_at_call 77;refine(aqu R A cap 4 l [] x0 _ HS0.out Om).mono ?_;rintro e1 w1 ⟨a1,x1,v1,rfl,⟨rfl,ha1⟩,hi,hm,hs⟩;have HI1:=Hq hi;have HM1:=Hq hm;have HS1:=Hq hs;clear hi hm hs)
 have HE1:=Hq (show(x0.go fun s=> (bqP l s).o)=_ by simp only [nql];exact HI1.out.step _)
 obtain⟨bM,hbM⟩: ∃b:Bool,b=(x1.isSome&&decide (a1≠3405691582)):=⟨_,rfl⟩
 have HBM:=Hq hbM
 clear hbM
 have fz1:=HS1.out.fz
 go_cut [30] (fun v wx=>v= .bool bM∧wx=w1)
 case first=>
  as_aux_lemma=>
   rcases x1 with _|s1
   ·obtain⟨e2,d2,T1,T2,_⟩:=HS1.out.e2
    obtain rfl:bM=false:=HBM.out
    go_wp2_with fail
    go_meet
    exact⟨rfl,rfl⟩
   have d2:=HS1.out.c2
   by_cases hq:a1=3405691582
   ·have ht:((a1:Int) !=3405691582)=false:=by simp;omega
    obtain rfl:bM=false:=HBM.out.trans (by simp [hq])
    clear hq
    go_wp2_with fail
    go_meet
    exact⟨rfl,rfl⟩
   have ht:((a1:Int) !=3405691582)=true:=by simp;omega
   obtain rfl:bM=true:=HBM.out.trans (by simp [hq])
   clear hq
   go_wp2_with fail
   go_meet
   exact⟨rfl,rfl⟩
 case rest=>
 obtain⟨rfl,rfl⟩:=hcut
 go_upto_if 30 with fail
 go_cut [] (fun wc=>Hid (∃x':Rz,(x0.go fun s=> (bqP l s).o)=x'.go (oqp l)∧At3 wc R A cap l [] x'∧Cl3 wc R gq5∧Below R w2 wc))
 case first=>
  as_aux_lemma=>
   cases bM
   ·go_wp2_with fail
    go_meet
    refine Hq ⟨x1,HE1.out.trans ?_,HS1.out,CL0.out.mv HM1.out,HM1.out.low hRw⟩
    cases x1 with
    |none=>rfl
    |some s1=>exact if_neg (by have:=HBM.out;simpa using this)
   go_wp2_with (go_at_call 78;refine(aq4 R A cap 0 11 l [] x1 _ HS1.out Om).mono ?_;rintro e3 w3 ⟨rfl,hm,hs⟩;have HM3:=Hq hm;have HS3:=Hq hs;clear hm hs)
   go_meet
   refine Hq ⟨none,HE1.out.trans ?_,HS3.out,CL0.out.mv (HM1.out.trans HM3.out),(HM1.out.trans HM3.out).low hRw⟩
   cases x1 with
   |none=>rfl
   |some s1=>exact if_pos (by have:=HBM.out;simpa using this)
 case rest=>
 obtain⟨x2,he,hs,hcl,hb⟩:=hcut.out
 have HE2:=Hq he
 have HS2:=Hq hs
 have CL2:=Hq hcl
 have BR2:=Hq hb
 have hRc:R<wc.heap.size:=hs.lt
 clear he hs hcl hb hcut HE1 HI1 HM1 HS1 CL0 fz1 HBM HS0
 go_upto_region 11 with(first
  | (go_at_call 77;refine(aqu R A cap 2 l [] x4 _ HS4.out Om).mono ?_;rintro e5 w5 ⟨a5,x5,v5,rfl,⟨rfl,ha5⟩,hi,hm,hs⟩;have HI5:=Hq hi;have HM5:=Hq hm;have HS5:=Hq hs;clear hi hm hs)
  | (go_at_call 77;refine(aqu R A cap 2 l [] x3 _ HS3.out Om).mono ?_;rintro e4 w4 ⟨a4,x4,v4,rfl,⟨rfl,ha4⟩,hi,hm,hs⟩;have HI4:=Hq hi;have HM4:=Hq hm;have cl:=CL3.out.mv hm;have yy:=cl 1 _ rfl;have zz:=hs.fz;have HS4:=Hq (hs.far ⟨R,6+1,none⟩ (.int .i64 a4) (.inr ⟨rfl,by simp⟩));have CL4:=Hq (cl.set 1 (.int .i64 a4) yy);obtain⟨p4,dd1,_⟩:=hs.c1;clear hi hm hs cl)
  | (go_at_call 77;refine(aqu R A cap 2 l [] x2 _ HS2.out Om).mono ?_;rintro e3 w3 ⟨a3,x3,v3,rfl,⟨rfl,ha3⟩,hi,hm,hs⟩;have HI3:=Hq hi;have HM3:=Hq hm;have cl:=CL2.out.mv hm;have yy:=cl 0 _ rfl;have zz:=hs.fz;have HS3:=Hq (hs.far ⟨R,6+0,none⟩ (.int .i64 a3) (.inr ⟨rfl,by simp⟩));have CL3:=Hq (cl.set 0 (.int .i64 a3) yy);clear hi hm hs cl))
 have HE5:=Hq (((HE2.out.trans (HI3.out.step _)).trans (HI4.out.step _)).trans (HI5.out.step _))
 have CL5:=Hq (CL4.out.mv HM5.out)
 have BR5:=Hq (((((BR2.out.trans (HM3.out.low hRc)).trans (fq0 _ _ _)).trans (HM4.out.low (by have:=HM3.out.size;simp;omega))).trans (fq0 _ _ _)).trans (HM5.out.low (by have:=HM3.out.size;have:=HM4.out.size;simp at*;omega)))
 have hR5:=HS5.out.lt
 obtain⟨bN,hbN⟩: ∃b:Bool,b=(x5.isSome&&decide (a5=0)):=⟨_,rfl⟩
 have HBN:=Hq hbN
 have fz5:=HS5.out.fz
 clear hbN HE2 HI3 HI4 HI5 HM3 HM4 HM5 HS2 HS3 HS4 CL2 CL3 CL4 BR2
 go_cut [59] (fun v wx=>v= .bool bN∧wx=w5)
 case first=>
  as_aux_lemma=>
   rcases x5 with _|s5
   ·obtain⟨e2,d2,T1,T2,_⟩:=HS5.out.e2
    obtain rfl:bN=false:=HBN.out
    go_wp2_with fail
    go_meet
    exact⟨rfl,rfl⟩
   have d2:=HS5.out.c2
   by_cases hq:a5=0
   ·have ht:((a5:Int)==0)=true:=by simp [hq]
    obtain rfl:bN=true:=HBN.out.trans (by simp [hq])
    clear hq
    go_wp2_with fail
    go_meet
    exact⟨rfl,rfl⟩
   have ht:((a5:Int)==0)=false:=by simpa using hq
   obtain rfl:bN=false:=HBN.out.trans (by simp [hq])
   clear hq
   go_wp2_with fail
   go_meet
   exact⟨rfl,rfl⟩
 case rest=>
 obtain⟨rfl,rfl⟩:=hcut
 go_upto_if 59 with fail
 go_cut [] (fun wc=>Hid (∃x':Rz,(x0.go fun s=> (bqP l s).o)=x'.go (hqV l a3 a4 a5)∧(∀s,x'=some s→a5≠0)∧At3 wc R A cap l [] x'∧Cl3 wc R [.int .i64 a3, .int .i64 a4, .slice none 0 0, .int .i64 0, .int .i64 0, .int .i64 0, .slice none 0 0, .slice none 0 0, .slice none 0 0]∧Below R w2 wc))
 case first=>
  as_aux_lemma=>
   cases bN
   ·go_wp2_with fail
    go_meet
    refine Hq ⟨x5,HE5.out, ?_,HS5.out,CL5.out,BR5.out⟩
    rintro s rfl e
    have:=HBN.out
    simp [e] at this
   go_wp2_with (go_at_call 78;refine(aq4 R A cap p4 20 l [] x5 _ HS5.out Om).mono ?_;rintro e3 w3 ⟨rfl,hm,hs⟩;have HM3:=Hq hm;have HS3:=Hq hs;clear hm hs)
   go_meet
   refine Hq ⟨none,HE5.out.trans ?_,nofun,HS3.out,CL5.out.mv HM3.out,BR5.out.trans (HM3.out.low hR5)⟩
   cases x5 with
   |none=>rfl
   |some s1=>
    have e:a5=0:=by have:=HBN.out;simpa using this
    show hqV l a3 a4 a5 s1=none
    unfold hqV
    rw [e]
    rfl
 case rest=>
 obtain⟨x6,he,hne,hs,hcl,hb⟩:=hcut.out
 have HE6:=Hq he
 have HN6:=Hq hne
 have HS6:=Hq hs
 have CL6:=Hq hcl
 have BR6:=Hq hb
 have hR6:R<wc.heap.size:=hs.lt
 clear he hne hs hcl hb hcut HE5 HS5 CL5 BR5 fz5 HBN hR5 hRc
 go_upto_if 64 with fail
 go_cut [] (fun wd=>Hid (∃x':Rz,(x0.go fun s=> (bqP l s).o)=x'.go (fun s3=> (bqO (koP l) (a5 - 1) s3).o.go fun pool s=>nqk l a3 a4 pool (plS pool s))∧(∀s,x'=some s→a5≠0∧a5≤1025)∧At3 wd R A cap l [] x'∧Cl3 wd R [.int .i64 a3, .int .i64 a4, .slice none 0 0, .int .i64 0, .int .i64 0, .int .i64 0, .slice none 0 0, .slice none 0 0, .slice none 0 0]∧Below R w2 wd))
 case first=>
  as_aux_lemma=>
   by_cases hq:1025<a5
   ·have ht:decide ((1025:Int) <a5)=true:=by simp;omega
    go_wp2_with (go_at_call 78;refine(aq4 R A cap p4 2 l [] x6 _ HS6.out Om).mono ?_;rintro e3 w3 ⟨rfl,hm,hs⟩;have HM3:=Hq hm;have HS3:=Hq hs;clear hm hs)
    go_meet
    refine Hq ⟨none,HE6.out.trans ?_,nofun,HS3.out,CL6.out.mv HM3.out,BR6.out.trans (HM3.out.low hR6)⟩
    unfold hqV
    simp only [if_pos hq]
    exact gq1 _
   have ht:decide ((1025:Int) <a5)=false:=by simp;omega
   go_wp2_with fail
   go_meet
   refine Hq ⟨x6,HE6.out.trans ?_,fun s h=> ⟨HN6.out s h,by omega⟩,HS6.out,CL6.out,BR6.out⟩
   cases x6 with
   |none=>rfl
   |some s=>
    show hqV l a3 a4 a5 s=_
    unfold hqV
    rw [if_neg hq,if_neg (HN6.out s rfl)]
    rfl
 case rest=>
 obtain⟨x7,he,hne,hs,hcl,hb⟩:=hcut.out
 have HE7:=Hq he
 have HN7:=Hq hne
 have HS7:=Hq hs
 have CL7:=Hq hcl
 have BR7:=Hq hb
 have hR7:R<wc.heap.size:=hs.lt
 clear he hne hs hcl hb hcut HE6 HS6 CL6 BR6 HN6 hR6
 go_upto_block 0 with fail
 go_cut [9] (fun vi wx=>Hid (∃(L:List Ko) (xb:Rz),Is3 (bqO (koP l) (a5 - 1)) x7 L xb∧At3 wx R A cap l [] xb∧gqD wx R wc.heap.size 8 78 5 L.length (L.flatMap Ko.cells)∧L.length≤1024∧Fr R wc.heap.size 8 wc wx))
 case first=>
  as_aux_lemma=>
   go_wp2_with fail
   go_loopw [9] (fun vi wr=> ∃(L:List Ko) (xr:Rz),vi= .int .i64 ((L.length:Int)+1)∧Hid (L.length≤1024)∧Hid ((x7.go fun s=> (bqO (koP l) (a5 - 1) s).o)=xr.go fun s=> (Rx.pre L (bqO (koP l) ((a5 - 1) - L.length) s)).o)∧Hid (∀s,xr=some s→a5≠0∧a5≤1025)∧Hid (At3 wr R A cap l [] xr)∧Hid (gqD wr R wc.heap.size 8 78 5 L.length (L.flatMap Ko.cells))∧Hid (Fr R wc.heap.size 8 wc wr)) (fun vi _=>a5 - (RowKit.intOf vi).toNat)
   case atStart=>exact⟨[],x7,by simp,Hq Sp,Hq (dq4 _ _ _),HN7,HS7,Hq ⟨_,CL7.out 2 _ rfl,World.ownsRow_nil _ _ _ _⟩,Hq (Fr.refl _ _ _ _)⟩
   case round=>
    obtain⟨L,xr,rfl,HL,HE,HN,HS,HR,HF⟩:=hrel
    have fzr:=HS.out.fz
    have hzr:=HF.out.but.size
    have FIN:=Hq (show(a5 - 1) - L.length=0∨xr=none→Hid (∃(L:List Ko) (xb:Rz),Is3 (bqO (koP l) (a5 - 1)) x7 L xb∧At3 wr R A cap l [] xb∧gqD wr R wc.heap.size 8 78 5 L.length (L.flatMap Ko.cells)∧L.length≤1024∧Fr R wc.heap.size 8 wc wr) from fun h=>Hq ⟨L,xr,HE.out.trans (fqZ _ _ _ _ h),HS.out,HR.out,HL.out,HF.out⟩)
    by_cases hlt:L.length+1<a5
    ·have ht:decide ((L.length:Int)+1<a5)=true:=by simp;omega
     rcases xr with _|s
     ·obtain⟨e2,d2,T1,T2,_⟩:=HS.out.e2
      have FF:=Hq (FIN.out (.inr rfl))
      clear FIN
      go_wp2_with fail
      go_meet
      exact FF.out
     have d2:=HS.out.c2
     obtain⟨m,hm⟩: ∃m,(a5 - 1) - L.length=m+1:=⟨(a5 - 1) - L.length - 1,by omega⟩
     rw [hm] at HE
     have hm2:m=(a5 - 1) - (L.length+1):=by omega
     clear hm FIN
     have hLb:=HL.out
     have hNN:=HN.out s rfl
     go_wp2_with (go_at_call 79;refine(gq3 R wc.heap.size A cap l [] (some s) L _ HS.out hzr hR7 HR.out Om).mono ?_;rintro e3 w3 ⟨q,x',rfl,hi,hs,hr,hf⟩;have HI:=Hq hi;have HS':=Hq hs;have HR':=Hq hr;have HF':=Hq hf;clear hi hs hr hf)
     all_goals
      go_roundw
      case rel=>exact⟨L++ [q],x',by have e:((L++ [q]).length:Int)=L.length+1:=Sp;rw [e],Hq Sd,Hq (HE.out.trans ((dq5 HI.out m _).trans (by rw [hm2];simp))),Hq (HI.out.up HN.out),HS',HR',Hq (HF.out.trans HF'.out)⟩
      case measure=>simp [RowKit.intOf];omega
    have ht:decide ((L.length:Int)+1<a5)=false:=by simp;omega
    have FF:=Hq (FIN.out (.inl Om))
    clear FIN
    go_wp2_with fail
    go_meet
    exact FF.out
 case rest=>
 obtain⟨pool,x8,hi,hs,hr,hpl,hf⟩:=hcut.out
 obtain⟨pv,c8,ho⟩:=hr
 have HE8:=Hq ((HE7.out.trans (hi.step _)).trans (nqV x8 (plS pool) fun s=>nqk l a3 a4 pool s).symm)
 have HS8:=Hq (hs.plS pool)
 have CL8:=Hq (CL7.out.fr (j:=2) hf c8)
 have BR8:=Hq (BR7.out.trans (hf.below hR7))
 have SP8:=Hq (aqs ho (fun g=>R<g) Om Om fun g hg=>by have:=(ho.lt g hg).1;omega)
 have PL8:=Hq (show Pl3 wc R wc.heap.size pool from⟨pv,c8,aqs ho _ Om Om fun g hg=>by have:=ho.lt g hg;omega⟩)
 have hR8:R<wc.heap.size:=hs.lt
 obtain⟨lo,hlo⟩: ∃lo,wc.heap.size=lo:=⟨_,rfl⟩
 rw [hlo] at PL8
 have hlo2:lo≤wc.heap.size:=by omega
 clear hi hs hpl hf hcut c8 ho HE7 HS7 CL7 BR7 HN7 hR7 hlo
 generalize Option.map (plS pool) x8=y8 at HS8 HE8
 go_upto_block 2 with(first
  | (go_at_call 80;refine(eqg R A cap 64 l pool x11 _ HS11.out Om).mono ?_;rintro e12 w12 ⟨a12,x12,v12,rfl,⟨rfl,ha12⟩,hi,hm,hs⟩;have HI12:=Hq hi;have HM12:=Hq hm;have HS12:=Hq hs;clear hi hm hs)
  | (go_at_call 77;refine(aqu R A cap 2 l pool x10 _ HS10.out Om).mono ?_;rintro e11 w11 ⟨a11,x11,v11,rfl,⟨rfl,ha11⟩,hi,hm,hs⟩;have HI11:=Hq hi;have HM11:=Hq hm;have cl:=CL10.out.mv hm;have yy:=cl 5 _ rfl;have zz:=hs.fz;have HS11:=Hq (hs.far ⟨R,6+5,none⟩ (.int .i64 a11) (.inr ⟨rfl,by simp⟩));have CL11:=Hq (cl.set 5 (.int .i64 a11) yy);clear hi hm hs cl)
  | (go_at_call 77;refine(aqu R A cap 2 l pool x9 _ HS9.out Om).mono ?_;rintro e10 w10 ⟨a10,x10,v10,rfl,⟨rfl,ha10⟩,hi,hm,hs⟩;have HI10:=Hq hi;have HM10:=Hq hm;have cl:=CL9.out.mv hm;have yy:=cl 4 _ rfl;have zz:=hs.fz;have HS10:=Hq (hs.far ⟨R,6+4,none⟩ (.int .i64 a10) (.inr ⟨rfl,by simp⟩));have CL10:=Hq (cl.set 4 (.int .i64 a10) yy);clear hi hm hs cl)
  | (go_at_call 77;refine(aqu R A cap 2 l pool y8 _ HS8.out Om).mono ?_;rintro e9 w9 ⟨a9,x9,v9,rfl,⟨rfl,ha9⟩,hi,hm,hs⟩;have HI9:=Hq hi;have HM9:=Hq hm;have cl:=CL8.out.mv hm;have yy:=cl 3 _ rfl;have zz:=hs.fz;have HS9:=Hq (hs.far ⟨R,6+3,none⟩ (.int .i64 a9) (.inr ⟨rfl,by simp⟩));have CL9:=Hq (cl.set 3 (.int .i64 a9) yy);clear hi hm hs cl))
 have HE12:=Hq ((((HE8.out.trans (HI9.out.step _)).trans (HI10.out.step _)).trans (HI11.out.step _)).trans (HI12.out.step _))
 have hs9:=HM9.out.size
 have hs10:=HM10.out.size
 have hs11:=HM11.out.size
 have hs12:=HM12.out.size
 simp only [World.size_setCell] at hs9 hs10 hs11 hs12
 have BR12:=Hq (((((((BR8.out.trans (HM9.out.low hR8)).trans (fq0 _ 9 (.int .i64 a9))).trans (HM10.out.low Sd)).trans (fq0 _ 10 (.int .i64 a10))).trans (HM11.out.low Sd)).trans (fq0 _ 11 (.int .i64 a11))).trans (HM12.out.low Sd))
 have MM:=show∀(Q:World→Prop),(∀a b,Mv R a b→Q a→Q b)→(∀(a:World) o v,8<o→Q a→Q (a.setCell ⟨R,o,none⟩ v))→Q wc→Q w12 from fun Q h1 h2 h=>h1 _ _ HM12.out (h2 _ _ _ Om (h1 _ _ HM11.out (h2 _ _ _ Om (h1 _ _ HM10.out (h2 _ _ _ Om (h1 _ _ HM9.out h))))))
 have SP12:=Hq (MM (fun W=>bqm W (fun g=>R<g) 5 pool.length (pool.flatMap Ko.cells) pv) (fun a b m h=>dqK h m) (fun a o v _ h=>oqq h o v) SP8.out)
 have PL12:=Hq (MM (fun W=>Pl3 W R lo pool) (fun a b m h=>h.mv m) (fun a o v ho h=>h.set o v ho) PL8.out)
 have CL12:=Hq (CL11.out.mv HM12.out)
 have hR12:=HS12.out.lt
 have hlo12:lo≤w12.heap.size:=by omega
 clear MM HE8 HI9 HI10 HI11 HI12 HM9 HM10 HM11 HM12 HS8 HS9 HS10 HS11 CL8 CL9 CL10 CL11 SP8 PL8 BR8 hs9 hs10 hs11 hs12 hR8 hlo2
 go_cut [10] (fun vi wx=>Hid (∃(L:List Nat) (xb:Rz),Is3 (bqO (aqS l 2) a12) x12 L xb∧At3 wx R A cap l pool xb∧gqD wx R w12.heap.size 12 3 1 L.length (L.map fun n:Nat=>Value.int .i64 n)∧L.length≤64∧Fr R w12.heap.size 12 w12 wx))
 case first=>
  as_aux_lemma=>
   go_wp2_with fail
   go_loopw [10] (fun vi wr=> ∃(L:List Nat) (xr:Rz),vi= .int .i64 ((L.length:Int))∧Hid (L.length≤64)∧Hid ((x12.go fun s=> (bqO (aqS l 2) a12 s).o)=xr.go fun s=> (Rx.pre L (bqO (aqS l 2) (a12 - L.length) s)).o)∧Hid (∀s,xr=some s→True)∧Hid (At3 wr R A cap l pool xr)∧Hid (gqD wr R w12.heap.size 12 3 1 L.length (L.map fun n:Nat=>Value.int .i64 n))∧Hid (Fr R w12.heap.size 12 w12 wr)) (fun vi _=>a12 - (RowKit.intOf vi).toNat)
   case atStart=>exact⟨[],x12,rfl,Hq Sp,Hq (dq4 _ _ _),Hq (fun _ _=>trivial),HS12,Hq ⟨_,CL12.out 6 _ rfl,World.ownsRow_nil _ _ _ _⟩,Hq (Fr.refl _ _ _ _)⟩
   case round=>
    obtain⟨L,xr,rfl,HL,HE,HN,HS,HR,HF⟩:=hrel
    have fzr:=HS.out.fz
    have hzr:=HF.out.but.size
    have FIN:=Hq (show a12 - L.length=0∨xr=none→Hid (∃(L:List Nat) (xb:Rz),Is3 (bqO (aqS l 2) a12) x12 L xb∧At3 wr R A cap l pool xb∧gqD wr R w12.heap.size 12 3 1 L.length (L.map fun n:Nat=>Value.int .i64 n)∧L.length≤64∧Fr R w12.heap.size 12 w12 wr) from fun h=>Hq ⟨L,xr,HE.out.trans (fqZ _ _ _ _ h),HS.out,HR.out,HL.out,HF.out⟩)
    by_cases hlt:L.length<a12
    ·have ht:decide ((L.length:Int) <a12)=true:=by simp;omega
     rcases xr with _|s
     ·obtain⟨e2,d2,T1,T2,_⟩:=HS.out.e2
      have FF:=Hq (FIN.out (.inr rfl))
      clear FIN
      go_wp2_with fail
      go_meet
      exact FF.out
     have d2:=HS.out.c2
     obtain⟨m,hm⟩: ∃m,a12 - L.length=m+1:=⟨a12 - L.length - 1,by omega⟩
     rw [hm] at HE
     have hm2:m=a12 - (L.length+1):=by omega
     clear hm FIN
     have hLb:=HL.out
     have hNN:=HN.out s rfl
     obtain⟨tv,c12,ho⟩:=HR.out
     obtain⟨At,ct,rfl⟩:=aq7 ho
     have HO:=Hq ho
     have hRr:R<wr.heap.size:=by omega
     clear ho
     go_upto_region 26 with fail
     go_region_law (first
      | (go_simp;go_at_call 77;refine(aqu R A cap 2 l pool (some s) _ (by first|exact HS.out.drew|exact HS.out) Om).mono ?_;rintro e13 w13 ⟨q,x',v13,rfl,⟨rfl,hb13⟩,hi,hm,hs⟩;have HI:=Hq hi;have HM13:=Hq hm;have HS13:=Hq hs;have y12:=(hm.2 12 Om).trans c12;have z12:=hs.fz;have hs13:=hm.size;simp only [World.size_drew] at hs13;have hR13:R<w13.heap.size:=Om;have hN13: ¬R=w13.heap.size:=Om;clear hi hm hs;dsimp only)
      | (refine aq6 rfl (.tmp 119) (.tmp 122) 54 rfl Tryz.underlying54 gqK rfl Om w12.heap.size rfl ((HM13.out.own (aqj HO.out (fun _ _=>rfl)) hR12).alloc _) rfl rfl (aqm _ _ _ _ (by first|rfl|omega| (simp<;>omega))) Oc Om Mz Om Sd ?_
         intro g6 cap6 W' ho hg hb hgg
         have d12:=(hb.cell (p:=⟨R,12,none⟩) hR12).trans ((((Below.refl w13.heap.size w13).alloc Nr _).cell (p:=⟨R,12,none⟩) hR13).trans y12)
         have f12:=(hb.frozen (p:=⟨R,12,none⟩) hR12).trans ((((Below.refl w13.heap.size w13).alloc Nr _).frozen (p:=⟨R,12,none⟩) hR13).trans (z12 12))
         have HO6:=Hq ho
         have HB6:=Hq hb
         clear ho hg hb hgg))
     all_goals
      go_wp2_with fail
      have HS':=Hq (((HS13.out.alloc (.cells #[.int .i64 q] 3)).low HB6.out hR12).far ⟨R,12,none⟩ (.slice (some ⟨g6,0,none⟩) (L.length+1) cap6) (.inr ⟨rfl,by simp⟩))
      have HR':=Hq (show gqD (W'.setCell ⟨R,12,none⟩ (.slice (some ⟨g6,0,none⟩) (L.length+1) cap6)) R w12.heap.size 12 3 1 (L++ [q]).length ((L++ [q]).map fun n:Nat=>Value.int .i64 n) from⟨_,World.cell?_setCell_same _ _ _ d12,aqF (aqj HO6.out fun g hg=>Below.heap_setCell _ _ _ _ (fun e=>by have:=(HO6.out.lt g hg).1;simp at e;omega)) Sp Sp⟩)
      have HF':=Hq ((((((Fr.refl R w12.heap.size 12 wr).low hR12 Rf9.drew).mv HM13.out hzr).low hR12 ((Below.refl _ w13).alloc Om (.cells #[.int .i64 q] 3))).low hR12 HB6.out).cell (.slice (some ⟨g6,0,none⟩) (L.length+1) cap6))
     all_goals
      go_roundw
      case rel=>exact⟨L++ [q],x',by have e:((L++ [q]).length:Int)=L.length+1:=Sp;rw [e],Hq Sd,Hq (HE.out.trans ((dq5 HI.out m _).trans (by rw [hm2];simp))),Hq (HI.out.up HN.out),HS',HR',Hq (HF.out.trans HF'.out)⟩
      case measure=>simp [RowKit.intOf];omega
    have ht:decide ((L.length:Int) <a12)=false:=by simp;omega
    have FF:=Hq (FIN.out (.inl Om))
    clear FIN
    go_wp2_with fail
    go_meet
    exact FF.out
 case rest=>
 obtain⟨is,x13,hi,hs,hr,hil,hf⟩:=hcut.out
 obtain⟨iv,ci,ho⟩:=hr
 have HE13:=Hq ((HE12.out.trans (hi.step _)).trans (show _=(x13.go fun s=> (bqo l 64 s).o.go fun n s'=> (bqO (bqY l) n s').o.go fun fs s=> (mqy l a3 a4 pool a9 a10 a11 is fs s).o) by simp only [oqS]))
 have HS13:=Hq hs
 have CL13:=Hq (CL12.out.fr (j:=6) hf ci)
 have BR13:=Hq (BR12.out.trans (hf.below hR12))
 have PL13:=Hq (PL12.out.fr hf Om hlo12)
 have SX13:=Hq (aqs ho (fun g=>R<g) Om Om fun g hg=>by have:=(ho.lt g hg).1;omega)
 have hR13:R<wc.heap.size:=hs.lt
 have hzf:=hf.but.size
 have SP13:=Hq (gqE SP12.out hf Nr)
 clear hi hs hil hf hcut ci ho HE12 HS12 CL12 BR12 PL12 hR12 SP12
 go_upto_block 4 with(go_at_call 80;refine(eqg R A cap 64 l pool x13 _ HS13.out Om).mono ?_;rintro e14 w14 ⟨a14,x14,v14,rfl,⟨rfl,ha14⟩,hi,hm,hs⟩;have HI14:=Hq hi;have HM14:=Hq hm;have HS14:=Hq hs;clear hi hm hs)
 have hsk:=HM14.out.size
 have hlo14:lo≤w14.heap.size:=by omega
 have HE14:=Hq (HE13.out.trans (HI14.out.step _))
 have CL14:=Hq (CL13.out.mv HM14.out)
 have BR14:=Hq (BR13.out.trans (HM14.out.low hR13))
 have PL14:=Hq (PL13.out.mv HM14.out)
 have SI14:=Hq (dqK SX13.out HM14.out)
 have hR14:=HS14.out.lt
 have SP14:=Hq (dqK SP13.out HM14.out)
 clear HE13 CL13 BR13 PL13 SX13 hR13 HI14 HM14 HS13 hsk hzf hlo12 SP13
 go_cut [11] (fun vi wx=>Hid (∃(L:List aqq) (xb:Rz),Is3 (bqO (bqY l) a14) x14 L xb∧At3 wx R A cap l pool xb∧gqD wx R w14.heap.size 13 119 4 L.length (L.flatMap aqq.cells)∧L.length≤64∧Fr R w14.heap.size 13 w14 wx))
 case first=>
  as_aux_lemma=>
   go_wp2_with fail
   go_loopw [11] (fun vi wr=> ∃(L:List aqq) (xr:Rz),vi= .int .i64 ((L.length:Int))∧Hid (L.length≤64)∧Hid ((x14.go fun s=> (bqO (bqY l) a14 s).o)=xr.go fun s=> (Rx.pre L (bqO (bqY l) (a14 - L.length) s)).o)∧Hid (∀s,xr=some s→True)∧Hid (At3 wr R A cap l pool xr)∧Hid (gqD wr R w14.heap.size 13 119 4 L.length (L.flatMap aqq.cells))∧Hid (Fr R w14.heap.size 13 w14 wr)) (fun vi _=>a14 - (RowKit.intOf vi).toNat)
   case atStart=>exact⟨[],x14,rfl,Hq Sp,Hq (dq4 _ _ _),Hq (fun _ _=>trivial),HS14,Hq ⟨_,CL14.out 7 _ rfl,World.ownsRow_nil _ _ _ _⟩,Hq (Fr.refl _ _ _ _)⟩
   case round=>
    obtain⟨L,xr,rfl,HL,HE,HN,HS,HR,HF⟩:=hrel
    have fzr:=HS.out.fz
    have hzr:=HF.out.but.size
    have FIN:=Hq (show a14 - L.length=0∨xr=none→Hid (∃(L:List aqq) (xb:Rz),Is3 (bqO (bqY l) a14) x14 L xb∧At3 wr R A cap l pool xb∧gqD wr R w14.heap.size 13 119 4 L.length (L.flatMap aqq.cells)∧L.length≤64∧Fr R w14.heap.size 13 w14 wr) from fun h=>Hq ⟨L,xr,HE.out.trans (fqZ _ _ _ _ h),HS.out,HR.out,HL.out,HF.out⟩)
    by_cases hlt:L.length<a14
    ·have ht:decide ((L.length:Int) <a14)=true:=by simp;omega
     rcases xr with _|s
     ·obtain⟨e2,d2,T1,T2,_⟩:=HS.out.e2
      have FF:=Hq (FIN.out (.inr rfl))
      clear FIN
      go_wp2_with fail
      go_meet
      exact FF.out
     have d2:=HS.out.c2
     obtain⟨m,hm⟩: ∃m,a14 - L.length=m+1:=⟨a14 - L.length - 1,by omega⟩
     rw [hm] at HE
     have hm2:m=a14 - (L.length+1):=by omega
     clear hm FIN
     have hLb:=HL.out
     have hNN:=HN.out s rfl
     go_wp2_with (go_at_call 81;refine(kqt R lo w14.heap.size A cap l pool (some s) L _ HS.out (PL14.out.fr HF.out Om hlo14) hzr hR14 HR.out Om).mono ?_;rintro e3 w3 ⟨q,x',rfl,hi,hs,hr,hf⟩;have HI:=Hq hi;have HS':=Hq hs;have HR':=Hq hr;have HF':=Hq hf;clear hi hs hr hf)
     all_goals
      go_roundw
      case rel=>exact⟨L++ [q],x',by have e:((L++ [q]).length:Int)=L.length+1:=Sp;rw [e],Hq Sd,Hq (HE.out.trans ((dq5 HI.out m _).trans (by rw [hm2];simp))),Hq (HI.out.up HN.out),HS',HR',Hq (HF.out.trans HF'.out)⟩
      case measure=>simp [RowKit.intOf];omega
    have ht:decide ((L.length:Int) <a14)=false:=by simp;omega
    have FF:=Hq (FIN.out (.inl Om))
    clear FIN
    go_wp2_with fail
    go_meet
    exact FF.out
 case rest=>
 obtain⟨fs,x15,hi,hs,hr,hil,hf⟩:=hcut.out
 obtain⟨fv,ci,ho⟩:=hr
 have HE15:=Hq ((HE14.out.trans (hi.step _)).trans (show _=(x15.go fun s=> (bqo l 64 s).o.go fun n s'=> (bqO (cq5 l) n s').o.go fun ms s=> (mqx l a3 a4 pool a9 a10 a11 is fs ms s).o) by simp only [oqR]))
 have HS15:=Hq hs
 have CL15:=Hq (CL14.out.fr (j:=7) hf ci)
 have BR15:=Hq (BR14.out.trans (hf.below hR14))
 have PL15:=Hq (PL14.out.fr hf Om hlo14)
 have SX15:=Hq (aqs ho (fun g=>R<g) Om Om fun g hg=>by have:=(ho.lt g hg).1;omega)
 have hR15:R<wc.heap.size:=hs.lt
 have hzf:=hf.but.size
 have SP15:=Hq (gqE SP14.out hf Nr)
 have SI15:=Hq (gqE SI14.out hf Nr)
 clear hi hs hil hf hcut ci ho HE14 HS14 CL14 BR14 PL14 hR14 SP14 SI14
 go_upto_block 6 with(go_at_call 80;refine(eqg R A cap 64 l pool x15 _ HS15.out Om).mono ?_;rintro e16 w16 ⟨a16,x16,v16,rfl,⟨rfl,ha16⟩,hi,hm,hs⟩;have HI16:=Hq hi;have HM16:=Hq hm;have HS16:=Hq hs;clear hi hm hs)
 have hsk:=HM16.out.size
 have hlo16:lo≤w16.heap.size:=by omega
 have HE16:=Hq (HE15.out.trans (HI16.out.step _))
 have CL16:=Hq (CL15.out.mv HM16.out)
 have BR16:=Hq (BR15.out.trans (HM16.out.low hR15))
 have PL16:=Hq (PL15.out.mv HM16.out)
 have SF16:=Hq (dqK SX15.out HM16.out)
 have hR16:=HS16.out.lt
 have SP16:=Hq (dqK SP15.out HM16.out)
 have SI16:=Hq (dqK SI15.out HM16.out)
 clear HE15 CL15 BR15 PL15 SX15 hR15 HI16 HM16 HS15 hsk hzf hlo14 SP15 SI15
 go_cut [12] (fun vi wx=>Hid (∃(L:List (aqr×Value×Value)) (xb:Rz),Is3 (bqO (cq5 l) a16) x16 (L.map (·.1)) xb∧At3 wx R A cap l pool xb∧Ms3 wx R w16.heap.size L∧L.length≤64∧Fr R w16.heap.size 14 w16 wx))
 case first=>
  as_aux_lemma=>
   go_wp2_with fail
   go_loopw [12] (fun vi wr=> ∃(L:List (aqr×Value×Value)) (xr:Rz),vi= .int .i64 ((L.length:Int))∧Hid (L.length≤64)∧Hid ((x16.go fun s=> (bqO (cq5 l) a16 s).o)=xr.go fun s=> (Rx.pre (L.map (·.1)) (bqO (cq5 l) (a16 - L.length) s)).o)∧Hid (∀s,xr=some s→True)∧Hid (At3 wr R A cap l pool xr)∧Hid (Ms3 wr R w16.heap.size L)∧Hid (Fr R w16.heap.size 14 w16 wr)) (fun vi _=>a16 - (RowKit.intOf vi).toNat)
   case atStart=>exact⟨[],x16,rfl,Hq Sp,Hq (dq4 _ _ _),Hq (fun _ _=>trivial),HS16,Hq ⟨_,CL16.out 8 _ rfl,World.ownsRow_nil _ _ _ _,by simp⟩,Hq (Fr.refl _ _ _ _)⟩
   case round=>
    obtain⟨L,xr,rfl,HL,HE,HN,HS,HR,HF⟩:=hrel
    have fzr:=HS.out.fz
    have hzr:=HF.out.but.size
    have FIN:=Hq (show a16 - L.length=0∨xr=none→Hid (∃(L:List (aqr×Value×Value)) (xb:Rz),Is3 (bqO (cq5 l) a16) x16 (L.map (·.1)) xb∧At3 wr R A cap l pool xb∧Ms3 wr R w16.heap.size L∧L.length≤64∧Fr R w16.heap.size 14 w16 wr) from fun h=>Hq ⟨L,xr,HE.out.trans (fqZ _ _ _ _ h),HS.out,HR.out,HL.out,HF.out⟩)
    by_cases hlt:L.length<a16
    ·have ht:decide ((L.length:Int) <a16)=true:=by simp;omega
     rcases xr with _|s
     ·obtain⟨e2,d2,T1,T2,_⟩:=HS.out.e2
      have FF:=Hq (FIN.out (.inr rfl))
      clear FIN
      go_wp2_with fail
      go_meet
      exact FF.out
     have d2:=HS.out.c2
     obtain⟨m,hm⟩: ∃m,a16 - L.length=m+1:=⟨a16 - L.length - 1,by omega⟩
     rw [hm] at HE
     have hm2:m=a16 - (L.length+1):=by omega
     clear hm FIN
     have hLb:=HL.out
     have hNN:=HN.out s rfl
     go_wp2_with (go_at_call 82;refine(iq8 R lo w16.heap.size A cap l pool (some s) L _ HS.out (PL16.out.fr HF.out Om hlo16) hlo16 hzr hR16 HR.out Om).mono ?_;rintro e3 w3 ⟨q,x',rfl,hi,hs,hr,hf⟩;have HI:=Hq hi;have HS':=Hq hs;have HR':=Hq hr;have HF':=Hq hf;clear hi hs hr hf)
     all_goals
      go_roundw
      case rel=>exact⟨L++ [q],x',by have e:((L++ [q]).length:Int)=L.length+1:=Sp;rw [e],Hq Sd,Hq (HE.out.trans ((dq5 HI.out m _).trans (by rw [hm2];simp))),Hq (HI.out.up HN.out),HS',HR',Hq (HF.out.trans HF'.out)⟩
      case measure=>simp [RowKit.intOf];omega
    have ht:decide ((L.length:Int) <a16)=false:=by simp;omega
    have FF:=Hq (FIN.out (.inl Om))
    clear FIN
    go_wp2_with fail
    go_meet
    exact FF.out
 case rest=>
 obtain⟨ks,x17,hi,hs,hr,hil,hf⟩:=hcut.out
 obtain⟨mv,ci,ho,hks⟩:=hr
 have HE17:=Hq ((HE16.out.trans (hi.step _)).trans (show _=(x17.go fun s=> (eqj l s).o.go fun _ s'=>if s'.pos<l.length then none else some (⟨a3,a4,pool,a9,a10,a11,is.map Int.ofNat,fs,ks.map (·.1)⟩,s')) by simp only [oqQ]))
 have HS17:=Hq hs
 have CL17:=Hq (CL16.out.fr (j:=8) hf ci)
 have BR17:=Hq (BR16.out.trans (hf.below hR16))
 have PL17:=Hq (PL16.out.fr hf Om hlo16)
 have SX17:=Hq (aqs ho (fun g=>R<g) Om Om fun g hg=>by have:=(ho.lt g hg).1;omega)
 have hR17:R<wc.heap.size:=hs.lt
 have hzf:=hf.but.size
 have SP17:=Hq (gqE SP16.out hf Nr)
 have SI17:=Hq (gqE SI16.out hf Nr)
 have SF17:=Hq (gqE SF16.out hf Nr)
 have HK17:=Hq (show∀q∈ks,aqO wc (fun g=>R<g) q.1 q.2.1 q.2.2 from fun q hq=> ⟨(hks q hq).hcode.mono fun g _ h=>by omega,(hks q hq).htraps.mono fun g _ h=>by omega⟩)
 clear hks
 clear hi hs hil hf hcut ci ho HE16 HS16 CL16 BR16 PL16 hR16 SP16 SI16 SF16
 go_upto_region 38 with(go_at_call 83;refine(hqT R lo A cap l pool x17 _ HS17.out PL17.out).mono ?_;rintro e18 w18 ⟨x18,rfl,hi,hm,hs⟩;have HI18:=Hq hi;have HM18:=Hq hm;have HS18:=Hq hs;clear hi hm hs)
 have HE18:=Hq (HE17.out.trans (HI18.out.step _))
 have CL18:=Hq (CL17.out.mv HM18.out)
 have BR18:=Hq (BR17.out.trans (HM18.out.low hR17))
 have SP18:=Hq (dqK SP17.out HM18.out)
 have SI18:=Hq (dqK SI17.out HM18.out)
 have SF18:=Hq (dqK SF17.out HM18.out)
 have SM18:=Hq (dqK SX17.out HM18.out)
 have HK18:=Hq (show∀q∈ks,aqO w18 (fun g=>R<g) q.1 q.2.1 q.2.2 from fun q hq=> ⟨dqK (HK17.out q hq).hcode HM18.out,dqK (HK17.out q hq).htraps HM18.out⟩)
 have fz18:=HS18.out.fz
 have hR18:=HS18.out.lt
 clear HE17 CL17 BR17 SP17 SI17 SF17 SX17 HK17 HI18 HM18 HS17 PL17
 rcases x18 with _|s18
 ·obtain⟨p9,most9,nm9,e9,bad9,hr9,_,hs9⟩:=HS18.out
  have HR9:=Hq hr9
  have c2:=hs9.c2
  have c3:=hs9.c3
  have T2:((e9:Int) !=0)=true:=by simpa using hr9.1
  have T3:((e9:Int)==0)=false:=by simpa using hr9.1
  have ffz:=hs9.fz
  have XD:=Hq (XC.out.below BR18.out hwR)
  have k0:=XD.out.cell 0 rfl
  have k1:=XD.out.cell 1 rfl
  have k2:=XD.out.cell 2 rfl
  have k3:=XD.out.cell 3 rfl
  have k4:=XD.out.cell 4 rfl
  have k5:=XD.out.cell 5 rfl
  have k6:=XD.out.cell 6 rfl
  have k7:=XD.out.cell 7 rfl
  have k8:=XD.out.cell 8 rfl
  have kz:=fun o=>XD.out.frozen o
  have hne1: ¬R=w.heap.size:=by omega
  have hne2: ¬w.heap.size=R:=by omega
  clear hs9 hr9
  go_upto_region 41 with fail
  go_region_held2 (fun w'=>w'.cell? ⟨R,3,none⟩=some (.int .i64 bad9)∧w'.cell? ⟨R,2,none⟩=some (.int .i64 e9)) (go_keep) (fail)
  all_goals
   go_wp2_with fail
   refine bodyPost_ret (bq4 (x:= .int .i64 bad9) (y:= .int .i64 e9) rfl rfl rfl rfl (jqN (zs9 (show Bx w18 w.heap.size gq5 58 from XD.out))) rfl rfl Kq9) rfl ?_
   obtain⟨q,hq⟩:=nqW HT0.out (HE18.out)
   refine⟨?_, .inl ⟨q,hq,gq5,bad9,e9,rfl,by simp [gq5,Value.oneCell'],rfl,by have:=HR9.out.1;omega,by have:=HR9.out.2;omega⟩⟩
   exact zb9 (fq1 BB.out BR18.out hwR)
 have d2:=HS18.out.c2
 obtain⟨p,d1,hp,_⟩:=HS18.out.c1
 have hp:=hp _ rfl
 have HP:=Hq hp
 clear hp
 by_cases hlt:p<l.length
 ·have ht:decide ((p:Int) <l.length)=true:=by simp;omega
  have HE19:=Hq (HE18.out.trans (show(if s18.pos<l.length then none else _)=none from if_pos (by rw [HP.out];exact hlt)))
  go_upto_region 40 with(go_at_call 78;refine(aq4 R A cap p 14 l pool (some s18) _ HS18.out Om).mono ?_;rintro e19 w19 ⟨rfl,hm,hs⟩;have HM19:=Hq hm;have HS19:=Hq hs;clear hm hs)
  have BR19:=Hq (BR18.out.trans (HM19.out.low hR18))
  obtain⟨p9,most9,nm9,e9,bad9,hr9,_,hs9⟩:=HS19.out
  have HR9:=Hq hr9
  have c2:=hs9.c2
  have c3:=hs9.c3
  have T2:((e9:Int) !=0)=true:=by simpa using hr9.1
  have T3:((e9:Int)==0)=false:=by simpa using hr9.1
  have ffz:=hs9.fz
  have XD:=Hq (XC.out.below BR19.out hwR)
  have k0:=XD.out.cell 0 rfl
  have k1:=XD.out.cell 1 rfl
  have k2:=XD.out.cell 2 rfl
  have k3:=XD.out.cell 3 rfl
  have k4:=XD.out.cell 4 rfl
  have k5:=XD.out.cell 5 rfl
  have k6:=XD.out.cell 6 rfl
  have k7:=XD.out.cell 7 rfl
  have k8:=XD.out.cell 8 rfl
  have kz:=fun o=>XD.out.frozen o
  have hne1: ¬R=w.heap.size:=by omega
  have hne2: ¬w.heap.size=R:=by omega
  clear hs9 hr9
  go_upto_region 41 with fail
  go_region_held2 (fun w'=>w'.cell? ⟨R,3,none⟩=some (.int .i64 bad9)∧w'.cell? ⟨R,2,none⟩=some (.int .i64 e9)) (go_keep) (fail)
  all_goals
   go_wp2_with fail
   refine bodyPost_ret (bq4 (x:= .int .i64 bad9) (y:= .int .i64 e9) rfl rfl rfl rfl (jqN (zs9 (show Bx w19 w.heap.size gq5 58 from XD.out))) rfl rfl Kq9) rfl ?_
   obtain⟨q,hq⟩:=nqW HT0.out (HE19.out)
   refine⟨?_, .inl ⟨q,hq,gq5,bad9,e9,rfl,by simp [gq5,Value.oneCell'],rfl,by have:=HR9.out.1;omega,by have:=HR9.out.2;omega⟩⟩
   exact zb9 (fq1 BB.out BR19.out hwR)
 have ht:decide ((p:Int) <l.length)=false:=by simp;omega
 have HE19:=Hq (HE18.out.trans (show(if s18.pos<l.length then none else _)=_ from if_neg (by rw [HP.out];exact hlt)))
 have XD:=Hq (XC.out.below BR18.out hwR)
 obtain⟨Ap,kp,e1,_⟩:=id SP18.out
 obtain⟨Ai,ki,e2,_⟩:=id SI18.out
 obtain⟨Af,kf,e3,_⟩:=id SF18.out
 obtain⟨Am,km,e4,_⟩:=id SM18.out
 subst e1 e2 e3 e4
 have q6:w18.cell? ⟨R,6,none⟩=_:=CL18.out 0 _ rfl
 have q7:w18.cell? ⟨R,7,none⟩=_:=CL18.out 1 _ rfl
 have q8:w18.cell? ⟨R,8,none⟩=_:=CL18.out 2 _ rfl
 have q9:w18.cell? ⟨R,9,none⟩=_:=CL18.out 3 _ rfl
 have q10:w18.cell? ⟨R,10,none⟩=_:=CL18.out 4 _ rfl
 have q11:w18.cell? ⟨R,11,none⟩=_:=CL18.out 5 _ rfl
 have q12:w18.cell? ⟨R,12,none⟩=_:=CL18.out 6 _ rfl
 have q13:w18.cell? ⟨R,13,none⟩=_:=CL18.out 7 _ rfl
 have q14:w18.cell? ⟨R,14,none⟩=_:=CL18.out 8 _ rfl
 go_wp2_with (refine wpList_store_row rfl _ _ _ rfl w.heap.size _ rfl rfl _ _ XD.out Kq9 rfl Oc ?_)
 have hk: ∀(cs:Array Value) {size n:Nat} {cells:List Value} {v:Value},bqm w18 (fun g=>R<g) size n cells v→bqm (w18.setRow w.heap.size cs) (fun g=>w.heap.size≤g) size n cells v:=fun cs _ _ _ _ h=>
  (h.keep ⟨by simp,fun g hg hk o=>World.cell?_of_block (w:=w18) (setRow_other _ _ _ _ (show g≠w.heap.size by omega))⟩).mono fun g _ h=>by omega
 refine bodyPost_ret (bq4 (x:= .int .i64 0) (y:= .int .i64 0) rfl rfl rfl rfl (XD.out.row _) rfl rfl Kq9) rfl ?_
 refine⟨gqF (fq1 BB.out BR18.out hwR) _ _ Nr, .inr ⟨_,_,_,_,_,rd_ok HT0.out HE19.out,rfl,hk _ SP18.out,jqt (hk _ SI18.out),hk _ SF18.out,ks,rfl, ?_,fun q hq=> ⟨hk _ (HK18.out q hq).hcode,hk _ (HK18.out q hq).htraps⟩⟩⟩
 rw [List.length_map]
 exact hk _ SM18.out
end Go.Proofs.YtdbniocnjhfhdaaGreatDoor
