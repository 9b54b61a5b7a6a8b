/-
  What the laws rest on, part 37: walks of the program's functions and plain laws. Conditions: none but those that each theorem names.
-/
import Derived.Test.YtlcidkiplidamaaGreatDoorB00
import Derived.Test.YtlcidkiplidamaaGreatDoorB36
import Derived.Test.YtlcidkiplidamaaGreatDoorB22
import Derived.Test.YtlcidkiplidamaaGreatDoorB30
import Derived.Test.YtlcidkiplidamaaGreatDoorB11
import Derived.BigQuiet
import Derived.Laws.Tables
import Derived.Laws.EntriesVeiled
import Derived.WalkMore
import Derived.Deep.RegionHeld2
set_option linter.unusedSimpArgs false
set_option linter.unusedVariables false
set_option maxRecDepth 100000
set_option maxHeartbeats 4000000
namespace Go.Proofs.YtlcidkiplidamaaGreatDoor
open Go Go.RowKit Lib Go.Maps
theorem RkC.line {w:World} {ρ:Nat→Nat} {B kb:Nat} {σ:AsK} {V:RkV} {t:List Value} (h:RkC w ρ B kb σ V t) (l:Nat):RkC w ρ B kb { σ with line:=l } V t:=⟨h.low,h.hB,h.box,h.ht,h.kc,h.pool,h.ifs,h.flds,h.mths⟩
def RPart (p:Nat) (f:List aqB) (m:List aqA):Prop:=(p≤3↔f= []∧m= [])∧(p≤4↔m= [])
def kqf (σ:AsK):Prop:=(σ.m=none→RPart σ.part σ.c.flds σ.c.mths)∧(∀m,σ.m=some m→5≤σ.part)
theorem nqT:kqf .new:=⟨fun _=> ⟨by simp [AsK.new],by simp [AsK.new]⟩,fun m h=>by cases h⟩
theorem iqE {σ σ':AsK} {w:List ByteArray} (he:σ.field w=some σ'):σ'.part=σ.part∧σ'.m=σ.m∧σ'.c.flds≠ []∧σ'.c.mths=σ.c.mths:=by
 unfold AsK.field at he
 simp only at he
 split at he
 ·cases he
 split at he
 ·cases he
 split at he<;> (cases he;exact⟨rfl,rfl,by simp,rfl⟩)
theorem iqF {σ σ':AsK} {w:List ByteArray} (he:σ.begin w=some σ'):σ'.part=σ.part∧(σ.m=none→σ'.m=none→σ'.c.mths≠ []):=by
 unfold AsK.begin at he
 simp only at he
 split at he
 ·cases he
 split at he
 ·cases he
  exact⟨rfl,fun _ _=>by simp⟩
 cases he
 exact⟨rfl,fun _ h=>by cases h⟩
theorem fq8 (σ:AsK):σ.object.part=if σ.part=1 then 2 else σ.part:=by unfold AsK.object;split<;>rfl
theorem nqU {σ σ':AsK} {ws:List ByteArray} (h:kqf σ) (hm:σ.m=none) (he:σ.outside ws=some σ'):kqf σ':=by
 obtain⟨h3,h4⟩:=h.1 hm
 rw [eqX] at he
 split at he
 ·rename_i hp
  split at he
  ·rcases ha:aqS (ws.drop 2) 0 with _|acc
   ·rw [ha] at he;cases he
   rw [ha] at he
   cases he
   have h0:=h3.1 (by omega)
   refine⟨fun _=> ⟨⟨fun _=>h0,fun _=>by show 1≤3;omega⟩,⟨fun _=>h0.2,fun _=>by show 1≤4;omega⟩⟩,fun m hx=> ?_⟩
   have:σ.m=some m:=hx
   rw [hm] at this
   cases this
  cases he
 rename_i hp0
 split at he
 ·split at he
  ·rename_i hp
   cases he
   have h0:=h3.1 (by omega)
   refine⟨fun _=> ⟨⟨fun _=>h0,fun _=>by show 2≤3;omega⟩,⟨fun _=>h0.2,fun _=>by show 2≤4;omega⟩⟩,fun m hx=> ?_⟩
   have:σ.m=some m:=hx
   rw [hm] at this
   cases this
  cases he
 have ho3:σ.object.part≤3↔σ.part≤3:=by rw [fq8];split<;>omega
 have ho4:σ.object.part≤4↔σ.part≤4:=by rw [fq8];split<;>omega
 split at he
 ·split at he
  ·rename_i hp
   cases he
   have h0:=h3.1 (ho3.1 hp.1)
   refine⟨fun _=> ⟨⟨fun _=> ?_,fun _=>by show 3≤3;omega⟩,⟨fun _=> ?_,fun _=>by show 3≤4;omega⟩⟩,fun m hx=> ?_⟩
   ·show σ.object.c.flds= []∧σ.object.c.mths= []
    rw [eqq,cqV]
    exact h0
   ·show σ.object.c.mths= []
    rw [cqV]
    exact h0.2
   have:σ.object.m=some m:=hx
   rw [eqM,hm] at this
   cases this
  cases he
 split at he
 ·split at he
  ·rename_i hp
   obtain⟨e1,e2,e3,e4⟩:=iqE he
   have e1:σ'.part=4:=e1
   have e2:σ'.m=σ.object.m:=e2
   have e4:σ'.c.mths=σ.object.c.mths:=e4
   rw [eqM,hm] at e2
   rw [cqV,h4.1 (ho4.1 hp.1)] at e4
   refine⟨fun _=> ⟨⟨fun h=>by omega,fun h=>absurd h.1 e3⟩,⟨fun _=>e4,fun _=>by omega⟩⟩,fun m hx=> ?_⟩
   rw [e2] at hx
   cases hx
  cases he
 split at he
 ·split at he
  ·obtain⟨e1,e2⟩:=iqF he
   have e1:σ'.part=5:=e1
   refine⟨fun hx=> ?_,fun m hx=>by omega⟩
   have e3:=e2 (show σ.object.m=none by rw [eqM,hm]) hx
   exact⟨⟨fun h=>by omega,fun h=>absurd h.2 e3⟩,⟨fun h=>by omega,fun h=>absurd h e3⟩⟩
  cases he
 cases he
theorem lq0 {name:List UInt8} {b:Nat} {x y:AsI} {c:UInt8} (he:cqr name b x c=some y):y.k.part=x.k.part:=by
 unfold cqr at he
 simp only at he
 split at he
 ·obtain⟨v,_,rfl⟩:=Option.map_eq_some_iff.1 he;rfl
 split at he
 ·split at he
  ·obtain⟨v,_,rfl⟩:=Option.map_eq_some_iff.1 he;rfl
  split at he
  ·cases he
  split at he
  ·cases he;rfl
  cases he
 split at he
 ·obtain⟨v,_,rfl⟩:=Option.map_eq_some_iff.1 he;rfl
 split at he
 ·cases he;rfl
 split at he
 ·cases he;rfl
 cases he;rfl
theorem gqK {name:List UInt8} {b:Nat}: ∀(l:List UInt8) (x y:AsI),aqL name b l x=some y→y.k.part=x.k.part
 | [],x,y,he=>by cases he;rfl
 |c::l,x,y,he=>by
  rw [aqL] at he
  obtain⟨z,h1,h2⟩:=Option.bind_eq_some_iff.1 he
  exact(gqK l z y h2).trans (lq0 h1)
theorem iqG {σ σ':AsK} {m:AsM} {w:List ByteArray} (he:σ.instr m w=some σ'):σ'.part=σ.part∧σ'.m.isSome=true:=by
 unfold AsK.instr at he
 simp only at he
 split at he
 ·cases he
 split at he
 ·cases he
 obtain⟨x,h1,rfl⟩:=Option.map_eq_some_iff.1 he
 exact⟨gqK _ _ _ h1,rfl⟩
def InSh (σ:AsK):Except Nat AsK→Prop
 | .ok σ'=>σ'.part=σ.part∧σ'.m.isSome=true
 | .error n=>n=σ.line
theorem in_sh {σ:AsK} {m:AsM} {ws:List ByteArray} (hnd: ¬(ws.length=1∧(ws.headD ⟨#[]⟩).data.toList= [101,110,100])):InSh σ (σ.inside m ws):=by
 obtain⟨r,he⟩: ∃r,σ.inside m ws=r:=⟨_,rfl⟩
 rw [he]
 unfold AsK.inside at he
 simp only at he
 by_cases e1:m.first=true∧(ws.headD ⟨#[]⟩).data.toList= [108,105,109,105,116,115]
 ·rw [if_pos e1] at he
  split at he
  ·rcases ha:aqz (ws.getD 1 ⟨#[]⟩).data.toList 0 255 with _|a
   ·rw [ha] at he;subst he;rfl
   rcases hb:aqz (ws.getD 2 ⟨#[]⟩).data.toList 0 255 with _|b
   ·rw [ha,hb] at he;subst he;rfl
   rw [ha,hb] at he;subst he;exact⟨rfl,rfl⟩
  subst he;rfl
 rw [if_neg e1,if_neg hnd] at he
 split at he
 ·split at he
  ·subst he;exact⟨rfl,rfl⟩
  subst he;rfl
 split at he
 ·split at he
  ·subst he;exact⟨rfl,rfl⟩
  split at he
  ·subst he;exact⟨rfl,rfl⟩
  subst he;rfl
 rcases hi:σ.instr { m with first:=false } ws with _|x
 ·rw [hi] at he;subst he;rfl
 rw [hi] at he;subst he;exact iqG hi
theorem dq4 {σ:AsK} {m:AsM} {ws:List ByteArray} (hnd: ¬(ws.length=1∧(ws.headD ⟨#[]⟩).data.toList= [101,110,100])):
  (∀σ',σ.inside m ws= .ok σ'→σ'.part=σ.part∧σ'.m.isSome=true)∧ ∀n,σ.inside m ws= .error n→n=σ.line:=by
 have h:=in_sh (σ:=σ) (m:=m) hnd
 exact⟨fun σ' e=>by rw [e] at h;exact h,fun n e=>by rw [e] at h;exact h⟩
theorem iqH {σ:AsK} {m:AsM} {ws:List ByteArray} (hnd: ¬(ws.length=1∧(ws.headD ⟨#[]⟩).data.toList= [101,110,100])) (h:bqI σ m ws=none):σ.inside m ws= .error σ.line:=by
 unfold bqI at h
 cases hi:σ.inside m ws with
 |ok x=>rw [hi] at h;cases h
 |error n=>rw [(dq4 hnd).2 n hi]
theorem equ {σ σ':AsK} {m:AsM} {ws:List ByteArray} (h:bqI σ m ws=some σ'):σ.inside m ws= .ok σ':=by
 unfold bqI at h
 cases hi:σ.inside m ws with
 |ok x=>rw [hi] at h;cases h;rfl
 |error n=>rw [hi] at h;cases h
theorem oqS {σ σ':AsK} {m:AsM} {ws:List ByteArray} (h:kqf σ) (hm:σ.m=some m) (hnd: ¬(ws.length=1∧(ws.headD ⟨#[]⟩).data.toList= [101,110,100])) (he:σ.inside m ws= .ok σ'):kqf σ':=by
 obtain⟨h1,h2⟩:=(dq4 hnd).1 _ he
 exact⟨fun hn=> (by rw [hn] at h2;cases h2),fun _ _=>by rw [h1];exact h.2 m hm⟩
theorem gqL {σ:AsK} {m:AsM} {ws:List ByteArray} (h1:ws.length=1) (h2:(ws.headD ⟨#[]⟩).data.toList= [101,110,100]):σ.inside m ws=match({ σ with m:=none }:AsK).endM m.ff with|none=> .error m.line|some x=> .ok x:=by
 unfold AsK.inside
 simp only
 rw [if_neg (by rw [h2];simp),if_pos ⟨h1,h2⟩]
 rfl
theorem nqV {σ σ':AsK} {m:AsM} (h:kqf σ) (hm:σ.m=some m) (he:({ σ with m:=none }:AsK).endM m.ff=some σ'):kqf σ'∧σ'.m=none:=by
 unfold AsK.endM at he
 split at he
 ·cases he
 split at he
 ·cases he
 cases he
 have h5:=h.2 m hm
 refine⟨⟨fun _=> ⟨⟨fun h=> ?_,fun h=> ?_⟩,⟨fun h=> ?_,fun h=> ?_⟩⟩,fun _ hx=>by cases hx⟩,rfl⟩
 ·have:σ.part≤3:=h
  omega
 ·have:=h.2
  simp at this
 ·have:σ.part≤4:=h
  omega
 simp at h
def nqW (mj:Int):List Value:= [.int .i64 0, .int .i64 mj, .slice none 0 0, .int .i64 0, .int .i64 0, .int .i64 0, .slice none 0 0, .slice none 0 0, .slice none 0 0, .int .i64 0, .bool false, .bool false, .int .i64 0, .int .i64 0, .int .i64 0, .int .i64 0, .bool false, .int .i64 0, .int .i64 0, .slice none 0 0, .slice none 0 0, .slice none 0 0, .slice none 0 0, .slice none 0 0]
theorem oq6 {w:World} {B kb:Nat} (hk:kb<w.heap.size) (hkb:B≤kb) (hbox:Bx w kb (nqW 52) 80):
  RkC w (paint (fun _=>0) kb 1) B kb .new ⟨.slice none 0 0, .slice none 0 0, .slice none 0 0, .slice none 0 0⟩ ((nqW 52).drop 11) where
 low:=fun g hg=>by
  by_cases h2:g=kb
  ·subst h2;exact⟨hkb,hk⟩
  rw [aqi h2] at hg
  exact absurd rfl hg
 hB:=by omega
 box:=hbox
 ht:=rfl
 kc:=aqW _ _ _
 pool:=aqN _ _ _ _ _ _
 ifs:=aqN _ _ _ _ _ _
 flds:=aqN _ _ _ _ _ _
 mths:=⟨[],rfl,aqN _ _ _ _ _ _,fun q hq=>by cases hq⟩
theorem jqg {w:World} {ρ:Nat→Nat} {B kb:Nat} {σ:AsK} {V:RkV} {t:List Value} (h:RkC w ρ B kb σ V t) {N:Nat} (hs:cqB σ N) (hN:N≤900000):aq9 w (fun g=>B≤g∧g<w.heap.size) σ.c V.pv V.iv V.fv V.tv where
 hpool:=bqJ h.pool.1 _ (by omega) (by have:=hs.npool;omega) fun g hg=>h.pool.1.lt g hg
 hifs:=bqJ h.ifs.1 _ (by omega) (by have:=hs.nifs;omega) fun g hg=>h.ifs.1.lt g hg
 hflds:=bqJ h.flds.1 _ (by omega) (by have:=hs.nflds;omega) fun g hg=>h.flds.1.lt g hg
 hmths:=by
  obtain⟨ms,m1,m2,m3⟩:=h.mths
  have hl:ms.length≤1048576:=by
   have h1:=congrArg List.length m1
   rw [List.length_map] at h1
   have:=hs.nmths
   have h2:ms.length=σ.c.mths.length:=h1
   omega
  have hlw: ∀g,g<w.heap.size→ρ g=7→B≤g∧g<w.heap.size:=fun g _ hg=>h.low g (by omega)
  have he:ms.length=σ.c.mths.length:=by rw [←m1,List.length_map]
  exact⟨ms,m1,by rw [←he];exact bqJ m2.1 _ (by omega) hl fun g hg=>m2.1.lt g hg,fun q hq=> ⟨(m3 q hq).hcode.mono hlw,(m3 q hq).htraps.mono hlw⟩⟩
def oqT:Prop:= ∀(c:aqj) (p i f m:Value) (ok:Nat→Prop) (w:World),aq9 w ok c p i f m→eqE c→Calls Tryz.prog 31 #[bqp c p i f m] w fun e w'=>e= .returned (.int .i64 (aq1 c))∧Below w.heap.size w w'
theorem eqv {w w':World} {p:Except (Nat×Int) aqj} {n:Nat} {er:Int} {e:Ending} (hp:p= .error (n,er)) (he:e= .returned (.tuple #[.agg aqZ.toArray, .int .i64 n, .int .i64 er])) (hb:Below w.heap.size w w'):lqZ w p e w':=by
 subst hp
 exact⟨hb,_,_,_,_,nq9 w' _,he⟩
theorem cq6 {P:Program} {fn:Func} {tmps:Array Value} {a b c:Tmp} {T:TypeId} {g:Nat} {vs:List Value} {x y:Value} {t:TypeId} {w:World} {d:TypeDesc} (hr:fn.results= #[.cell a T, .tmp b, .tmp c])
  (ha:tmps.getD a undef= .pointer (some ⟨g,0,none⟩)) (hb:tmps.getD b undef=x) (hc:tmps.getD c undef=y) (h1:Bx w g vs t)
  (hu:P.underlying T=some d) (hd:(match d with| .struct _| .array _ _=>true|_=>false)=true) (hi:(P.info? T).map (·.size)=some vs.length):
  (results fn tmps).run P w= .ok (.tuple #[.agg vs.toArray,x,y]) w:=by
 have k1:=run_loadVar_row (P:=P) w g t T vs.toArray (0,0) d h1 hu hd (by simpa using hi)
 unfold results
 rw [hr]
 rw [Array.getD_eq_getD_getElem?] at ha hb hc
 simp [ha,hb,hc,asAddr,k1,Result.andThen]
theorem eqR:(aqZ.toArray.all (·.oneCell'))=true:=by simp [aqZ,Value.oneCell']
theorem lq1 {w:World} {g:Nat} {vs:List Value} {t:TypeId} (h:Bx w g vs t):Bx w.drew g vs t:=h
theorem hqM {w:World} {g:Nat} {t:TypeId} (h:Bx w g aqZ t):Bx (((((((((w.setCell ⟨g,0,none⟩ (.int .i64 0)).setCell ⟨g,1,none⟩ (.int .i64 0)).setCell ⟨g,2,none⟩ (.slice none 0 0)).setCell ⟨g,3,none⟩ (.int .i64 0)).setCell ⟨g,4,none⟩ (.int .i64 0)).setCell ⟨g,5,none⟩ (.int .i64 0)).setCell ⟨g,6,none⟩ (.slice none 0 0)).setCell ⟨g,7,none⟩ (.slice none 0 0)).setCell ⟨g,8,none⟩ (.slice none 0 0)) g aqZ t:=by
 have h9:=(((((((((h.set 0 (.int .i64 0)).set 1 (.int .i64 0)).set 2 (.slice none 0 0)).set 3 (.int .i64 0)).set 4 (.int .i64 0)).set 5 (.int .i64 0)).set 6 (.slice none 0 0)).set 7 (.slice none 0 0)).set 8 (.slice none 0 0))
 exact h9
theorem gqM {w w':World} {g:Nat} (h:Below g w w'):Below g w (((((((((w'.setCell ⟨g,0,none⟩ (.int .i64 0)).setCell ⟨g,1,none⟩ (.int .i64 0)).setCell ⟨g,2,none⟩ (.slice none 0 0)).setCell ⟨g,3,none⟩ (.int .i64 0)).setCell ⟨g,4,none⟩ (.int .i64 0)).setCell ⟨g,5,none⟩ (.int .i64 0)).setCell ⟨g,6,none⟩ (.slice none 0 0)).setCell ⟨g,7,none⟩ (.slice none 0 0)).setCell ⟨g,8,none⟩ (.slice none 0 0)).drew:=((((((((((h.setCell (p:=⟨g,0,none⟩) (Nat.le_refl _) (.int .i64 0)).setCell (p:=⟨g,1,none⟩) (Nat.le_refl _) (.int .i64 0)).setCell (p:=⟨g,2,none⟩) (Nat.le_refl _) (.slice none 0 0)).setCell (p:=⟨g,3,none⟩) (Nat.le_refl _) (.int .i64 0)).setCell (p:=⟨g,4,none⟩) (Nat.le_refl _) (.int .i64 0)).setCell (p:=⟨g,5,none⟩) (Nat.le_refl _) (.int .i64 0)).setCell (p:=⟨g,6,none⟩) (Nat.le_refl _) (.slice none 0 0)).setCell (p:=⟨g,7,none⟩) (Nat.le_refl _) (.slice none 0 0)).setCell (p:=⟨g,8,none⟩) (Nat.le_refl _) (.slice none 0 0))).drew
theorem oqa {w:World} {g:Nat} {σ:AsK} {V:RkV} {t:List Value} (h:Bx w g (aq3 σ V++t) 80) (j:Nat) (v:Value) (hv:(σ.c.cells V.pv V.iv V.fv V.tv)[j]?=some v):w.cell? ⟨g,j,none⟩=some v:=by
 refine h.cell j ?_
 show(σ.c.cells V.pv V.iv V.fv V.tv++([.int .i64 (bq8 σ.part), .bool σ.m.isSome]++t))[j]?=some v
 rw [List.getElem?_append_left (List.getElem?_eq_some_iff.1 hv).1]
 exact hv
theorem kqg {w:World} {ρ:Nat→Nat} {B kb:Nat} {σ:AsK} {V:RkV} {t:List Value} (h:RkC w ρ B kb σ V t):((σ.c.cells V.pv V.iv V.fv V.tv).toArray.all (·.oneCell'))=true:=by
 obtain⟨A1,k1,e1⟩:=aqf h.pool.1
 obtain⟨A2,k2,e2⟩:=aqf h.ifs.1
 obtain⟨A3,k3,e3⟩:=aqf h.flds.1
 obtain⟨ms,m1,m2,m3⟩:=h.mths
 obtain⟨A4,k4,e4⟩:=aqf m2.1
 rw [e1,e2,e3,e4]
 simp [aqj.cells,Value.oneCell']
theorem lq2 (text:ByteArray):(aqI text).map Value.string=fq9 (eqF text.data.toList [])∧(aqI text).length=(eqF text.data.toList []).length:=by
 have h:=eqV text
 rw [mqJ]
 refine⟨?_, ?_⟩
 ·unfold fq9
  rw [←h,List.map_map]
  rfl
 rw [←h,List.length_map]
theorem lq3 (s:ByteArray):(bqj s).map Value.string=fq9 (aqy s.data.toList [])∧(bqj s).length=(aqy s.data.toList []).length:=by
 unfold bqj fq9
 exact⟨by rw [List.map_map];rfl,by rw [List.length_map]⟩
theorem kqh (HCK:oqT) (text:ByteArray) (w:World) (hts:text.size≤60000):
  Calls Tryz.prog 10 #[.string text] w (lqZ w (cq9 aq1 text)):=by
 have hlm:=lq2 text
 have HLS:=Hq (fun(s:ByteArray) (h:s∈aqI text)=>Nat.le_trans (eq2 h) hts)
 go_enter Tryz.func10,Tryz.ntmps10
 have hq1: ¬(262144:Int) < (text.size:Int):=by omega
 go_wp2_with (go_at_call 13;refine aqa ?_)
 refine aqb ?_
 refine(jqx text _ (by omega)).mono ?_
 rintro e w1 ⟨v,rfl,hb1,hown⟩
 have XC1:=Hq ((aqo w aqZ 28).below hb1 (by simp))
 have hz0:=hb1.size
 rw [World.size_alloc] at hz0
 rw [←hlm.2, ←hlm.1] at hown
 obtain⟨A,cap,rfl,hwd⟩:=lqM (ρ:=fun _=>0) hown (fun g hg=>rfl)
 have HB1:=Hq (((Below.refl w.heap.size w).alloc (Nat.le_refl _) (.cells aqZ.toArray 28)).trans (hb1.mono (by simp)))
 have HW1:=Hq hwd
 clear hb1 hown hlm
 obtain⟨K,hK⟩: ∃K,(aqI text).length=K:=⟨_,rfl⟩
 rw [hK] at hwd HW1⊢
 have HLEN:=Hq hK
 have hle:=hwd.le
 have hmx:=hwd.max
 clear hK hwd
 by_cases h8:8000<K
 ·have hq2:(8000:Int) < (K:Int):=by omega
  have HP:=Hq (show cq9 aq1 text= .error (0,2) by unfold cq9;rw [if_pos (.inr (by rw [HLEN.out];exact h8))])
  clear h8
  go_wp2_with (refine wpList_store_row rfl _ _ _ rfl w.heap.size aqZ.toArray rfl rfl _ _ XC1.out (by kernel_rfl) rfl eqR ?_)
  refine bodyPost_ret (cq6 (vs:=aqZ) rfl rfl rfl rfl (XC1.out.row aqZ) Tryz.underlying28 rfl (by kernel_rfl)) rfl ?_
  exact eqv HP.out rfl (bqz HB1.out _ _ (Nat.le_refl _))
 have hq2: ¬(8000:Int) < (K:Int):=by omega
 have HBIG:=Hq (show¬(262144<text.size∨8000< (aqI text).length) by rw [HLEN.out];omega)
 go_wp2_with fail
 obtain⟨w2,hw2⟩: ∃W,W=w1.alloc (.cells #[.int .i64 0, .int .i64 52, .slice none 0 0, .int .i64 0, .int .i64 0, .int .i64 0, .slice none 0 0, .slice none 0 0, .slice none 0 0, .int .i64 0, .bool false, .bool false, .int .i64 0, .int .i64 0, .int .i64 0, .int .i64 0, .bool false, .int .i64 0, .int .i64 0, .slice none 0 0, .slice none 0 0, .slice none 0 0, .slice none 0 0, .slice none 0 0] 80):=⟨_,rfl⟩
 rw [←hw2]
 have X2:=Hq (show Bx w2 w1.heap.size (nqW 52) 80 by rw [hw2];exact aqo w1 _ _)
 have B2:=Hq (show Below w1.heap.size w1 w2 by rw [hw2];exact(Below.refl _ _).alloc (Nat.le_refl _) _)
 have hz2:w1.heap.size<w2.heap.size:=by rw [hw2];simp
 clear hw2
 have XC2:=Hq (XC1.out.below B2.out XC1.out.lt)
 have HB2:=Hq (HB1.out.trans (B2.out.mono (by omega)))
 obtain⟨ρ0,hρ⟩: ∃r,paint (fun _=>0) w1.heap.size 1=r:=⟨_,rfl⟩
 have K2:=Hq (show RkC w2 ρ0 w1.heap.size w1.heap.size .new ⟨.slice none 0 0, .slice none 0 0, .slice none 0 0, .slice none 0 0⟩ ((nqW 52).drop 11) by rw [←hρ];exact oq6 hz2 (Nat.le_refl _) X2.out)
 have RC:=Hq (show ρ0 w.heap.size=0 by rw [←hρ];exact aqi (by omega))
 have HW2:=Hq (show WdA w2 (Un ρ0) A K cap (aqI text) from⟨HW1.out.len,HW1.out.le,HW1.out.max,fun h0=>by
  obtain⟨b,off,e,hb,ho,hc⟩:=HW1.out.hat h0
  exact⟨b,off,e,Nat.lt_of_lt_of_le hb B2.out.size,by show ρ0 b=0;rw [←hρ];exact aqi (by omega),fun j s hs=> (B2.out.cell (p:=⟨b,off+j,none⟩) hb).trans (hc j s hs)⟩⟩)
 clear hρ X2 XC1 HB1 HW1
 go_loopw [7,8,9,10] (fun i _ _ _ wr=> ∃(j:Nat) (σ:AsK) (ρ:Nat→Nat) (V:RkV) (t:List Value),i= .int .i64 j∧j≤K∧Hid (eq3 (aqI text) 0 .new=eq3 ((aqI text).drop j) j σ)∧Hid (RkC wr ρ w1.heap.size w1.heap.size σ V t)∧Hid (eqO wr ρ w1.heap.size t σ.m)∧Hid (cqB σ (20*j))∧Hid (kqf σ)∧Hid (Chg [1,2,3,4,5,6,7,8,9,10,11,12,13] w2 ρ0 wr ρ)) (fun i _ _ _ _=>K - (RowKit.intOf i).toNat)
 case atStart=>exact⟨0, .new,ρ0,_,_,rfl,by omega,Hq rfl,K2,Hq trivial,Hq (hqC _),Hq nqT,Hq (Chg.refl _ _ _)⟩
 case round=>
  obtain⟨wr1,hwr⟩: ∃W,W=wr:=⟨_,rfl⟩
  subst hwr
  obtain⟨j,σ,ρ,V,t,rfl,hj,HR,HK,HO,HS,HI,HG⟩:=hrel
  have hkl:=HK.out.box.lt
  have hwl:=HW2.out.chg HG.out (by decide)
  by_cases hlt:j<K
  ·obtain⟨s,hs⟩: ∃s,(aqI text)[j]?=some s:=⟨_,List.getElem?_eq_getElem (by rw [HLEN.out];exact hlt)⟩
   have hss:=HLS.out s (List.mem_of_getElem? hs)
   have HSS:=Hq hs
   obtain⟨bl,ol,hAl,hbl,hul,hcl⟩:=hwl.hat (by omega)
   subst hAl
   have cs:=hcl j s hs
   have hjK:(j:Int) < (K:Int):=by omega
   have hww:=lq3 s
   clear hs hcl hwl
   go_wp2_with (go_at_call 14;refine aqa ?_)
   refine aqb ?_
   refine(jqy s _ (by omega)).mono ?_
   rintro e w4 ⟨v,rfl,hb4,hown⟩
   rw [←hww.2, ←hww.1] at hown
   obtain⟨A4,cap4,rfl,hwd⟩:=lqM (ρ:=ρ) hown (fun g hg=>HK.out.low.fresh ((hown.lt g hg).1))
   have K4:=Hq ((HK.out.below hb4).line (j+1))
   have O4:=Hq (show eqO w4 ρ w1.heap.size t σ.m from by
    have h:=HO.out
    cases hm:σ.m with
    |none=>trivial
    |some m=>rw [hm] at h;obtain⟨U,h1,h2⟩:=h;exact⟨U,h1,h2.below hb4⟩)
   have G4:=Hq (HG.out.trans (Chg.of_below hb4))
   have SM4:=Hq (eqY HS.out (j+1))
   have WD:=Hq hwd
   have hwz:=dqp s
   obtain⟨ws,hws⟩: ∃ws,bqj s=ws:=⟨_,rfl⟩
   have HWS:=Hq hws
   rw [hws] at hwd WD hwz
   rw [hws]
   have hjn:20*j≤160000:=by omega
   clear hown hb4 hws hww cs
   cases ws with
   |nil=>
    have HD:=Hq (show AsK.doLine { σ with line:=j+1 } s= .ok { σ with line:=j+1 } by rw [cqW,HWS.out];exact if_pos (.inl rfl))
    have hl0:(((([]:List ByteArray).length:Nat):Int)==0)=true:=rfl
    clear hwd
    go_wp2_with fail
    have HR2:=Hq (HR.out.trans (cqJ HSS.out HD.out))
    go_roundw
    case rel=>exact⟨j+1,{ σ with line:=j+1 },ρ,V,t,by go_num,by omega,HR2,K4,O4,Hq (SM4.out.mono (by omega)),Hq (show kqf { σ with line:=j+1 } from HI.out),G4⟩
    case measure=>simp [RowKit.intOf];omega
   |cons s0 ws=>
    have hl0:((((s0::ws).length:Nat):Int)==0)=false:=by rw [beq_eq_false_iff_ne];simp only [List.length_cons];omega
    have hl1:(((ws.length:Int)+1)==0)=false:=by rw [beq_eq_false_iff_ne];omega
    obtain⟨b,off,hA,hb4,hub,hcc⟩:=hwd.hat (by simp)
    have c0:=hcc 0 s0 rfl
    rw [Nat.add_zero] at c0
    have hs0:=(hwz s0 (by simp)).2
    have hs01:=(hwz s0 (by simp)).1
    subst hA
    obtain⟨u,hu⟩: ∃u,s0[0]'hs0=u:=⟨_,rfl⟩
    have HU:=Hq (show s0.data.toList.headD 0=u by rw [←hu];exact(dqQ s0 hs0).symm)
    have hle4:=hwd.le
    have hlm4:=hwd.max
    simp only [List.length_cons] at hle4
    clear hwd hcc hwz
    by_cases h35:u=35
    ·have hq35:((u.toNat:Int)==35)=true:=by rw [h35];rfl
     have HD:=Hq (show AsK.doLine { σ with line:=j+1 } s= .ok { σ with line:=j+1 } by rw [cqW,HWS.out];exact if_pos (.inr (by rw [List.headD_cons,HU.out,h35])))
     clear h35
     go_wp2_with fail
     have HR2:=Hq (HR.out.trans (cqJ HSS.out HD.out))
     go_roundw
     case rel=>exact⟨j+1,{ σ with line:=j+1 },ρ,V,t,by go_num,by omega,HR2,K4,O4,Hq (SM4.out.mono (by omega)),Hq (show kqf { σ with line:=j+1 } from HI.out),G4⟩
     case measure=>simp [RowKit.intOf];omega
    have hq35:((u.toNat:Int)==35)=false:=by
     rw [beq_eq_false_iff_ne]
     intro e
     exact h35 (UInt8.toNat_inj.1 (by show u.toNat=35;omega))
    have HNM:=Hq (show¬(bqj s= []∨((bqj s).headD ⟨#[]⟩).data.toList.headD 0=35) by rw [HWS.out];rintro(h|h);cases h;rw [List.headD_cons,HU.out] at h;exact h35 h)
    have HSW:=Hq (show SmW (s0::ws) by rw [←HWS.out];exact fqn (by omega))
    have HNE:=Hq (show∀x∈s0::ws,0<x.size by rw [←HWS.out];exact fun x hx=> (dqp s x hx).2)
    clear h35
    have c10:=K4.out.box.cell 10 (show _=some (.bool σ.m.isSome) from rfl)
    have hln:(({ σ with line:=j+1 }:AsK).line:Int)=(j:Int)+1:=by show((j+1:Nat):Int)=_;omega
    have HLN:=Hq hln
    have n1:=HS.out.npool
    have n2:=HS.out.nflds
    have n3:=HS.out.nmths
    have n4:=HS.out.nifs
    cases hm:σ.m with
    |none=>
     rw [hm] at c10
     have hx:=lqT ρ w1.heap.size w1.heap.size { σ with line:=j+1 } V t _ _ _ (s0::ws) w4 K4.out hm (HI.out.1 hm).1 (HI.out.1 hm).2 WD.out HSW.out (by simp) (show σ.c.pool.length≤_ by omega) (show σ.c.flds.length≤_ by omega) (show σ.c.mths.length≤_ by omega) (show σ.c.ifs.length≤_ by omega)
     rw [hln] at hx
     have HX:=Hq hx
     clear hx hln
     go_wp2_with (go_at_call 28;refine aqa ?_)
     refine aqb ?_
     refine HX.out.mono ?_
     intro e w5 hq
     clear HX
     cases hout:AsK.outside { σ with line:=j+1 } (s0::ws) with
     |none=>
      rw [hout] at hq
      obtain⟨rfl,hb5⟩:=hq
      have HD:=Hq (show AsK.doLine { σ with line:=j+1 } s= .error (j+1) from fq4 HNM.out hm (by rw [HWS.out];exact hout))
      simp only [Option.isSome_none]
      have HP:=Hq (show cq9 aq1 text= .error (j+1,60) from eqQ HBIG.out (HR.out.trans (eqP HSS.out HD.out)))
      have XC5:=Hq (show Bx w5 w.heap.size aqZ 28 from(G4.out.bx XC2.out (by rw [RC.out];decide)).below hb5 (by omega))
      have HBW:=Hq (show Below w.heap.size w w5 from HB2.out.trans (((G4.out.below K2.out.low K2.out.hB (by decide)).trans hb5).mono (by omega)))
      clear hb5
      go_wp2_with (refine wpList_store_row rfl _ _ _ rfl w.heap.size aqZ.toArray rfl rfl _ _ XC5.out (by kernel_rfl) rfl eqR ?_)
      refine bodyPost_ret (cq6 (vs:=aqZ) rfl rfl rfl rfl (XC5.out.row aqZ) Tryz.underlying28 rfl (by kernel_rfl)) rfl ?_
      exact eqv HP.out (by rw [show((j+1:Nat):Int)=(j:Int)+1 from by omega];rfl) (bqz HBW.out _ _ (Nat.le_refl _))
     |some σ'=>
      rw [hout] at hq
      obtain⟨rfl,ρ5,V5,t5,hk5,ho5,hg5⟩:=hq
      have HD:=Hq (show AsK.doLine { σ with line:=j+1 } s= .ok σ' from fq5 HNM.out hm (by rw [HWS.out];exact hout))
      have K5:=Hq hk5
      have O5:=Hq ho5
      have HI5:=Hq (nqU (show kqf { σ with line:=j+1 } from HI.out) hm hout)
      have G5:=Hq (G4.out.trans (hg5.mono (by simp)))
      simp only [Option.isSome_some]
      clear hk5 ho5 hg5
      have HD2:=Hq (HR.out.trans (cqJ HSS.out HD.out))
      have S5:=Hq (cqv SM4.out (by omega) (.inr (Nat.le_trans hss (by omega))) HD.out)
      go_wp2_with fail
      go_roundw
      case rel=>exact⟨j+1,σ',ρ5,V5,t5,by go_num,by omega,HD2,K5,O5,Hq (S5.out.mono (by omega)),HI5,G5⟩
      case measure=>simp [RowKit.intOf];omega
    |some m=>
     rw [hm] at c10
     obtain⟨U,rfl,hmt⟩: ∃U,t=aq4 m U∧RtC w4 ρ w1.heap.size m U:=by have h:=O4.out;rw [hm] at h;exact h
     have HMT:=Hq hmt
     have HMS:=Hq (HS.out.op m hm)
     clear hmt
     by_cases hend:(s0::ws).length=1∧((s0::ws).headD ⟨#[]⟩).data.toList= [101,110,100]
     ·have hx:=gqJ w1.heap.size _ (some ⟨b,off,none⟩) (s0::ws).length cap4 ((j:Int)+1) w4 _ K4.out.box (show some (Value.bool σ.m.isSome)=some (.bool true) by rw [hm];rfl) (fun e w' h=> ⟨true,h.1⟩) (kqc ρ w1.heap.size w1.heap.size { σ with line:=j+1 } V m U _ _ _ (s0::ws) w4 K4.out (show σ.m.isSome=true by rw [hm];rfl) HMT.out WD.out HSW.out (by simp) hend.1 hend.2)
      have HX:=Hq hx
      have HEN:=Hq hend
      clear hx hend hln
      go_wp2_with (go_at_call 28;refine aqa ?_)
      refine aqb ?_
      refine HX.out.mono ?_
      rintro e w5 ⟨rfl,hk5,hm5,hg5⟩
      clear HX
      have KK:=Hq hk5
      have MM:=Hq hm5
      have GG:=Hq (G4.out.trans (hg5.mono (by simp)))
      have c10:=hk5.box.cell 10 (show _=some (.bool false) from rfl)
      clear hk5 hm5 hg5
      go_wp2_with (go_at_call 29;refine aqa ?_)
      refine aqb ?_
      refine(iqC ρ w1.heap.size w1.heap.size { σ with line:=j+1,m:=none } V m.ff U w5 (20*j) KK.out rfl MM.out (eqr HMS.out) (by omega) (show σ.c.mths.length≤_ by omega)).mono ?_
      rintro e w6 ⟨hq,hq2⟩
      cases hen:AsK.endM { σ with line:=j+1,m:=none } m.ff with
      |none=>
       rw [hen] at hq
       obtain⟨rfl,hb6⟩:=hq
       have c12:w6.cell? ⟨w1.heap.size,12,none⟩=some (.int .i64 m.line):=hq2 hen
       have HD:=Hq (show AsK.doLine { σ with line:=j+1 } s= .error m.line from(dqs (σ:={ σ with line:=j+1 }) HNM.out hm).trans (by rw [HWS.out,gqL HEN.out.1 HEN.out.2];simp only [hen]))
       have HP:=Hq (show cq9 aq1 text= .error (m.line,60) from eqQ HBIG.out (HR.out.trans (eqP HSS.out HD.out)))
       have XC5:=Hq (show Bx w6 w.heap.size aqZ 28 from(GG.out.bx XC2.out (by rw [RC.out];decide)).below hb6 (by omega))
       have HBW:=Hq (show Below w.heap.size w w6 from HB2.out.trans (((GG.out.below K2.out.low K2.out.hB (by decide)).trans hb6).mono (by omega)))
       clear hb6 hq2
       simp only [Option.isSome_none]
       go_wp2_with fail
       have x0:=XC5.out.cell 0 rfl
       have y0:=XC5.out.frozen 0
       have x1:=XC5.out.cell 1 rfl
       have y1:=XC5.out.frozen 1
       have x2:=XC5.out.cell 2 rfl
       have y2:=XC5.out.frozen 2
       have x3:=XC5.out.cell 3 rfl
       have y3:=XC5.out.frozen 3
       have x4:=XC5.out.cell 4 rfl
       have y4:=XC5.out.frozen 4
       have x5:=XC5.out.cell 5 rfl
       have y5:=XC5.out.frozen 5
       have x6:=XC5.out.cell 6 rfl
       have y6:=XC5.out.frozen 6
       have x7:=XC5.out.cell 7 rfl
       have y7:=XC5.out.frozen 7
       have x8:=XC5.out.cell 8 rfl
       have y8:=XC5.out.frozen 8
       have hne1: ¬w1.heap.size=w.heap.size:=by omega
       have hne2: ¬w.heap.size=w1.heap.size:=by omega
       go_region_held2 (fun w'=>w'.cell? ⟨w1.heap.size,12,none⟩=some (.int .i64 m.line)) (go_keep) (fail)
       go_wp2_with fail
       refine bodyPost_ret (cq6 (vs:=aqZ) rfl rfl rfl rfl (lq1 (hqM XC5.out)) Tryz.underlying28 rfl (by kernel_rfl)) rfl ?_
       exact eqv HP.out rfl (gqM HBW.out)
      |some σ'=>
       rw [hen] at hq
       obtain⟨rfl,ρ5,V5,t5,hk5,ho5,hg5⟩:=hq
       have HD:=Hq (show AsK.doLine { σ with line:=j+1 } s= .ok σ' from(dqs (σ:={ σ with line:=j+1 }) HNM.out hm).trans (by rw [HWS.out,gqL HEN.out.1 HEN.out.2];simp only [hen]))
       have K5:=Hq hk5
       have O5:=Hq ho5
       have HI5:=Hq (nqV (show kqf { σ with line:=j+1 } from HI.out) hm hen).1
       have G5:=Hq (GG.out.trans (hg5.mono (by simp)))
       clear hk5 ho5 hg5 hq2 c10
       simp only [Option.isSome_some]
       have HD2:=Hq (HR.out.trans (cqJ HSS.out HD.out))
       have S5:=Hq (cqv SM4.out (by omega) (.inr (Nat.le_trans hss (by omega))) HD.out)
       go_wp2_with fail
       go_roundw
       case rel=>exact⟨j+1,σ',ρ5,V5,t5,by go_num,by omega,HD2,K5,O5,Hq (S5.out.mono (by omega)),HI5,G5⟩
       case measure=>simp [RowKit.intOf];omega
     have hx:=gqJ w1.heap.size _ (some ⟨b,off,none⟩) (s0::ws).length cap4 ((j:Int)+1) w4 _ K4.out.box (show some (Value.bool σ.m.isSome)=some (.bool true) by rw [hm];rfl) (fun e w' h=> ⟨_,h.1⟩) (kqd ρ w1.heap.size w1.heap.size { σ with line:=j+1 } V m U _ _ _ (s0::ws) w4 K4.out (show σ.m.isSome=true by rw [hm];rfl) HMT.out WD.out HSW.out (by simp) HNE.out (show σ.c.pool.length≤_ by omega) (Nat.le_trans HMS.out.code (by omega)) (Nat.le_trans HMS.out.jumps (by omega)) (Nat.le_trans HMS.out.labels (by omega)) (Nat.le_trans HMS.out.traps (by omega)) hend (fun W k1 k2 k3=>kqe ρ w1.heap.size w1.heap.size { σ with line:=j+1 } V m.ff U _ _ _ (s0::ws) W 0 k1 (show σ.m.isSome=true by rw [hm];rfl) k2 k3 HSW.out (by simp) (show σ.c.pool.length≤_ by omega) (Nat.le_trans HMS.out.code (by omega)) (Nat.le_trans HMS.out.jumps (by omega))))
     have HX:=Hq hx
     have HEN:=Hq hend
     clear hx hend hln
     go_wp2_with (go_at_call 28;refine aqa ?_)
     refine aqb ?_
     refine HX.out.mono ?_
     intro e w5 hq
     clear HX
     cases hin:bqI { σ with line:=j+1 } m (s0::ws) with
     |none=>
      rw [hin] at hq
      obtain⟨rfl,hb5⟩:=hq
      have HD:=Hq (show AsK.doLine { σ with line:=j+1 } s= .error (j+1) from(dqs (σ:={ σ with line:=j+1 }) HNM.out hm).trans (by rw [HWS.out];exact iqH HEN.out hin))
      simp only [Option.isSome_none]
      have HP:=Hq (show cq9 aq1 text= .error (j+1,60) from eqQ HBIG.out (HR.out.trans (eqP HSS.out HD.out)))
      have XC5:=Hq (show Bx w5 w.heap.size aqZ 28 from(G4.out.bx XC2.out (by rw [RC.out];decide)).below hb5 (by omega))
      have HBW:=Hq (show Below w.heap.size w w5 from HB2.out.trans (((G4.out.below K2.out.low K2.out.hB (by decide)).trans hb5).mono (by omega)))
      clear hb5
      go_wp2_with (refine wpList_store_row rfl _ _ _ rfl w.heap.size aqZ.toArray rfl rfl _ _ XC5.out (by kernel_rfl) rfl eqR ?_)
      refine bodyPost_ret (cq6 (vs:=aqZ) rfl rfl rfl rfl (XC5.out.row aqZ) Tryz.underlying28 rfl (by kernel_rfl)) rfl ?_
      exact eqv HP.out (by rw [show((j+1:Nat):Int)=(j:Int)+1 from by omega];rfl) (bqz HBW.out _ _ (Nat.le_refl _))
     |some σ'=>
      rw [hin] at hq
      obtain⟨rfl,ρ5,V5,t5,hk5,ho5,hg5⟩:=hq
      have HD:=Hq (show AsK.doLine { σ with line:=j+1 } s= .ok σ' from(dqs (σ:={ σ with line:=j+1 }) HNM.out hm).trans (by rw [HWS.out];exact equ hin))
      have K5:=Hq hk5
      have O5:=Hq ho5
      have HI5:=Hq (oqS (show kqf { σ with line:=j+1 } from HI.out) hm HEN.out (equ hin))
      have G5:=Hq (G4.out.trans (hg5.mono (by simp)))
      have hs5:=((dq4 HEN.out).1 _ (equ hin)).2
      have c10:=hk5.box.cell 10 (show _=some (.bool σ'.m.isSome) from rfl)
      rw [hs5] at c10
      clear hk5 ho5 hg5 hs5
      simp only [Option.isSome_some]
      have HD2:=Hq (HR.out.trans (cqJ HSS.out HD.out))
      have S5:=Hq (cqv SM4.out (by omega) (.inr (Nat.le_trans hss (by omega))) HD.out)
      go_wp2_with fail
      go_roundw
      case rel=>exact⟨j+1,σ',ρ5,V5,t5,by go_num,by omega,HD2,K5,O5,Hq (S5.out.mono (by omega)),HI5,G5⟩
      case measure=>simp [RowKit.intOf];omega
  have hjK: ¬(j:Int) < (K:Int):=by omega
  have HRE:=Hq (show eq3 (aqI text) 0 .new= .ok σ by rw [HR.out,List.drop_of_length_le (by rw [HLEN.out];omega)];rfl)
  have c10:=HK.out.box.cell 10 (show _=some (.bool σ.m.isSome) from rfl)
  cases hm:σ.m with
  |some m=>
   rw [hm] at c10
   obtain⟨U,rfl,hmt⟩: ∃U,t=aq4 m U∧RtC wr1 ρ w1.heap.size m U:=by have h:=HO.out;rw [hm] at h;exact h
   have c12:=HK.out.box.cell 12 (show _=some (.int .i64 m.line) from rfl)
   have HP:=Hq (show cq9 aq1 text= .error (m.line,60) from jqb HBIG.out HRE.out hm)
   have XC5:=Hq (show Bx wr1 w.heap.size aqZ 28 from HG.out.bx XC2.out (by rw [RC.out];decide))
   have HBW:=Hq (show Below w.heap.size w wr1 from HB2.out.trans ((HG.out.below K2.out.low K2.out.hB (by decide)).mono (by omega)))
   clear hmt hm
   go_wp2_with fail
   have x0:=XC5.out.cell 0 rfl
   have y0:=XC5.out.frozen 0
   have x1:=XC5.out.cell 1 rfl
   have y1:=XC5.out.frozen 1
   have x2:=XC5.out.cell 2 rfl
   have y2:=XC5.out.frozen 2
   have x3:=XC5.out.cell 3 rfl
   have y3:=XC5.out.frozen 3
   have x4:=XC5.out.cell 4 rfl
   have y4:=XC5.out.frozen 4
   have x5:=XC5.out.cell 5 rfl
   have y5:=XC5.out.frozen 5
   have x6:=XC5.out.cell 6 rfl
   have y6:=XC5.out.frozen 6
   have x7:=XC5.out.cell 7 rfl
   have y7:=XC5.out.frozen 7
   have x8:=XC5.out.cell 8 rfl
   have y8:=XC5.out.frozen 8
   have hne1: ¬w1.heap.size=w.heap.size:=by omega
   have hne2: ¬w.heap.size=w1.heap.size:=by omega
   go_region_held2 (fun w'=>w'.cell? ⟨w1.heap.size,12,none⟩=some (.int .i64 m.line)) (go_keep) (fail)
   go_wp2_with fail
   refine bodyPost_ret (cq6 (vs:=aqZ) rfl rfl rfl rfl (lq1 (hqM XC5.out)) Tryz.underlying28 rfl (by kernel_rfl)) rfl ?_
   exact eqv HP.out rfl (gqM HBW.out)
  |none=>
   rw [hm] at c10
   have HM:=Hq hm
   have c9:=HK.out.box.cell 9 (show _=some (.int .i64 (bq8 σ.part)) from rfl)
   clear hm
   by_cases hp:σ.part=0
   ·rw [hp] at c9
    have HP:=Hq (show cq9 aq1 text= .error (0,60) from jqc HBIG.out HRE.out HM.out hp)
    have XC5:=Hq (show Bx wr1 w.heap.size aqZ 28 from HG.out.bx XC2.out (by rw [RC.out];decide))
    have HBW:=Hq (show Below w.heap.size w wr1 from HB2.out.trans ((HG.out.below K2.out.low K2.out.hB (by decide)).mono (by omega)))
    clear hp
    go_wp2_with (first| (refine wpList_store_row rfl _ _ _ rfl w.heap.size aqZ.toArray rfl rfl _ _ XC5.out (by kernel_rfl) rfl eqR ?_))
    refine bodyPost_ret (cq6 (vs:=aqZ) rfl rfl rfl rfl (XC5.out.row aqZ) Tryz.underlying28 rfl (by kernel_rfl)) rfl ?_
    exact eqv HP.out rfl (bqz HBW.out _ _ (Nat.le_refl _))
   have hpn: ¬bq8 σ.part=0:=by unfold bq8;split<;>omega
   have hp0:(bq8 σ.part==0)=false:=by simpa using hpn
   have HPT:=Hq hp
   have n1:=HS.out.npool
   clear hp hpn
   go_wp2_with (go_at_call 30;refine aqa ?_)
   refine aqb ?_
   refine(fq3 ρ w1.heap.size w1.heap.size σ V t 3 (by omega) _ HK.out (by omega)).mono ?_
   rintro e w6 ⟨rfl,ρ6,pv6,hk6,hg6⟩
   obtain⟨σ6,hσ6⟩: ∃x:AsK,{ σ.object with part:=3 }=x:=⟨_,rfl⟩
   rw [hσ6] at hk6
   have HC6:=Hq (show σ.object.c=σ6.c by rw [←hσ6])
   have SM6:=Hq (show cqB σ6 (20*j+2) by rw [←hσ6];have h:=dqX HS.out (by omega);exact⟨h.npool,h.nifs,h.nflds,h.nmths,h.pool,h.this,h.sup,h.ifs,h.flds,h.mths,by show 3≤5;omega,h.op⟩)
   obtain⟨V6,hV6⟩: ∃x:RkV,{ V with pv:=pv6 }=x:=⟨_,rfl⟩
   rw [hV6] at hk6
   have K6:=Hq hk6
   have G6:=Hq (HG.out.trans (hg6.mono (by simp)))
   clear hk6 hg6 hσ6 hV6 c9 c10
   go_wp2_with (first| (refine cq5 rfl _ _ rfl w1.heap.size rfl (σ6.c.cells V6.pv V6.iv V6.fv V6.tv) (oqa K6.out.box) _ Tryz.underlying28 rfl (by kernel_rfl) ?_) | (go_at_call 31;refine aqa ?_))
   refine aqb ?_
   refine(HCK σ6.c V6.pv V6.iv V6.fv V6.tv _ _ (jqg K6.out SM6.out (by omega)) (fqb SM6.out)).mono ?_
   rintro e w7 ⟨rfl,hb7⟩
   have K7:=Hq (K6.out.below hb7)
   have G7:=Hq (G6.out.trans (Chg.of_below hb7))
   clear hb7
   have XC5:=Hq (show Bx w7 w.heap.size aqZ 28 from G7.out.bx XC2.out (by rw [RC.out];decide))
   have HBW:=Hq (show Below w.heap.size w w7 from HB2.out.trans ((G7.out.below K2.out.low K2.out.hB (by decide)).mono (by omega)))
   obtain⟨ck,hck⟩: ∃ck,aq1 σ6.c=ck:=⟨_,rfl⟩
   have HCE:=Hq hck
   rw [hck]
   clear hck
   by_cases hk0:ck=0
   ·have HP:=Hq (show cq9 aq1 text= .ok σ6.c by rw [←HC6.out];exact jqd HBIG.out HRE.out HM.out HPT.out (by rw [HC6.out,HCE.out];exact hk0))
    subst hk0
    go_wp2_with (first| (refine cq5 rfl _ _ rfl w1.heap.size rfl (σ6.c.cells V6.pv V6.iv V6.fv V6.tv) (oqa K7.out.box) _ Tryz.underlying28 rfl (by kernel_rfl) ?_) | (refine wpList_store_row rfl _ _ _ rfl w.heap.size (σ6.c.cells V6.pv V6.iv V6.fv V6.tv).toArray rfl rfl _ _ XC5.out (by kernel_rfl) rfl (kqg K7.out) ?_))
    refine bodyPost_ret (cq6 (vs:=σ6.c.cells V6.pv V6.iv V6.fv V6.tv) rfl rfl rfl rfl (XC5.out.row (σ6.c.cells V6.pv V6.iv V6.fv V6.tv)) Tryz.underlying28 rfl (by kernel_rfl)) rfl ?_
    refine⟨bqz HBW.out _ _ (Nat.le_refl _), ?_⟩
    rw [HP.out]
    refine⟨V6.pv,V6.iv,V6.fv,V6.tv, ?_,rfl⟩
    have hr0:ρ6 w.heap.size=0:=(G7.out.blk w.heap.size (Nat.lt_of_lt_of_le (by omega) (Nat.le_refl _)) (by rw [RC.out];decide)).2.trans RC.out
    have K8:=K7.out.keep (jqe hr0 (σ6.c.cells V6.pv V6.iv V6.fv V6.tv).toArray) (K7.out.low.mono (by simp)) (by intro c h1 h2 hm;simp at hm;omega)
    exact(jqg K8 SM6.out (by omega)).mono fun g _ hg=>by omega
   have hk1:(ck !=0)=true:=by simpa using hk0
   have HP:=Hq (show cq9 aq1 text= .error (0,ck) from by
    have h:=lqN (ck:=aq1) HBIG.out HRE.out HM.out HPT.out (by rw [HC6.out,HCE.out];exact hk0)
    rw [HC6.out,HCE.out] at h
    exact h)
   go_wp2_with (first| (refine wpList_store_row rfl _ _ _ rfl w.heap.size aqZ.toArray rfl rfl _ _ XC5.out (by kernel_rfl) rfl eqR ?_))
   refine bodyPost_ret (cq6 (vs:=aqZ) rfl rfl rfl rfl (XC5.out.row aqZ) Tryz.underlying28 rfl (by kernel_rfl)) rfl ?_
   exact eqv HP.out rfl (bqz HBW.out _ _ (Nat.le_refl _))
set_option maxHeartbeats 2000000
def Cel (W:World) (g n:Nat):Prop:= ∃c e,W.heap[g]?=some (.cells c e (0,0))∧n≤c.size
theorem Cel.at' {W:World} {g n i:Nat} (h:Cel W g n) (hi:i<n): ∃u,W.cell? ⟨g,i,none⟩=some u:=by
 obtain⟨c,e,hc,hn⟩:=h
 refine⟨c[i]'(by omega), ?_⟩
 unfold World.cell?
 rw [hc]
 simp [show i<c.size by omega]
theorem Cel.free {W:World} {g n:Nat} (h:Cel W g n) (i:Nat):W.frozen? ⟨g,i,none⟩=false:=by
 obtain⟨c,e,hc,hn⟩:=h
 unfold World.frozen?
 rw [hc]
 simp
theorem Cel.lt {W:World} {g n:Nat} (h:Cel W g n):g<W.heap.size:=by
 obtain⟨c,e,hc,hn⟩:=h
 exact(Array.getElem?_eq_some_iff.1 hc).1
theorem Cel.set {W:World} {g n:Nat} (h:Cel W g n) (b o:Nat) (v:Value):Cel (W.setCell ⟨b,o,none⟩ v) g n:=by
 obtain⟨c,e,hc,hn⟩:=h
 by_cases hb:g=b
 ·subst hb
  have hx:Bx (W.setCell ⟨g,o,none⟩ v) g (c.toList.set o v) e:=(show Bx W g c.toList e from hc).set o v
  exact⟨(c.toList.set o v).toArray,e,hx,by simpa using hn⟩
 exact⟨c,e,(Below.heap_setCell _ _ _ _ hb).trans hc,hn⟩
structure Zd (wr:Nat→Prop) (B:Nat) (w W:World):Prop where
 bel:Below B w W
 keep: ∀g, ¬wr g→W.heap[g]?=w.heap[g]?
 cel: ∀g n,Cel w g n→Cel W g n
theorem Zd.refl (wr:Nat→Prop) (B:Nat) (w:World):Zd wr B w w:=⟨Below.refl _ _,fun _ _=>rfl,fun _ _ h=>h⟩
theorem Zd.set {wr:Nat→Prop} {B:Nat} {w W:World} (h:Zd wr B w W) {b:Nat} (hb:wr b) (hB:B≤b) (o:Nat) (v:Value):Zd wr B w (W.setCell ⟨b,o,none⟩ v):=
 ⟨h.bel.setCell hB _,fun g hg=> (Below.heap_setCell _ _ _ _ (show g≠b from fun e=>hg (by rw [e];exact hb))).trans (h.keep g hg),fun g n hc=> (h.cel g n hc).set b o v⟩
structure DIn (w w':World) (wr:Nat→Prop) (c:aqj) (pv tv:Value):Prop where
 new: ∀g,wr g→w.heap.size≤g∧g<w'.heap.size
 pool:(pv= .slice none 0 0∧c.pool.length=0)∨ ∃g k,pv= .slice (some ⟨g,0,none⟩) c.pool.length k∧wr g∧Cel w' g (c.pool.length*5)
 np:c.pool.length≤1048576
 mths: ∃(ms:List Value) (A:Option Addr) (k:Nat),tv= .slice A ms.length k∧ms.length≤1048576∧ ∀i v,ms[i]?=some v→(∃gt,A=some ⟨gt,0,none⟩∧ ¬wr gt∧gt<w'.heap.size∧w'.cell? ⟨gt,i*8+6,none⟩=some v)∧ ∃n,n≤1048576∧((v= .slice none 0 0∧n=0)∨ ∃g k,v= .slice (some ⟨g,0,none⟩) n k∧wr g∧Cel w' g n)
theorem oqU {w:World} {B size n:Nat} {e:TypeId} {g cap:Nat} {xs:List Value} (h:w.ownsRow B e size (.slice (some ⟨g,0,none⟩) n cap) n xs) (m:Nat) (hm:xs.length=m):Cel w g m:=by
 rcases h.2 with h2| ⟨g',cap',cur,e1,_,h4,_⟩
 ·cases h2.1
 cases e1
 refine⟨cur,e,h4, ?_⟩
 rcases Nat.eq_zero_or_pos m with h0|h0
 ·omega
 have hc:=h.cellAt (m - 1) (by have:=h.1;omega)
 rw [List.getElem?_eq_getElem (by omega)] at hc
 unfold World.cell? at hc
 rw [h4] at hc
 simp at hc
 have:=(Array.getElem?_eq_some_iff.1 hc).1
 omega
theorem lq4 {w w':World} {p:Except (Nat×Int) aqj} {e:Ending} (h:dq3 w p e w'):Below w.heap.size w w'∧ ∃c a1 a2 a3 a4 L er wr,e= .returned (.tuple #[.agg (aqj.cells c a1 a2 a3 a4).toArray, .int .i64 L, .int .i64 er])∧a2.oneCell'=true∧a3.oneCell'=true∧DIn w w' wr c a1 a4:=by
 obtain⟨hb,h⟩:=h
 refine⟨hb, ?_⟩
 cases p with
 |error q=>
  exact⟨noC, .slice none 0 0, .slice none 0 0, .slice none 0 0, .slice none 0 0,_,_,fun _=>False,h,rfl,rfl,⟨fun g h=>h.elim, .inl ⟨rfl,rfl⟩,Nat.zero_le _, [],none,0,rfl,Nat.zero_le _,fun i v h=>by simp at h⟩⟩
 |ok c=>
  obtain⟨ρ,B,kb,σ,V,h1,h2,h3,h4,h5⟩:=h
  subst h2
  have hl: ∀g,1≤ρ g→B≤g∧g<w'.heap.size:=fun g hg=>h4.low g (by omega)
  have o2:V.iv.oneCell'=true:=by
   rcases Go.Joins.ownsRow_forms h4.ifs.1 with⟨e,_⟩ | ⟨g,k,e⟩ <;>rw [e] <;>rfl
  have o3:V.fv.oneCell'=true:=by
   rcases Go.Joins.ownsRow_forms h4.flds.1 with⟨e,_⟩ | ⟨g,k,e⟩ <;>rw [e] <;>rfl
  refine⟨_,_,_,_,_,_,_,fun g=>ρ g=3∨ρ g=7,h5,o2,o3,⟨fun g hg=> ?_, ?_,by have:=h3.npool;omega, ?_⟩⟩
  ·have:=hl g (by omega)
   exact⟨by omega,this.2⟩
  ·rcases Go.Joins.ownsRow_forms h4.pool.1 with⟨e,h0⟩ | ⟨g,k,e⟩
   ·exact .inl ⟨e,h0⟩
   have ho:=h4.pool.1
   rw [e] at ho
   exact .inr ⟨g,k,e, .inl (h4.pool.2 g (by rw [e];rfl)),oqU ho _ (by have:=ho.1;simpa using this)⟩
  obtain⟨ms,m1,m2,m3⟩:=h4.mths
  have hml:ms.length=σ.c.mths.length:=by rw [←m1,List.length_map]
  have hnm:=h3.nmths
  obtain⟨A,k,htv⟩:=aqf m2.1
  refine⟨ms.map (fun q=>q.2.1),A,k,by rw [htv,List.length_map],by rw [List.length_map];omega,fun i v hv=> ?_⟩
  rw [List.getElem?_map] at hv
  rcases hq:ms[i]? with _|q
  ·rw [hq] at hv;cases hv
  rw [hq] at hv
  injection hv with hv
  subst hv
  have hlt:=(List.getElem?_eq_some_iff.1 hq).1
  have hms:=m3 q (List.mem_of_getElem? hq)
  refine⟨?_,q.1.code.length, ?_, ?_⟩
  ·rcases Go.Joins.ownsRow_forms m2.1 with⟨_,h0⟩ | ⟨g,k2,e⟩
   ·omega
   rw [e] at htv
   injection htv with e1 _ _
   have hg:=m2.2 g (by rw [e];rfl)
   have ho:=m2.1
   rw [e] at ho
   refine⟨g,e1.symm,by rw [hg];decide,(ho.lt g rfl).2, ?_⟩
   have hr:=dqa (fun m:aqA×Value×Value=>m.1.cells m.2.1 m.2.2) 8 (fun _=>rfl) ms i q hq 6 (by omega)
   have hx:=(ho.cellAt (i*8+6) (by have:=ho.1;have:=(List.getElem?_eq_some_iff.1 (hr.trans (show _=some q.2.1 from rfl))).1;unfold aq8 at*;omega))
   exact hx.trans (hr.trans rfl)
  ·obtain⟨_,_,_,_,h2,_⟩:=hms.hcode
   exact h2
  obtain⟨A',cap',ev,h6,h7,h8,h9⟩:=hms.hcode
  rcases hms.soft with hs| ⟨g,n,k3,cc,e,e1,e2,e3⟩
  ·rw [ev] at hs
   injection hs with q1 q2 q3
   exact .inl ⟨show q.2.1=_ by rw [ev,q1,q2,q3],q2⟩
  rw [ev] at e1
  injection e1 with q1 q2 q3
  subst q1
  refine .inr ⟨g,cap',ev, .inr e3,cc,e,e2, ?_⟩
  rcases Nat.eq_zero_or_pos q.1.code.length with h0|h0
  ·omega
  obtain⟨b,off,eb,_,_,hc⟩:=h9 h0
  cases eb
  have hx:=hc (q.1.code.length - 1) _ (List.getElem?_eq_getElem (by rw [List.length_map];omega))
  unfold World.cell? at hx
  rw [e2] at hx
  simp at hx
  have:=(Array.getElem?_eq_some_iff.1 hx).1
  omega
end Go.Proofs.YtlcidkiplidamaaGreatDoor
