/- Part 34 of what the laws rest on: walks. Conditions: those that each theorem names. -/
import Derived.Test.YtdbniocnjhfhdaaGreatDoorB22
set_option linter.unusedSimpArgs false
set_option linter.unusedVariables false
namespace Go.Proofs.YtdbniocnjhfhdaaGreatDoor
open Go Go.RowKit Lib
section Until
variable {P:Program} {ops:Array Oper} {Q:Exit→Act→World→Prop} {S:World→Prop} {z:Nat}
def jqS (P:Program) (ops:Array Oper) (Q:Exit→Act→World→Prop) (S:World→Prop) (z:Nat):Nat→Array Bool→Act→World→Prop
 |0,L,a,w=>Region.ready .any ops L= []∧Q .normal a w
 |f+1,L,a,w=> (Region.ready .any ops L= []→Q .normal a w)∧ ∀i∈Region.ready .any ops L,wpOp P ops Q i (fun a' w'=> (i≠z→S w')∧jqS P ops Q S z f (L.setIfInBounds i true) a' w') a w
theorem hq7: ∀(f:Nat) (L:Array Bool) (a:Act) (w:World),jqS P ops Q S z f L a w→wpAny P .any ops Q f L a w
 |0,_,_,_,h=>h
 |f+1,_,_,_,h=> ⟨h.1,fun i hi=>wpOp_mono (fun a' w' k=>hq7 f _ a' w' k.2) (h.2 i hi)⟩
def mqa (ops:Array Oper) (z i:Nat):Bool:=match ops[z]? with|some o=>o.after.any fun e=>Region.binds .any e&&e.on==i|none=>false
theorem nqy {i:Nat} {oi:Oper} {v:Value} (hi:ops[i]?=some oi) (hw:mqa ops z i=true) (hs:Region.noSelect ops=true) (hQ: ∀c a w,Q (.panic c) (a.put oi.dst v) w→Q (.panic c) a w):
  ∀(f:Nat) (L:Array Bool) (a:Act) (w:World),(∀j oj,ops[j]?=some oj→j≠i→L.getD j true=false→(∀e∈oj.after,Region.binds .any e=true→e.on≠i)→oi.apart ops oj=true)→i∈Region.ready .any ops L→YieldsIf P ops S oi v a→S w→
   jqS P ops Q S z f (L.setIfInBounds i true) (a.put oi.dst v) w→jqS P ops Q S z (f+1) L a w:=by
 have hsel:=Region.noSelect_spec hs
 intro f
 induction f with
 |zero=>
  intro L a w hfr hr hy hS H
  refine⟨fun h=> (by rw [h] at hr;cases hr),fun j hj=> ?_⟩
  by_cases hji:j=i
  ·subst hji
   exact hy.wpOp hi hS ⟨fun _=>hS,H⟩
  ·have:=ready_mono hj hji
   rw [H.1] at this
   cases this
 |succ f ih=>
  intro L a w hfr hr hy hS H
  refine⟨fun h=> (by rw [h] at hr;cases hr),fun j hj=> ?_⟩
  by_cases hji:j=i
  ·subst hji
   exact hy.wpOp hi hS ⟨fun _=>hS,H⟩
  obtain⟨hjun,oj,hoj,hall⟩:=mem_ready.1 hj
  have hno: ∀e∈oj.after,Region.binds .any e=true→e.on≠i:=fun e he hb heq=>by
   have h1:=hall e he hb
   have h0:=(mem_ready.1 hr).1
   rw [heq] at h1
   rcases Nat.lt_or_ge i L.size with h'|h'
   ·simp [h'] at h0 h1
    rw [h0] at h1
    cases h1
   simp [Array.getElem?_eq_none h'] at h1
  have hjz:j≠z:=by
   rintro rfl
   unfold mqa at hw
   rw [hoj] at hw
   obtain⟨e,he,h2⟩:=Array.any_eq_true'.1 hw
   simp only [Bool.and_eq_true,beq_iff_eq] at h2
   exact hno e he h2.1 h2.2
  have h2:=wpOp_putIf hoj (hfr j oj hoj hji hjun hno) (fun cs b=>hsel i oi cs b hi) (fun cs b=>hsel j oj cs b hoj) hQ hy (H.2 j (ready_mono hj hji))
  refine wpOp_mono (fun a' w' h3=> ⟨h3.2.1,ih (L.setIfInBounds j true) a' w' (fun k ok hk hki hun hn=> ?_) (ready_mono hr (Ne.symm hji)) h3.1 (h3.2.1 hjz) ?_⟩) h2
  ·refine hfr k ok hk hki ?_ hn
   by_cases hjk:j=k
   ·subst hjk
    exact hjun
   rw [getD_set_ne true hjk] at hun
   exact hun
  rw [Array.setIfInBounds_comm _ _ hji]
  exact h3.2.2
def unB (ops:Array Oper) (L:Array Bool) (z i:Nat):Bool:=Region.noSelect ops&&Region.free .any ops L i&&(Region.ready .any ops L).contains i&&mqa ops z i
theorem oqw (i:Nat) {oi:Oper} (v:Value) {f:Nat} {L:Array Bool} {a:Act} {w:World} (hi:ops[i]?=some oi) (hb:unB ops L z i=true) (hQ: ∀c a w,Q (.panic c) (a.put oi.dst v) w→Q (.panic c) a w)
  (hw:Region.wanted oi (yielded ops a.tmps)=true) (hy: ∀w,S w→(execOp a.eval oi).run P w= .ok (.value v) w) (hS:S w) (h:jqS P ops Q S z f (L.setIfInBounds i true) (a.put oi.dst v) w):jqS P ops Q S z (f+1) L a w:=by
 simp only [unB,Bool.and_eq_true] at hb
 obtain⟨⟨⟨h1,h2⟩,h3⟩,h4⟩:=hb
 exact nqy hi h4 h1 hQ f L a w (Region.free_spec hi h2) (by simpa using h3) (.inl ⟨hw,hy⟩) hS h
def oqE (P:Program) (ops:Array Oper) (S:World→Prop):List Nat→Act→(Act→Prop)→Prop
 | [],a,K=>K a
 |i::r,a,K=> ∃oi v,ops[i]?=some oi∧Region.wanted oi (yielded ops a.tmps)=true∧(∀w,S w→(execOp a.eval oi).run P w= .ok (.value v) w)∧oqE P ops S r (a.put oi.dst v) K
theorem mqb {i:Nat} {r:List Nat} {oi:Oper} {a:Act} {K:Act→Prop} (v:Value) (hi:ops[i]?=some oi) (hw:Region.wanted oi (yielded ops a.tmps)=true) (hy: ∀w,S w→(execOp a.eval oi).run P w= .ok (.value v) w) (h:oqE P ops S r (a.put oi.dst v) K):oqE P ops S (i::r) a K:=⟨oi,v,hi,hw,hy,h⟩
theorem nqY {a:Act} {K:Act→Prop} (h:K a):oqE P ops S [] a K:=h
def unsB (ops:Array Oper) (z:Nat):Array Bool→List Nat→Bool
 |_, []=>true
 |L,i::r=>unB ops L z i&&unsB ops z (L.setIfInBounds i true) r
def oqX (L:Array Bool) (l:List Nat):Array Bool:=l.foldl (fun L i=>L.setIfInBounds i true) L
theorem oqY (hQ: ∀c a w d v,Q (.panic c) (a.put d v) w→Q (.panic c) a w) {w:World} (hS:S w): ∀(l:List Nat) (f:Nat) (L:Array Bool) (a:Act),unsB ops z L l=true→oqE P ops S l a (fun a'=>jqS P ops Q S z f (oqX L l) a' w)→jqS P ops Q S z (f+l.length) L a w
 | [],_,_,_,_,h=>h
 |i::r,f,L,a,hb,h=>by
  obtain⟨oi,v,hi,hw,hy,h⟩:=h
  unfold unsB at hb
  rw [Bool.and_eq_true] at hb
  exact oqw i v hi hb.1 (fun c a w=>hQ c a w _ _) hw hy hS (oqY hQ hS r f _ _ hb.2 h)
theorem mqc (l:List Nat) (f:Nat) {F:Nat} {L:Array Bool} {a:Act} {w:World} (hF:F=f+l.length) (hb:unsB ops z L l=true) (hQ: ∀c a w d v,Q (.panic c) (a.put d v) w→Q (.panic c) a w) (hS:S w) (h:oqE P ops S l a (fun a'=>jqS P ops Q S z f (oqX L l) a' w)):jqS P ops Q S z F L a w:=by
 subst hF
 exact oqY hQ hS l f L a hb h
theorem cqf {i:Nat} {o:Oper} {f:Nat} {L:Array Bool} {a:Act} {w:World} (hr:Region.ready .any ops L= [i]) (ho:ops[i]?=some o)
  (h: ∀K:Act→World→Prop,Shut (∀a w,(i≠z→S w)→((i≠z→S w)→jqS P ops Q S z f (L.setIfInBounds i true) a w)→K a w)→if Region.wanted o (yielded ops a.tmps)=true then Oper.wp P o a w K Q else K (a.put o.dst undef) w):jqS P ops Q S z (f+1) L a w:=by
 refine⟨fun h0=> (by rw [hr] at h0;cases h0),fun j hj=> ?_⟩
 rw [hr] at hj
 obtain rfl:=List.mem_singleton.1 hj
 exact wpOp_step ho fun K hK=>h K fun a w hS hW=>hK a w ⟨hS,hW hS⟩
theorem mqd {f:Nat} {L:Array Bool} {a:Act} {w:World} (hr:Region.ready .any ops L= []) (h:Q .normal a w):jqS P ops Q S z f L a w:=by
 cases f with
 |zero=>exact⟨hr,h⟩
 |succ f=>exact⟨fun _=>h,fun i hi=>by rw [hr] at hi;cases hi⟩
theorem fqg {id:Nat} {a:Act} {w:World} (S:World→Prop) (z:Nat) (hm:P.follows .mixedOrders=true) (hS:S w.drew) (h:S w.drew→jqS P ops Q S z ops.size (Array.replicate ops.size false) a w.drew):(Code.region id ops true).wp P Q a w:=
 wp_region_any hm (hq7 _ _ _ _ (h hS))
end Until
set_option maxRecDepth 100000
set_option maxHeartbeats 60000000
theorem dq6 (s:ByteArray) (w:World) (h:s.size≤65536):Calls Tryz.prog 99 #[.string s] w fun e w'=>e= .returned (.string s)∧Below w.heap.size w w':=by
 go_enter Tryz.func99,Tryz.ntmps99
 go_wp2_with (go_at_call 129;refine(Tryz.stringslite_Clone s _ Om).mono ?_;rintro e w1 ⟨rfl,hb⟩;have HB:=Hq hb;clear hb)
 go_ret
 exact⟨rfl,HB.out⟩
theorem OlB.of_but {w:World} {cells tc tc':List Value} {G M:Nat} {wk W':World} (h:OlB w cells G tc wk) (hb:But M [G+1] wk W') (hM:G+1<M) (hG:w.heap.size+2≤G) (hX:Bx W' (G+1) tc' 39):OlB w cells G tc' W':=
 ⟨⟨h.ol.bel.trans (hb.mono (S':= []) Om (fun k hk hm=>by simp at hm;omega)).below,(hb.block _ Om Sd).trans h.ol.bc,(hb.block _ Om Sd).trans h.ol.nr⟩,(hb.block _ Om Sp).trans h.bb,hX⟩
theorem jqf (c:aqc) (p i f m:Value) (ok:Nat→Prop) (w:World) (h:aqy w ok c p i f m) (hFi:dql c) (E:Int)
  (hchk: ∀W,aqy W ok c p i f m→Calls Tryz.prog 95 #[bqb c p i f m] W fun e W'=>e= .returned (.int .i64 E)∧Below W.heap.size W W') (hil:c.ifs.length≤64) (hfl:c.flds.length≤64) (hml:c.mths.length≤64):
  Calls Tryz.prog 68 #[bqb c p i f m] w (iqw c E w):=by
 obtain⟨Ap,kp,rfl,hkp1,hkp2⟩:=aqd h.hpool
 obtain⟨Ai,ki,rfl,hki1,hki2⟩:=aqd h.hifs
 obtain⟨Af,kf,rfl,hkf1,hkf2⟩:=aqd h.hflds
 obtain⟨ms,hms1,hms2,hms3⟩:=h.hmths
 obtain⟨Am,km,rfl,hkm1,hkm2⟩:=aqd hms2
 have H0:=Hq h
 have HN1:=Hq hFi.this
 have HN2:=Hq hFi.sup
 have HF:=Hq (fun k hk=> (hFi.pool k hk).1)
 have HFI:=Hq hFi.ifs
 have HTX:=Hq (show∀k∈c.pool,k.text.size≤65536 from fun k hk=> (hFi.pool k hk).2.2.1)
 have HFF:=Hq hFi.flds
 have HFM:=Hq hFi.mths
 have HCH:=Hq hchk
 have B1:=Hq (show OlW w [.int .i64 c.minor, .int .i64 c.major, .slice Ap c.pool.length kp, .int .i64 c.acc, .int .i64 c.this, .int .i64 c.sup, .slice Ai c.ifs.length ki, .slice Af c.flds.length kf, .slice Am c.mths.length km] ((w.alloc (.cells ([.int .i64 c.minor, .int .i64 c.major, .slice Ap c.pool.length kp, .int .i64 c.acc, .int .i64 c.this, .int .i64 c.sup, .slice Ai c.ifs.length ki, .slice Af c.flds.length kf, .slice Am c.mths.length km]).toArray 58)).alloc (.cells aq0.toArray 39)) from⟨(Rf9.alloc Nr _).alloc Sp _,(aql w _ _).below (Rf9.alloc Nr _) Sp,aqh _ _ _ _ Sp⟩)
 have HMS:=Hq hms1
 have HM2:=Hq hms2
 have HM3:=Hq hms3
 clear h hFi hchk hms1 hms2 hms3
 rw [aqe]
 go_enter Tryz.func68,Tryz.ntmps68
 go_wp2_with (first
  | (refine wpList_load_row rfl _ _ rfl w.heap.size rfl _ _ _ _ B1.out.bc Tryz.underlying58 rfl Kq9 ?_)
  | (go_at_call 95;refine aqa ?_))
 refine aqb ?_
 refine(HCH.out _ (H0.out.keep (aqC.of_below B1.out.bel))).mono ?_
 rintro e w2 ⟨rfl,hb⟩
 have B2:=Hq (B1.out.below hb)
 have hz2:=B2.out.nr.lt
 clear hb B1 HCH
 by_cases hE:E=0
 ·subst hE
  go_wp2_with (first
   | (refine wpList_load_row rfl _ _ rfl w.heap.size rfl _ _ _ _ (B2.out.below (Rf9.alloc Nr _)).bc Tryz.underlying58 rfl Kq9 ?_)
   | (refine wpList_load_row rfl _ _ rfl w.heap.size rfl _ _ _ _ B2.out.bc Tryz.underlying58 rfl Kq9 ?_)
   | (refine wpList_store_row rfl _ _ _ rfl w2.heap.size _ rfl rfl _ _ (aql _ [.int .i64 0, .int .i64 0, .slice none 0 0, .int .i64 0, .int .i64 0, .int .i64 0, .slice none 0 0, .slice none 0 0, .slice none 0 0] _) Kq9 rfl Oc ?_;refine aqa ?_))
  refine aqb ?_
  have B3:=Hq ((B2.out.below (Rf9.alloc Nr (.cells #[.int .i64 0, .int .i64 0, .slice none 0 0, .int .i64 0, .int .i64 0, .int .i64 0, .slice none 0 0, .slice none 0 0, .slice none 0 0] 179))).row w2.heap.size ([.int .i64 c.minor, .int .i64 c.major, .slice Ap c.pool.length kp, .int .i64 c.acc, .int .i64 c.this, .int .i64 c.sup, .slice Ai c.ifs.length ki, .slice Af c.flds.length kf, .slice Am c.mths.length km]).toArray Om)
  have K3:=Hq ((aql w2 [.int .i64 0, .int .i64 0, .slice none 0 0, .int .i64 0, .int .i64 0, .int .i64 0, .slice none 0 0, .slice none 0 0, .slice none 0 0] 179).row [.int .i64 c.minor, .int .i64 c.major, .slice Ap c.pool.length kp, .int .i64 c.acc, .int .i64 c.this, .int .i64 c.sup, .slice Ai c.ifs.length ki, .slice Af c.flds.length kf, .slice Am c.mths.length km])
  have hz3:((w2.alloc (.cells #[.int .i64 0, .int .i64 0, .slice none 0 0, .int .i64 0, .int .i64 0, .int .i64 0, .slice none 0 0, .slice none 0 0, .slice none 0 0] 179)).setRow w2.heap.size ([.int .i64 c.minor, .int .i64 c.major, .slice Ap c.pool.length kp, .int .i64 c.acc, .int .i64 c.this, .int .i64 c.sup, .slice Ai c.ifs.length ki, .slice Af c.flds.length kf, .slice Am c.mths.length km]).toArray).heap.size=w2.heap.size+1:=by simp
  generalize (w2.alloc (.cells #[.int .i64 0, .int .i64 0, .slice none 0 0, .int .i64 0, .int .i64 0, .int .i64 0, .slice none 0 0, .slice none 0 0, .slice none 0 0] 179)).setRow w2.heap.size ([.int .i64 c.minor, .int .i64 c.major, .slice Ap c.pool.length kp, .int .i64 c.acc, .int .i64 c.this, .int .i64 c.sup, .slice Ai c.ifs.length ki, .slice Af c.flds.length kf, .slice Am c.mths.length km]).toArray=w3 at*
  obtain⟨G,hG⟩: ∃G,w2.heap.size=G:=⟨_,rfl⟩
  rw [hG] at hz3 hz2 K3⊢
  have HG2:w.heap.size+2≤G:=by omega
  clear B2 hG
  have m3:=B3.out.bc.cell 3 rfl
  go_wp2_with (first
   | (refine wpList_store_row rfl _ _ _ rfl (G+1) _ rfl rfl _ _ (aqh w3 aq0 _ (G+1) hz3.symm) Kq9 rfl Oc ?_;refine aqa ?_))
  refine aqb ?_
  have B4:=Hq (show OlB w [.int .i64 c.minor, .int .i64 c.major, .slice Ap c.pool.length kp, .int .i64 c.acc, .int .i64 c.this, .int .i64 c.sup, .slice Ai c.ifs.length ki, .slice Af c.flds.length kf, .slice Am c.mths.length km] G [.string ⟨#[]⟩, .string ⟨#[]⟩, .int .i64 c.acc, .slice none 0 0, .slice none 0 0, .slice none 0 0] ((w3.alloc (.cells #[.string ⟨#[]⟩, .string ⟨#[]⟩, .int .i64 0, .slice none 0 0, .slice none 0 0, .slice none 0 0] 39)).setRow (G+1) #[.string ⟨#[]⟩, .string ⟨#[]⟩, .int .i64 c.acc, .slice none 0 0, .slice none 0 0, .slice none 0 0]) from
   ⟨(B3.out.below (Rf9.alloc Nr _)).row _ _ Om,(show _=_ from(setRow_other _ _ _ _ Om).trans (K3.out.below (Rf9.alloc Nr _) K3.out.lt)),(aqh w3 [.string ⟨#[]⟩, .string ⟨#[]⟩, .int .i64 0, .slice none 0 0, .slice none 0 0, .slice none 0 0] _ (G+1) hz3.symm).row _⟩)
  have hz4:((w3.alloc (.cells #[.string ⟨#[]⟩, .string ⟨#[]⟩, .int .i64 0, .slice none 0 0, .slice none 0 0, .slice none 0 0] 39)).setRow (G+1) #[.string ⟨#[]⟩, .string ⟨#[]⟩, .int .i64 c.acc, .slice none 0 0, .slice none 0 0, .slice none 0 0]).heap.size=G+2:=by simp;omega
  generalize (w3.alloc (.cells #[.string ⟨#[]⟩, .string ⟨#[]⟩, .int .i64 0, .slice none 0 0, .slice none 0 0, .slice none 0 0] 39)).setRow (G+1) #[.string ⟨#[]⟩, .string ⟨#[]⟩, .int .i64 c.acc, .slice none 0 0, .slice none 0 0, .slice none 0 0]=w4 at*
  clear B3 K3 m3
  have m4:=B4.out.ol.bc.cell 4 rfl
  go_wp2_with (first
   | (refine wpList_load_row rfl _ _ rfl G rfl _ _ _ _ B4.out.bb Tryz.underlying179 rfl Kq9 ?_)
   | (go_at_call 96;refine aqa ?_))
  refine aqb ?_
  refine(dqV c Ap kp (.slice Ai c.ifs.length ki) (.slice Af c.flds.length kf) (.slice Am c.mths.length km) c.this ok _ ⟨(B4.out.at H0.out).hpool,rfl,rfl,rfl⟩ HN1.out HF.out).mono ?_
  rintro e w5 ⟨rfl,hb⟩
  simp only [cqh]
  have hz5:=hb.size
  have B5:=Hq (B4.out.below hb)
  have B6:=Hq ((B4.out.below hb).set HG2 0 (.string ((aqE c.pool c.this).getD ⟨#[]⟩)))
  have t0:=B5.out.tb.cell 0 rfl
  have z0:=B5.out.tb.frozen 0
  have m5:=B6.out.ol.bc.cell 5 rfl
  clear hb m4 B4
  go_wp2_with (first
   | (refine wpList_load_row rfl _ _ rfl G rfl _ _ _ _ B6.out.bb Tryz.underlying179 rfl Kq9 ?_)
   | (go_at_call 96;refine aqa ?_))
  refine aqb ?_
  refine(dqV c Ap kp (.slice Ai c.ifs.length ki) (.slice Af c.flds.length kf) (.slice Am c.mths.length km) c.sup ok _ ⟨(B6.out.at H0.out).hpool,rfl,rfl,rfl⟩ HN2.out HF.out).mono ?_
  rintro e w6 ⟨rfl,hb⟩
  simp only [cqh]
  have hz6:=hb.size
  simp only [World.size_setCell] at hz6
  have B7:=Hq (B6.out.below hb)
  have B8:=Hq ((B6.out.below hb).set HG2 1 (.string ((aqE c.pool c.sup).getD ⟨#[]⟩)))
  have t1:=B7.out.tb.cell 1 rfl
  have z1:=B7.out.tb.frozen 1
  have m6:=B8.out.ol.bc.cell 6 rfl
  clear hb m5 B6 t0 z0
  go_wp2_with fail
  have hz7:(w6.setCell ⟨G+1,1,none⟩ (.string ((aqE c.pool c.sup).getD ⟨#[]⟩))).heap.size=w6.heap.size:=by simp
  generalize w6.setCell ⟨G+1,1,none⟩ (.string ((aqE c.pool c.sup).getD ⟨#[]⟩))=w7 at*
  clear m6 t1 z1 B5 B7
  go_loopw [55] (fun i wr=> ∃(k:Nat) (pv:Value),k≤c.ifs.length∧i= .int .i64 k∧G+2≤wr.heap.size∧Hid (OlB w [.int .i64 c.minor, .int .i64 c.major, .slice Ap c.pool.length kp, .int .i64 c.acc, .int .i64 c.this, .int .i64 c.sup, .slice Ai c.ifs.length ki, .slice Af c.flds.length kf, .slice Am c.mths.length km] G [.string ((aqE c.pool c.this).getD ⟨#[]⟩), .string ((aqE c.pool c.sup).getD ⟨#[]⟩), .int .i64 c.acc,pv, .slice none 0 0, .slice none 0 0] wr)∧Hid (wr.ownsRow (G+2) 9 1 pv k ((c.ifs.take k).map fun n=> .string (dqW c.pool n)))) (fun i _=>c.ifs.length - (RowKit.intOf i).toNat)
  case atStart=>exact⟨0, .slice none 0 0,by omega,rfl,by omega,B8,Hq (World.ownsRow_nil _ _ _ _)⟩
  case round=>
   obtain⟨wr1,hwr⟩: ∃W,W=wr:=⟨_,rfl⟩
   subst hwr
   obtain⟨k,pv,hk,rfl,hzr,Br,HO⟩:=hrel
   by_cases hlt:k<c.ifs.length
   ·obtain⟨x,hx⟩: ∃x,c.ifs[k]?=some x:=⟨_,List.getElem?_eq_getElem hlt⟩
    have HX:=Hq (show c.ifs.take (k+1)=c.ifs.take k++ [x] by rw [List.take_succ_eq_append_getElem hlt,(List.getElem?_eq_some_iff.1 hx).2])
    have HFX:=Hq (HFI.out x (List.mem_of_getElem? hx))
    obtain⟨A',cap',e',_,_,_,h5⟩:=(Br.out.at H0.out).hifs
    injection e' with e1 _ e3
    subst e1
    subst e3
    obtain⟨b,off,hAi,hbl,_,hc⟩:=h5 Om
    have ci:=hc k (.int .i64 x) (by rw [List.getElem?_map,hx];rfl)
    subst hAi
    obtain⟨x1,x2,x3,x4,x5,x6,x7,x8,x9,x10,x11,x12⟩:=far b wr1.heap.size hbl
    clear hx h5 hc
    go_wp2_with (first
     | (refine wpList_load_row rfl _ _ rfl G rfl _ _ _ _ Br.out.bb Tryz.underlying179 rfl Kq9 ?_)
     | (go_at_call 96;refine aqa ?_))
    refine aqb ?_
    refine(dqV c Ap kp (.slice (some ⟨b,off,none⟩) c.ifs.length ki) (.slice Af c.flds.length kf) (.slice Am c.mths.length km) x ok _ ⟨(Br.out.at H0.out).hpool,rfl,rfl,rfl⟩ HFX.out HF.out).mono ?_
    rintro e w8 ⟨rfl,hb⟩
    simp only [cqh]
    have hz8:=hb.size
    have B9:=Hq (Br.out.below hb)
    have HO9:=Hq (aqj HO.out fun q hq=>hb.block q (HO.out.lt q hq).2)
    have t3:=B9.out.tb.cell 3 rfl
    clear hb ci
    go_wp2_with (at_builtin;refine bqi rfl _ _ 36 rfl Tryz.underlying36 cqK rfl Om (G+2) rfl (HO9.out.alloc _) rfl rfl (fun _=> ⟨_,rfl,aqm _ _ _ _ Sp⟩) Oc Om Mz Om Sd ?_;intro g3 c3 w9 ho3 hg3 hb3 hgg3 hlt3;refine aqa ?_)
    refine aqb ?_
    have hz9:=hb3.size
    simp only [World.size_alloc] at hz9
    have B10:=Hq ((B9.out.below (Rf9.alloc Nr _)).low hb3 HG2)
    have B11:=Hq (B10.out.set HG2 3 (.slice (some ⟨g3,0,none⟩) (k+1) c3))
    have hge:=(ho3.lt g3 rfl).1
    have HO11:=Hq (bqQ ho3 (p:=⟨G+1,3,none⟩) Sd (.slice (some ⟨g3,0,none⟩) (k+1) c3))
    have t3':=B10.out.tb.cell 3 rfl
    have z3':=B10.out.tb.frozen 3
    clear t3 ho3 hg3 hb3 hgg3
    go_wp2_with fail
    go_roundw
    case rel=>exact⟨k+1,_,by omega,by go_num,by simp;omega,B11,Hq (aqF HO11.out rfl (by rw [HX.out,List.map_append];rfl))⟩
    case measure=>simp [RowKit.intOf];omega
   obtain rfl:k=c.ifs.length:=by omega
   obtain⟨Ao,ko,hpv⟩:=aq7 HO.out
   subst hpv
   have hrow:=HO.out
   rw [List.take_length] at hrow
   clear hlt
   obtain⟨M2,hM2⟩: ∃M,wr1.heap.size=M:=⟨_,rfl⟩
   have HM2:=Hq hM2
   have HIF:=Hq (aqs hrow (fun g=>G+2≤g∧g<M2) Om Om (fun q hq=> ⟨(hrow.lt q hq).1,by have:=(hrow.lt q hq).2;omega⟩))
   obtain⟨wM2,hwM2⟩: ∃W,W=wr1:=⟨_,rfl⟩
   subst hwM2
   have BS:=Br
   have hGM:=hzr
   have hGM2:G+2≤M2:=by omega
   have hltM:=Br.out.tb.lt
   clear Br HO hrow hzr hM2
   have m7:=BS.out.ol.bc.cell 7 rfl
   go_wp2_with fail
   clear m7
   go_loopw [75] (fun i wr=> ∃(k:Nat) (pv:Value),k≤c.flds.length∧i= .int .i64 k∧M2≤wr.heap.size∧Hid (OlB w [.int .i64 c.minor, .int .i64 c.major, .slice Ap c.pool.length kp, .int .i64 c.acc, .int .i64 c.this, .int .i64 c.sup, .slice Ai c.ifs.length ki, .slice Af c.flds.length kf, .slice Am c.mths.length km] G [.string ((aqE c.pool c.this).getD ⟨#[]⟩), .string ((aqE c.pool c.sup).getD ⟨#[]⟩), .int .i64 c.acc, .slice Ao c.ifs.length ko,pv, .slice none 0 0] wr)∧Hid (But M2 [G+1] wM2 wr)∧Hid (wr.ownsRow M2 52 5 pv k (((c.flds.take k).map (mqw c.pool)).flatMap cqW.cells))) (fun i _=>c.flds.length - (RowKit.intOf i).toNat)
   case atStart=>exact⟨0, .slice none 0 0,by omega,rfl,Nat.le_of_eq HM2.out.symm,BS,Hq (But.refl _ _ _),Hq (World.ownsRow_nil _ _ _ _)⟩
   case round=>
    obtain⟨wr1,hwr⟩: ∃W,W=wr:=⟨_,rfl⟩
    subst hwr
    obtain⟨k,pv,hk,rfl,hzr,Br,HBT,HO⟩:=hrel
    by_cases hlt:k<c.flds.length
    ·obtain⟨x,hx⟩: ∃x,c.flds[k]?=some x:=⟨_,List.getElem?_eq_getElem hlt⟩
     have HX:=Hq (show c.flds.take (k+1)=c.flds.take k++ [x] by rw [List.take_succ_eq_append_getElem hlt,(List.getElem?_eq_some_iff.1 hx).2])
     have HFX:=Hq (HFF.out x (List.mem_of_getElem? hx))
     obtain⟨b,off,hAf,hbl,p0,p1,p2,p3⟩:=cqv (Br.out.at H0.out).hflds k x hx
     subst hAf
     obtain⟨x1,x2,x3,x4,x5,x6,x7,x8,x9,x10,x11,x12⟩:=far b wr1.heap.size hbl
     have B5:=Hq (Br.out.below ((Below.refl wr1.heap.size wr1).alloc Nr (.cells #[.int .i64 x.acc, .int .i64 x.name, .int .i64 x.desc, .int .i64 x.value] 119)))
     have F5:=Hq (aql wr1 [.int .i64 x.acc, .int .i64 x.name, .int .i64 x.desc, .int .i64 x.value] 119)
     have hz5:(wr1.alloc (.cells #[.int .i64 x.acc, .int .i64 x.name, .int .i64 x.desc, .int .i64 x.value] 119)).heap.size=wr1.heap.size+1:=by simp
     have HB5:=Hq ((Below.refl wr1.heap.size wr1).alloc Nr (.cells #[.int .i64 x.acc, .int .i64 x.name, .int .i64 x.desc, .int .i64 x.value] 119))
     have hbG:=Br.out.tb.lt
     clear hx
     obtain⟨nm,hnm⟩: ∃s,fqi c.pool x.name=s:=⟨_,rfl⟩
     obtain⟨ds,hds⟩: ∃s,fqi c.pool x.desc=s:=⟨_,rfl⟩
     have HNM:=Hq hnm
     have HDS:=Hq hds
     have hnl:nm.size≤65536:=by rw [←hnm];exact dqC HTX.out
     have hdl:ds.size≤65536:=by rw [←hds];exact dqC HTX.out
     clear hnm hds
     go_wp2_with (first
      | (refine wpList_load_row rfl _ _ rfl G rfl _ _ _ _ B5.out.bb Tryz.underlying179 rfl Kq9 ?_)
      | (go_at_call 97;refine aqa ?_))
     refine aqb ?_
     refine(aqR c Ap kp _ _ _ x.name ok _ ⟨(B5.out.at H0.out).hpool,rfl,rfl,rfl⟩ HFX.out.1).mono ?_
     rintro e w6 ⟨rfl,hb⟩
     simp only [cqh]
     rw [show(aqf c.pool x.name).getD ⟨#[]⟩=nm from HNM.out]
     have hz6:=hb.size
     rw [hz5] at hz6
     have B6:=Hq (B5.out.below hb)
     have F6:=Hq (F5.out.below hb Om)
     have HB6:=Hq (HB5.out.trans (hb.mono Om))
     have f2:=F6.out.cell 2 rfl
     clear hb p0 p1 p2 p3
     go_wp2_with (first
      | (refine wpList_load_row rfl _ _ rfl G rfl _ _ _ _ B6.out.bb Tryz.underlying179 rfl Kq9 ?_)
      | (go_at_call 97;refine aqa ?_))
     refine aqb ?_
     refine(aqR c Ap kp _ _ _ x.desc ok _ ⟨(B6.out.at H0.out).hpool,rfl,rfl,rfl⟩ HFX.out.2.1).mono ?_
     rintro e w7 ⟨rfl,hb⟩
     simp only [cqh]
     rw [show(aqf c.pool x.desc).getD ⟨#[]⟩=ds from HDS.out]
     have hz7:=hb.size
     have B7:=Hq (B6.out.below hb)
     have F7:=Hq (F6.out.below hb Om)
     have HB7:=Hq (HB6.out.trans (hb.mono Om))
     clear hb f2
     have f3:=F7.out.cell 3 rfl
     go_wp2_with (first
      | (refine wpList_load_row rfl _ _ rfl G rfl _ _ _ _ B7.out.bb Tryz.underlying179 rfl Kq9 ?_)
      | (go_at_call 98;refine aqa ?_))
     refine aqb ?_
     refine(bq7 c Ap kp _ _ _ x.value 3 ok _ (B7.out.at H0.out).hpool rfl rfl rfl HFX.out.2.2.2 HFX.out.2.2.1).mono ?_
     rintro e w8 ⟨rfl,hb⟩
     obtain⟨kq,hko⟩: ∃kq,(aqt c.pool x.value 3).getD aqY=kq:=⟨_,rfl⟩
     have HKO:=Hq hko
     simp only [bqc,koV]
     rw [hko]
     clear hko
     have hz8:=hb.size
     have B8:=Hq ((B7.out.below hb).below ((Below.refl w8.heap.size w8).alloc Nr (.cells #[.int .i64 kq.tag, .string kq.text, .int .i64 kq.num, .int .i64 kq.a, .int .i64 kq.b] 78)))
     have F8:=Hq ((F7.out.below hb Om).below ((Below.refl w8.heap.size w8).alloc Nr (.cells #[.int .i64 kq.tag, .string kq.text, .int .i64 kq.num, .int .i64 kq.a, .int .i64 kq.b] 78)) Om)
     have K8:=Hq (aql w8 [.int .i64 kq.tag, .string kq.text, .int .i64 kq.num, .int .i64 kq.a, .int .i64 kq.b] 78)
     have HB8:=Hq (HB7.out.trans ((hb.trans ((Below.refl w8.heap.size w8).alloc Nr (.cells #[.int .i64 kq.tag, .string kq.text, .int .i64 kq.num, .int .i64 kq.a, .int .i64 kq.b] 78) |>.mono hb.size)).mono Om))
     clear hb f3
     go_wp2_with fail
     have hz9:(w8.alloc (.cells #[.int .i64 kq.tag, .string kq.text, .int .i64 kq.num, .int .i64 kq.a, .int .i64 kq.b] 78)).heap.size=w8.heap.size+1:=by simp
     generalize w8.alloc (.cells #[.int .i64 kq.tag, .string kq.text, .int .i64 kq.num, .int .i64 kq.a, .int .i64 kq.b] 78)=w9 at*
     have hF9:=F8.out.lt
     have hge8:=HB8.out.size
     have TBk:=Hq (fun W (hb:Below w9.heap.size w9 W)=>B8.out.tb.below hb B8.out.tb.lt)
     have FBk:=Hq (fun W (hb:Below w9.heap.size w9 W)=>F8.out.below hb F8.out.lt)
     have KBk:=Hq (fun W (hb:Below w9.heap.size w9 W)=>K8.out.below hb K8.out.lt)
     have SK:=Hq (show∀W,Below w9.heap.size w9 W→(fun w'=>w'.cell? ⟨G+1,4,none⟩=some pv∧w'.cell? ⟨wr1.heap.size,0,none⟩=some (.int .i64 x.acc)∧w'.cell? ⟨wr1.heap.size,3,none⟩=some (.int .i64 x.value)∧w'.cell? ⟨w8.heap.size,2,none⟩=some (.int .i64 kq.num)) W from fun W hb=> ⟨(TBk.out W hb).cell 4 rfl,(FBk.out W hb).cell 0 rfl,(FBk.out W hb).cell 3 rfl,(KBk.out W hb).cell 2 rfl⟩)
     have D0:=Hq ((Below.refl w9.heap.size w9).drew)
     refine fqg (fun w'=>w'.cell? ⟨G+1,4,none⟩=some pv∧w'.cell? ⟨wr1.heap.size,0,none⟩=some (.int .i64 x.acc)∧w'.cell? ⟨wr1.heap.size,3,none⟩=some (.int .i64 x.value)∧w'.cell? ⟨w8.heap.size,2,none⟩=some (.int .i64 kq.num)) 17 Kq9 ?_ (fun hHeld=> ?_)
     ·exact SK.out _ D0.out
     refine mqc [0,1,2,3,4,6,8,9,10,11,12] 7 rfl Kq9 (fun _ _ _ d _ h=>by cases d<;>exact h) (by assumption) ?_
     repeat(refine mqb ?_ rfl rfl ?_ ?_;rotate_left;(intro w hSw;(try dsimp only at hSw);go_simp;(try with_reducible rfl));(try simp only [Act.put,List.setIfInBounds_toArray,List.set_cons_zero,List.set_cons_succ]))
     refine nqY ?_
     refine cqf (i:=5) Kq9 rfl (fun K hK=> ?_)
     go_simp;go_at_call 99
     refine(dq6 nm _ Om).mono ?_
     rintro e wa ⟨rfl,hb⟩
     have Da:=Hq (D0.out.trans (hb.mono D0.out.size))
     clear hb
     (try dsimp only)
     refine hK.out _ _ (fun _=> ?_) (fun hHeld2=> ?_)
     ·exact SK.out _ Da.out
     have hHeld:=hHeld2 Dd9
     clear hHeld2
     clear hK K
     (try simp only [Act.put,List.setIfInBounds_toArray,List.set_cons_zero,List.set_cons_succ])
     refine cqf (i:=7) Kq9 rfl (fun K hK=> ?_)
     go_simp;go_at_call 99
     refine(dq6 ds _ Om).mono ?_
     rintro e wb ⟨rfl,hb⟩
     have Db:=Hq (Da.out.trans (hb.mono Da.out.size))
     clear hb
     (try dsimp only)
     refine hK.out _ _ (fun _=> ?_) (fun hHeld2=> ?_)
     ·exact SK.out _ Db.out
     have hHeld:=hHeld2 Dd9
     clear hHeld2
     clear hK K
     (try simp only [Act.put,List.setIfInBounds_toArray,List.set_cons_zero,List.set_cons_succ])
     refine cqf (i:=13) Kq9 rfl (fun K hK=> ?_)
     go_simp
     refine hK.out _ _ (fun _=> ?_) (fun hHeld2=> ?_)
     ·exact SK.out _ Db.out
     have hHeld:=hHeld2 Dd9
     clear hHeld2
     clear hK K
     (try simp only [Act.put,List.setIfInBounds_toArray,List.set_cons_zero,List.set_cons_succ])
     have Dc:=Hq (Db.out.alloc Db.out.size (.cells #[.int .i64 x.acc, .string nm, .string ds, .bool (x.value !=0), .int .i64 kq.num] 52))
     refine cqf (i:=14) Kq9 rfl (fun K hK=> ?_)
     go_simp
     refine hK.out _ _ (fun _=> ?_) (fun hHeld2=> ?_)
     ·exact SK.out _ Dc.out
     have hHeld:=hHeld2 Dd9
     clear hHeld2
     clear hK K
     (try simp only [Act.put,List.setIfInBounds_toArray,List.set_cons_zero,List.set_cons_succ])
     have HOc:=Hq (aqj HO.out fun q hq=> (HB8.out.trans (Dc.out.mono hge8)).block q (HO.out.lt q hq).2)
     have hzb:=Db.out.size
     have hpvl: ∀q,pv.ownBlock=some q→M2≤q∧q<wr1.heap.size:=fun q hq=>HO.out.lt q hq
     refine cqf (i:=15) Kq9 rfl (fun K hK=> ?_)
     refine aq6 rfl (.tmp 101) (.tmp 114) 37 rfl Tryz.underlying37 cqo rfl Om M2 rfl HOc.out rfl rfl (aq3 _ _ _) Oc Om Mz Om Sd ?_
     intro g3 c3 w3 hob hgb hbb hgg
     have kq3: ∀q,q<w9.heap.size→(q<M2∨wr1.heap.size≤q)→w3.heap[q]?=w9.heap[q]?:=fun q h1 h2=> (hgb.block q (by have:=Dc.out.size;omega) (fun e=>by have:=hpvl q e.symm;omega)).trans (Dc.out.block q h1)
     have T3:=Hq ((kq3 (G+1) (by have:=B8.out.tb.lt;omega) Om).trans B8.out.tb)
     have F3:=Hq ((kq3 wr1.heap.size Om Om).trans F8.out)
     have K3:=Hq ((kq3 w8.heap.size (by have:=K8.out.lt;omega) Om).trans K8.out)
     have x4:=Bx.cell T3.out 4 rfl
     have y4:=Bx.frozen T3.out 4
     refine hK.out _ _ (fun _=> ?_) (fun hHeld2=> ?_)
     ·exact(show(fun w'=>w'.cell? ⟨G+1,4,none⟩=some pv∧w'.cell? ⟨wr1.heap.size,0,none⟩=some (.int .i64 x.acc)∧w'.cell? ⟨wr1.heap.size,3,none⟩=some (.int .i64 x.value)∧w'.cell? ⟨w8.heap.size,2,none⟩=some (.int .i64 kq.num)) w3 from⟨x4,Bx.cell F3.out 0 rfl,Bx.cell F3.out 3 rfl,Bx.cell K3.out 2 rfl⟩)
     have hHeld:=hHeld2 Dd9
     clear hHeld2
     clear hK K
     (try simp only [Act.put,List.setIfInBounds_toArray,List.set_cons_zero,List.set_cons_succ])
     refine cqf (i:=16) Kq9 rfl (fun K hK=> ?_)
     go_simp
     refine hK.out _ _ (fun _=> ?_) (fun hHeld2=> ?_)
     ·exact(show(fun w'=>w'.cell? ⟨G+1,4,none⟩=some pv∧w'.cell? ⟨wr1.heap.size,0,none⟩=some (.int .i64 x.acc)∧w'.cell? ⟨wr1.heap.size,3,none⟩=some (.int .i64 x.value)∧w'.cell? ⟨w8.heap.size,2,none⟩=some (.int .i64 kq.num)) w3 from⟨x4,Bx.cell F3.out 0 rfl,Bx.cell F3.out 3 rfl,Bx.cell K3.out 2 rfl⟩)
     have hHeld:=hHeld2 Dd9
     clear hHeld2
     clear hK K
     (try simp only [Act.put,List.setIfInBounds_toArray,List.set_cons_zero,List.set_cons_succ])
     refine cqf (i:=17) Kq9 rfl (fun K hK=> ?_)
     go_simp
     refine hK.out _ _ (fun h=>absurd rfl h) (fun _=> ?_)
     clear hK K
     (try simp only [Act.put,List.setIfInBounds_toArray,List.set_cons_zero,List.set_cons_succ])
     refine mqd Kq9 ?_
     have hXb:=Bx.set T3.out 4 (.slice (some ⟨g3,0,none⟩) (k+1) c3)
     have hBb:But M2 [G+1] w9 (w3.setCell ⟨G+1,4,none⟩ (.slice (some ⟨g3,0,none⟩) (k+1) c3)):=(But.of_below ((Dc.out.mono Om).trans hbb)).set ⟨G+1,4,none⟩ (.inl Sp) _
     have hOb:=bqQ (p:=⟨G+1,4,none⟩) hob (show g3≠G+1 by have:=(hob.lt g3 rfl).1;omega) (.slice (some ⟨g3,0,none⟩) (k+1) c3)
     have hsb:w9.heap.size≤(w3.setCell ⟨G+1,4,none⟩ (.slice (some ⟨g3,0,none⟩) (k+1) c3)).heap.size:=by
      have h1:=hgb.size
      have h2:=Dc.out.size
      simp only [World.size_setCell]
      omega
     clear hob hgb hbb hgg T3 F3 x4 y4 kq3 HOc Dc Db Da D0 hHeld SK TBk FBk K3 KBk
     generalize w3.setCell ⟨G+1,4,none⟩ (.slice (some ⟨g3,0,none⟩) (k+1) c3)=W' at*
     have B14:=Hq (B8.out.of_but hBb Om HG2 hXb)
     have HBT14:=Hq ((HBT.out.trans ((But.of_below (S:= [G+1]) HB8.out).mono hzr (fun _ _ h=>h))).trans hBb)
     have HO14:=Hq (aqF hOb rfl (show _=((c.flds.take (k+1)).map (mqw c.pool)).flatMap cqW.cells by rw [HX.out];simp only [List.map_append,List.flatMap_append,List.map_cons,List.map_nil,List.flatMap_cons,List.flatMap_nil,List.append_nil];simp only [mqw,cqW.cells,HNM.out,HDS.out,HKO.out]))
     have hgz:M2≤W'.heap.size:=by omega
     clear hXb hBb hOb hsb hzb B8 F8 HB8
     clear K8
     go_wp2_with fail
     go_roundw
     case rel=>exact⟨k+1,_,by omega,by go_num,hgz,B14,HBT14,HO14⟩
     case measure=>simp [RowKit.intOf];omega
    obtain rfl:k=c.flds.length:=by omega
    have hrow:=HO.out
    rw [List.take_length] at hrow
    clear hlt
    obtain⟨M3,hM3⟩: ∃M,wr1.heap.size=M:=⟨_,rfl⟩
    have HM3:=Hq hM3
    obtain⟨Afo,kfo,hpv⟩:=aq7 HO.out
    subst hpv
    have HFL:=Hq (aqs hrow (fun g=>G+2≤g∧g<M3) Om Om (fun q hq=> ⟨by have:=(hrow.lt q hq).1;omega,by have:=(hrow.lt q hq).2;omega⟩))
    have HIF3:=Hq (HIF.out.keep (aqC.of_but (ok:=fun g=>G+2≤g∧g<M2) (S:= [G+1]) (show But wM2.heap.size [G+1] wM2 wr1 by rw [HM2.out];exact HBT.out) (fun g hg hm=>by simp at hm;omega)))
    obtain⟨wM3,hwM3⟩: ∃W,W=wr1:=⟨_,rfl⟩
    subst hwM3
    have BS:=Br
    have hGM3:G+2≤M3:=by omega
    clear Br HO hrow hzr hM3 HBT
    have m8:=BS.out.ol.bc.cell 8 rfl
    go_wp2_with fail
    clear m8
    go_loopw [121] (fun i wr=> ∃(k:Nat) (pv:Value),k≤c.mths.length∧i= .int .i64 k∧M3≤wr.heap.size∧Hid (OlB w [.int .i64 c.minor, .int .i64 c.major, .slice Ap c.pool.length kp, .int .i64 c.acc, .int .i64 c.this, .int .i64 c.sup, .slice Ai c.ifs.length ki, .slice Af c.flds.length kf, .slice Am c.mths.length km] G [.string ((aqE c.pool c.this).getD ⟨#[]⟩), .string ((aqE c.pool c.sup).getD ⟨#[]⟩), .int .i64 c.acc, .slice Ao c.ifs.length ko, .slice Afo c.flds.length kfo,pv] wr)∧Hid (But M3 [G+1] wM3 wr)∧Hid (wr.ownsRow M3 52 5 pv k (((c.mths.take k).map (mqT c.pool)).flatMap cqW.cells))) (fun i _=>c.mths.length - (RowKit.intOf i).toNat)
    case atStart=>exact⟨0, .slice none 0 0,by omega,rfl,Nat.le_of_eq HM3.out.symm,BS,Hq (But.refl _ _ _),Hq (World.ownsRow_nil _ _ _ _)⟩
    case round=>
     obtain⟨wr1,hwr⟩: ∃W,W=wr:=⟨_,rfl⟩
     subst hwr
     obtain⟨k,pv,hk,rfl,hzr,Br,HBT,HO⟩:=hrel
     by_cases hlt:k<c.mths.length
     ·obtain⟨ms',e1,e2,e3⟩:=(Br.out.at H0.out).hmths
      have hml':ms'.length=c.mths.length:=by rw [←e1,List.length_map]
      obtain⟨x,cv,tv,hx⟩: ∃x cv tv,ms'[k]?=some (x,cv,tv):=⟨_,_,_,List.getElem?_eq_getElem Om⟩
      have hx':c.mths[k]?=some x:=by rw [←e1,List.getElem?_map,hx];rfl
      have HX:=Hq (show c.mths.take (k+1)=c.mths.take k++ [x] by rw [List.take_succ_eq_append_getElem hlt,(List.getElem?_eq_some_iff.1 hx').2])
      have HFX:=Hq (HFM.out x (List.mem_of_getElem? hx'))
      obtain⟨b,off,hAm,hbl,p0,p1,p2,p3,p4,p5,p6,p7⟩:=dqf e2 hml' k x cv tv hx
      have hME:=e3 (x,cv,tv) (List.mem_of_getElem? hx)
      obtain⟨Ac,kc,hcv,_⟩:=id hME.hcode
      obtain⟨At,kt,htv,_⟩:=id hME.htraps
      simp only at hcv htv
      subst hcv
      subst htv
      subst hAm
      clear hx' e1 e2 e3 hml' hME
      obtain⟨x1,x2,x3,x4,x5,x6,x7,x8,x9,x10,x11,x12⟩:=far b wr1.heap.size hbl
      have B5:=Hq (Br.out.below ((Below.refl wr1.heap.size wr1).alloc Nr (.cells #[.int .i64 x.acc, .int .i64 x.name, .int .i64 x.desc, .bool x.has, .int .i64 x.stack, .int .i64 x.locals, .slice Ac x.code.length kc, .slice At x.traps.length kt] 91)))
      have F5:=Hq (aql wr1 [.int .i64 x.acc, .int .i64 x.name, .int .i64 x.desc, .bool x.has, .int .i64 x.stack, .int .i64 x.locals, .slice Ac x.code.length kc, .slice At x.traps.length kt] 91)
      have hz5:(wr1.alloc (.cells #[.int .i64 x.acc, .int .i64 x.name, .int .i64 x.desc, .bool x.has, .int .i64 x.stack, .int .i64 x.locals, .slice Ac x.code.length kc, .slice At x.traps.length kt] 91)).heap.size=wr1.heap.size+1:=by simp
      have HB5:=Hq ((Below.refl wr1.heap.size wr1).alloc Nr (.cells #[.int .i64 x.acc, .int .i64 x.name, .int .i64 x.desc, .bool x.has, .int .i64 x.stack, .int .i64 x.locals, .slice Ac x.code.length kc, .slice At x.traps.length kt] 91))
      have hbG:=Br.out.tb.lt
      clear hx
      obtain⟨nm,hnm⟩: ∃s,fqi c.pool x.name=s:=⟨_,rfl⟩
      obtain⟨ds,hds⟩: ∃s,fqi c.pool x.desc=s:=⟨_,rfl⟩
      have HNM:=Hq hnm
      have HDS:=Hq hds
      have hnl:nm.size≤65536:=by rw [←hnm];exact dqC HTX.out
      have hdl:ds.size≤65536:=by rw [←hds];exact dqC HTX.out
      clear hnm hds
      go_wp2_with (first
       | (refine wpList_load_row rfl _ _ rfl G rfl _ _ _ _ B5.out.bb Tryz.underlying179 rfl Kq9 ?_)
       | (go_at_call 97;refine aqa ?_))
      refine aqb ?_
      refine(aqR c Ap kp _ _ _ x.name ok _ ⟨(B5.out.at H0.out).hpool,rfl,rfl,rfl⟩ HFX.out.1).mono ?_
      rintro e w6 ⟨rfl,hb⟩
      simp only [cqh]
      rw [show(aqf c.pool x.name).getD ⟨#[]⟩=nm from HNM.out]
      have hz6:=hb.size
      rw [hz5] at hz6
      have B6:=Hq (B5.out.below hb)
      have F6:=Hq (F5.out.below hb Om)
      have HB6:=Hq (HB5.out.trans (hb.mono Om))
      have f2:=F6.out.cell 2 rfl
      clear hb p0 p1 p2 p3 p4 p5 p6 p7
      go_wp2_with (first
       | (refine wpList_load_row rfl _ _ rfl G rfl _ _ _ _ B6.out.bb Tryz.underlying179 rfl Kq9 ?_)
       | (go_at_call 97;refine aqa ?_))
      refine aqb ?_
      refine(aqR c Ap kp _ _ _ x.desc ok _ ⟨(B6.out.at H0.out).hpool,rfl,rfl,rfl⟩ HFX.out.2.1).mono ?_
      rintro e w7 ⟨rfl,hb⟩
      simp only [cqh]
      rw [show(aqf c.pool x.desc).getD ⟨#[]⟩=ds from HDS.out]
      have hz7:=hb.size
      have B7:=Hq (B6.out.below hb)
      have F7:=Hq (F6.out.below hb Om)
      have HB7:=Hq (HB6.out.trans (hb.mono Om))
      clear hb f2
      have B8:=B7
      have F8:=F7
      have HB8:=HB7
      have f3:=F7.out.cell 3 rfl
      go_wp2_with fail
      have hz9:w7.heap.size=w7.heap.size:=rfl
      obtain⟨w9,hw9⟩: ∃W,W=w7:=⟨_,rfl⟩
      subst hw9
      clear f3
      have hF9:=F8.out.lt
      have hge8:=HB8.out.size
      have TBk:=Hq (fun W (hb:Below w9.heap.size w9 W)=>B8.out.tb.below hb B8.out.tb.lt)
      have FBk:=Hq (fun W (hb:Below w9.heap.size w9 W)=>F8.out.below hb F8.out.lt)
      have SK:=Hq (show∀W,Below w9.heap.size w9 W→(fun w'=>w'.cell? ⟨G+1,5,none⟩=some pv∧w'.cell? ⟨wr1.heap.size,0,none⟩=some (.int .i64 x.acc)∧w'.cell? ⟨wr1.heap.size,3,none⟩=some (.bool x.has)) W from fun W hb=> ⟨(TBk.out W hb).cell 5 rfl,(FBk.out W hb).cell 0 rfl,(FBk.out W hb).cell 3 rfl⟩)
      have D0:=Hq ((Below.refl w9.heap.size w9).drew)
      refine fqg (fun w'=>w'.cell? ⟨G+1,5,none⟩=some pv∧w'.cell? ⟨wr1.heap.size,0,none⟩=some (.int .i64 x.acc)∧w'.cell? ⟨wr1.heap.size,3,none⟩=some (.bool x.has)) 14 Kq9 ?_ (fun hHeld=> ?_)
      ·exact SK.out _ D0.out
      refine mqc [0,1,2,3,4,6,8,9] 7 rfl Kq9 (fun _ _ _ d _ h=>by cases d<;>exact h) (by assumption) ?_
      repeat(refine mqb ?_ rfl rfl ?_ ?_;rotate_left;(intro w hSw;(try dsimp only at hSw);go_simp;(try with_reducible rfl));(try simp only [Act.put,List.setIfInBounds_toArray,List.set_cons_zero,List.set_cons_succ]))
      refine nqY ?_
      refine cqf (i:=5) Kq9 rfl (fun K hK=> ?_)
      go_simp;go_at_call 99
      refine(dq6 nm _ Om).mono ?_
      rintro e wa ⟨rfl,hb⟩
      have Da:=Hq (D0.out.trans (hb.mono D0.out.size))
      clear hb
      (try dsimp only)
      refine hK.out _ _ (fun _=> ?_) (fun hHeld2=> ?_)
      ·exact SK.out _ Da.out
      have hHeld:=hHeld2 Dd9
      clear hHeld2
      clear hK K
      (try simp only [Act.put,List.setIfInBounds_toArray,List.set_cons_zero,List.set_cons_succ])
      refine cqf (i:=7) Kq9 rfl (fun K hK=> ?_)
      go_simp;go_at_call 99
      refine(dq6 ds _ Om).mono ?_
      rintro e wb ⟨rfl,hb⟩
      have Db:=Hq (Da.out.trans (hb.mono Da.out.size))
      clear hb
      (try dsimp only)
      refine hK.out _ _ (fun _=> ?_) (fun hHeld2=> ?_)
      ·exact SK.out _ Db.out
      have hHeld:=hHeld2 Dd9
      clear hHeld2
      clear hK K
      (try simp only [Act.put,List.setIfInBounds_toArray,List.set_cons_zero,List.set_cons_succ])
      refine cqf (i:=10) Kq9 rfl (fun K hK=> ?_)
      go_simp
      refine hK.out _ _ (fun _=> ?_) (fun hHeld2=> ?_)
      ·exact SK.out _ Db.out
      have hHeld:=hHeld2 Dd9
      clear hHeld2
      clear hK K
      (try simp only [Act.put,List.setIfInBounds_toArray,List.set_cons_zero,List.set_cons_succ])
      have Dc:=Hq (Db.out.alloc Db.out.size (.cells #[.int .i64 x.acc, .string nm, .string ds, .bool x.has, .int .i64 0] 52))
      refine cqf (i:=11) Kq9 rfl (fun K hK=> ?_)
      go_simp
      refine hK.out _ _ (fun _=> ?_) (fun hHeld2=> ?_)
      ·exact SK.out _ Dc.out
      have hHeld:=hHeld2 Dd9
      clear hHeld2
      clear hK K
      (try simp only [Act.put,List.setIfInBounds_toArray,List.set_cons_zero,List.set_cons_succ])
      have HOc:=Hq (aqj HO.out fun q hq=> (HB8.out.trans (Dc.out.mono hge8)).block q (HO.out.lt q hq).2)
      have hzb:=Db.out.size
      have hpvl: ∀q,pv.ownBlock=some q→M3≤q∧q<wr1.heap.size:=fun q hq=>HO.out.lt q hq
      refine cqf (i:=12) Kq9 rfl (fun K hK=> ?_)
      refine aq6 rfl (.tmp 140) (.tmp 150) 37 rfl Tryz.underlying37 cqo rfl Om M3 rfl HOc.out rfl rfl (aq3 _ _ _) Oc Om Mz Om Sd ?_
      intro g3 c3 w3 hob hgb hbb hgg
      have kq3: ∀q,q<w9.heap.size→(q<M3∨wr1.heap.size≤q)→w3.heap[q]?=w9.heap[q]?:=fun q h1 h2=> (hgb.block q (by have:=Dc.out.size;omega) (fun e=>by have:=hpvl q e.symm;omega)).trans (Dc.out.block q h1)
      have T3:=Hq ((kq3 (G+1) (by have:=B8.out.tb.lt;omega) Om).trans B8.out.tb)
      have F3:=Hq ((kq3 wr1.heap.size Om Om).trans F8.out)
      have x4:=Bx.cell T3.out 5 rfl
      have y4:=Bx.frozen T3.out 5
      refine hK.out _ _ (fun _=> ?_) (fun hHeld2=> ?_)
      ·exact(show(fun w'=>w'.cell? ⟨G+1,5,none⟩=some pv∧w'.cell? ⟨wr1.heap.size,0,none⟩=some (.int .i64 x.acc)∧w'.cell? ⟨wr1.heap.size,3,none⟩=some (.bool x.has)) w3 from⟨x4,Bx.cell F3.out 0 rfl,Bx.cell F3.out 3 rfl⟩)
      have hHeld:=hHeld2 Dd9
      clear hHeld2
      clear hK K
      (try simp only [Act.put,List.setIfInBounds_toArray,List.set_cons_zero,List.set_cons_succ])
      refine cqf (i:=13) Kq9 rfl (fun K hK=> ?_)
      go_simp
      refine hK.out _ _ (fun _=> ?_) (fun hHeld2=> ?_)
      ·exact(show(fun w'=>w'.cell? ⟨G+1,5,none⟩=some pv∧w'.cell? ⟨wr1.heap.size,0,none⟩=some (.int .i64 x.acc)∧w'.cell? ⟨wr1.heap.size,3,none⟩=some (.bool x.has)) w3 from⟨x4,Bx.cell F3.out 0 rfl,Bx.cell F3.out 3 rfl⟩)
      have hHeld:=hHeld2 Dd9
      clear hHeld2
      clear hK K
      (try simp only [Act.put,List.setIfInBounds_toArray,List.set_cons_zero,List.set_cons_succ])
      refine cqf (i:=14) Kq9 rfl (fun K hK=> ?_)
      go_simp
      refine hK.out _ _ (fun h=>absurd rfl h) (fun _=> ?_)
      clear hK K
      (try simp only [Act.put,List.setIfInBounds_toArray,List.set_cons_zero,List.set_cons_succ])
      refine mqd Kq9 ?_
      have hXb:=Bx.set T3.out 5 (.slice (some ⟨g3,0,none⟩) (k+1) c3)
      have hBb:But M3 [G+1] w9 (w3.setCell ⟨G+1,5,none⟩ (.slice (some ⟨g3,0,none⟩) (k+1) c3)):=(But.of_below ((Dc.out.mono Om).trans hbb)).set ⟨G+1,5,none⟩ (.inl Sp) _
      have hOb:=bqQ (p:=⟨G+1,5,none⟩) hob (show g3≠G+1 by have:=(hob.lt g3 rfl).1;omega) (.slice (some ⟨g3,0,none⟩) (k+1) c3)
      have hsb:w9.heap.size≤(w3.setCell ⟨G+1,5,none⟩ (.slice (some ⟨g3,0,none⟩) (k+1) c3)).heap.size:=by
       have h1:=hgb.size
       have h2:=Dc.out.size
       simp only [World.size_setCell]
       omega
      clear hob hgb hbb hgg T3 F3 x4 y4 kq3 HOc Dc Db Da D0 hHeld SK TBk FBk
      generalize w3.setCell ⟨G+1,5,none⟩ (.slice (some ⟨g3,0,none⟩) (k+1) c3)=W' at*
      have B14:=Hq (B8.out.of_but hBb Om HG2 hXb)
      have HBT14:=Hq ((HBT.out.trans ((But.of_below (S:= [G+1]) HB8.out).mono hzr (fun _ _ h=>h))).trans hBb)
      have HO14:=Hq (aqF hOb rfl (show _=((c.mths.take (k+1)).map (mqT c.pool)).flatMap cqW.cells by rw [HX.out];simp only [List.map_append,List.flatMap_append,List.map_cons,List.map_nil,List.flatMap_cons,List.flatMap_nil,List.append_nil];simp only [mqT,cqW.cells,HNM.out,HDS.out]))
      have hgz:M3≤W'.heap.size:=by omega
      clear hXb hBb hOb hsb hzb B8 F8 HB8
      go_wp2_with fail
      go_roundw
      case rel=>exact⟨k+1,_,by omega,by go_num,hgz,B14,HBT14,HO14⟩
      case measure=>simp [RowKit.intOf];omega
     obtain rfl:k=c.mths.length:=by omega
     have hrow:=HO.out
     rw [List.take_length] at hrow
     clear hlt
     obtain⟨Amo,kmo,hpv⟩:=aq7 HO.out
     subst hpv
     have HIF4:=Hq (HIF3.out.keep (aqC.of_but (ok:=fun g=>G+2≤g∧g<M2) (S:= [G+1]) (show But wM3.heap.size [G+1] wM3 wr1 by rw [HM3.out];exact HBT.out) (fun g hg hm=>by simp at hm;omega)))
     have HFL4:=Hq (HFL.out.keep (aqC.of_but (ok:=fun g=>G+2≤g∧g<M3) (S:= [G+1]) (show But wM3.heap.size [G+1] wM3 wr1 by rw [HM3.out];exact HBT.out) (fun g hg hm=>by simp at hm;omega)))
     go_wp2_with (first
      | (refine wpList_load_row rfl _ _ rfl (G+1) rfl _ _ _ _ Br.out.tb Tryz.underlying39 rfl Kq9 ?_)
      | (refine wpList_store_row rfl _ _ _ rfl (w.heap.size+1) _ rfl rfl _ _ Br.out.ol.nr Kq9 rfl Oc ?_))
     have hkp:=aqC.of_but (ok:=fun g=>G+2≤g) (show But wr1.heap.size [w.heap.size+1] wr1 (wr1.setRow (w.heap.size+1) #[.string ((aqE c.pool c.this).getD ⟨#[]⟩), .string ((aqE c.pool c.sup).getD ⟨#[]⟩), .int .i64 c.acc, .slice Ao c.ifs.length ko, .slice Afo c.flds.length kfo, .slice Amo c.mths.length kmo]) from⟨rfl,rfl,rfl,by simp,fun q _ hm=>setRow_other _ _ _ _ (by simpa using hm)⟩) (fun q hq hm=>by simp at hm;omega)
     refine bodyPost_ret (bqy rfl rfl rfl (Br.out.ol.nr.row _) rfl rfl Kq9) rfl ⟨Br.out.ol.bel.trans ⟨rfl,rfl,rfl,by simp,fun q hq=>setRow_other _ _ _ _ Om⟩, .inr ⟨rfl,_,_,_,rfl, ?_, ?_, ?_⟩⟩
     ·have:=(((HIF4.out.mono (ok':=fun g=>G+2≤g) fun q _ hq=>hq.1).keep hkp).mono (ok':=fun g=>w.heap.size≤g) fun q _ hq=>by omega)
      simpa [aqX,List.map_map,Function.comp_def] using this
     ·have:=(((HFL4.out.mono (ok':=fun g=>G+2≤g) fun q _ hq=>hq.1).keep hkp).mono (ok':=fun g=>w.heap.size≤g) fun q _ hq=>by omega)
      simpa [aqX] using this
     have:=(((aqs hrow (fun g=>G+2≤g) Om Om (fun q hq=>by have:=(hrow.lt q hq).1;omega)).keep hkp).mono (ok':=fun g=>w.heap.size≤g) fun q _ hq=>by omega)
     simpa [aqX] using this
 have hEb:(E !=0)=true:=by simpa using hE
 go_wp2_with (refine wpList_store_row rfl _ _ _ rfl (w.heap.size+1) _ rfl rfl _ _ B2.out.nr Kq9 rfl Oc ?_)
 refine bodyPost_ret (bqy rfl rfl rfl (B2.out.nr.row aq0) rfl rfl Kq9) rfl ⟨B2.out.bel.trans ⟨rfl,rfl,rfl,by simp,fun k hk=>setRow_other _ _ _ _ Om⟩, .inl ⟨hE,rfl⟩⟩
end Go.Proofs.YtdbniocnjhfhdaaGreatDoor
