/-
  What the laws rest on, part 10: walks of the program's functions and plain laws. Conditions: none but those that each theorem names.
-/
import Derived.Test.YtlcidkiplidamaaGreatDoorB03
import Derived.Test.YtlcidkiplidamaaGreatDoorB05
import Derived.Test.YtlcidkiplidamaaGreatDoorB09
import Derived.Test.YtlcidkiplidamaaGreatDoorB08
import Derived.Test.YtlcidkiplidamaaGreatDoorB00
import Derived.BigQuiet
import Derived.Deep.QuietTactic
import Derived.Laws.RangeAny
import Derived.Test.YtlcidkiplidamaaGreatDoorB01
import Derived.Lib.SmallJoins
set_option linter.unusedSimpArgs false
set_option linter.unusedVariables false
namespace Go.Proofs.YtlcidkiplidamaaGreatDoor
open Go Go.RowKit Lib
def jqs {α:Type} (Q:α→Prop) (x:Rx α):Prop:= ∀a s,x= .ok (a,s)→Q a
theorem jqs.bind {α β:Type} {x:Rx α} {f:α→Rs→Rx β} {Q:α→Prop} {R:β→Prop} (h:jqs Q x) (hf: ∀a s,Q a→jqs R (f a s)):jqs R (Rx.bind x f):=by
 rcases x with e| ⟨a,s⟩
 ·intro b s' hb;cases hb
 exact hf a s (h a s rfl)
theorem jqs.ok {α:Type} {Q:α→Prop} {a:α} {s:Rs} (h:Q a):jqs Q (.ok (a,s):Rx α):=fun b s' e=>by cases e;exact h
def cqF (n:Int):Prop:=n=1∨n=3∨n=7∨n=9∨n=10∨n=11∨n=12
def kqY (k:Ko):Prop:=bqF k.a∧bqF k.b∧k.text.size≤65536∧cqF k.tag
def fqE (x:aqB):Prop:=bqF x.name∧bqF x.desc∧bqF x.value
def iqM (x:bq2):Prop:=bqF x.lo∧bqF x.hi∧bqF x.tgt∧bqF x.kind
def fqi (x:aqA):Prop:=bqF x.name∧bqF x.desc∧bqF x.stack∧bqF x.locals∧ ∀t∈x.traps,iqM t
structure eqE (c:aqj):Prop where
 pool: ∀k∈c.pool,kqY k
 this:bqF c.this
 sup:bqF c.sup
 ifs: ∀n∈c.ifs,bqF n
 flds: ∀x∈c.flds,fqE x
 mths: ∀x∈c.mths,fqi x
set_option maxRecDepth 100000
set_option maxHeartbeats 1000000
def gqq (pool:List Ko) (k:Ko):Int:=if k.tag=7 then eqC pool k.a else if k.tag=12 then eqD pool k.a k.b else if k.tag=9∨k.tag=10∨k.tag=11 then cqQ pool k.tag k.a k.b else 0
def bqQ (pool:List Ko) (cacc:Int) (l:List aqB):List NmD:=l.foldl (fun s x=>if eq6 pool cacc x then s else cqY pool x.name x.desc::s) []
def bqv (pool:List Ko) (cacc:Int) (l:List aqA):List NmD:=l.foldl (fun s x=>if eq7 pool cacc x then s else cqY pool x.name x.desc::s) []
theorem gqr (pool:List Ko) (cacc:Int): ∀(l:List aqB) (s:List NmD),(l.foldl (fun s x=>if eq6 pool cacc x then s else cqY pool x.name x.desc::s) s).length≤s.length+l.length
 | [],s=>Nat.le_refl _
 |x::l,s=>by
  rw [List.foldl_cons]
  refine Nat.le_trans (gqr pool cacc l _) ?_
  split<;>simp<;>omega
theorem hql (pool:List Ko) (cacc:Int): ∀(l:List aqA) (s:List NmD),(l.foldl (fun s x=>if eq7 pool cacc x then s else cqY pool x.name x.desc::s) s).length≤s.length+l.length
 | [],s=>Nat.le_refl _
 |x::l,s=>by
  rw [List.foldl_cons]
  refine Nat.le_trans (hql pool cacc l _) ?_
  split<;>simp<;>omega
def aq1 (c:aqj):Int:=gql (gqq c.pool) (fun l x=>dqj c.pool c.acc (bqQ c.pool c.acc l) x) (fun l x=>cqA c.pool c.acc (bqv c.pool c.acc l) x) c
theorem iqN (W:World) (b:Nat) (h:W.heap[b]?=some (.map #[] 0)):bqW W b []:=⟨#[],0,h,by
 refine⟨?_, ?_, ?_, ?_, ?_⟩ <;>simp⟩
theorem hqm {s:List NmD} (W W':World) (b:Nat) (h:bqW W b s) (hb:W'.heap[b]?=W.heap[b]?):bqW W' b s:=by
 obtain⟨es,clock,hm,hg⟩:=h
 exact⟨es,clock,hb.trans hm,hg⟩
theorem jqt (c:aqj) (p i f m:Value) (ok:Nat→Prop) (w:World) (h:aq9 w ok c p i f m) (hF:eqE c):
  Calls Tryz.prog 17 #[bqp c p i f m] w fun e w'=>e= .returned (.int .i64 (aq1 c))∧Below w.heap.size w w':=by
 have h':=h.mono (ok':=fun g=>ok g∧g<w.heap.size) fun g hg ho=> ⟨ho,hg⟩
 have hlf:c.flds.length≤1048576:=by obtain⟨A3,k3,e3,q3,z3⟩:=aqm h.hflds;exact z3
 have hlm:c.mths.length≤1048576:=by obtain⟨ms,m1,m2,m3⟩:=h.hmths;obtain⟨A4,k4,e4,q4,z4⟩:=aqm m2;exact z4
 have htx: ∀k∈c.pool,k.text.size≤65536:=fun k hk=> (hF.pool k hk).2.2.1
 refine kqJ c p i f m (fun g=>ok g∧g<w.heap.size) w h' (fun g hg=>hg.2) hF.this hF.sup (fun k hk=> (hF.pool k hk).1) hF.ifs htx
  (gqq c.pool) (fun l x=>dqj c.pool c.acc (bqQ c.pool c.acc l) x) (fun l x=>cqA c.pool c.acc (bqv c.pool c.acc l) x)
  (fun l b W=>bqW W b (bqQ c.pool c.acc l)) (fun l b W=>bqW W b (bqv c.pool c.acc l)) ⟨fun W b hb=>iqN W b hb,fun l b W W' hs hb=>hqm W W' b hs hb⟩ ⟨fun W b hb=>iqN W b hb,fun l b W W' hs hb=>hqm W W' b hs hb⟩
  (fun k hk W hW=> ?_) (fun k x hx W b hW hb hs=> ?_) (fun k x hx W b cv tv hW hM hb hs=> ?_)
 ·obtain⟨A1,k1,rfl,q1,z1⟩:=aqm hW.hpool
  obtain⟨A2,k2,rfl,q2,z2⟩:=aqm hW.hifs
  obtain⟨A3,k3,rfl,q3,z3⟩:=aqm hW.hflds
  obtain⟨ms,m1,m2,m3⟩:=hW.hmths
  obtain⟨A4,k4,rfl,q4,z4⟩:=aqm m2
  have hk':=hF.pool k hk
  have hbo:aqQ W (fun g=>ok g∧g<w.heap.size) c A1 k1 (.slice A2 c.ifs.length k2) (.slice A3 c.flds.length k3) (.slice A4 c.mths.length k4):=⟨hW.hpool,rfl,rfl,rfl⟩
  obtain⟨tag,tx,nu,a,b⟩:=k
  obtain⟨ha,hb,ht,htag⟩:=hk'
  unfold gqq
  simp only at ha hb htag⊢
  rcases htag with rfl|rfl|rfl|rfl|rfl|rfl|rfl
  ·exact eqh c _ _ _ _ ⟨1,tx,nu,a,b⟩ (.inl rfl) W
  ·exact eqh c _ _ _ _ ⟨3,tx,nu,a,b⟩ (.inr rfl) W
  ·exact gqd c A1 k1 _ _ _ _ tx nu a b W hbo ha htx
  ·exact dqS c A1 k1 _ _ _ _ 9 tx nu a b W hbo ha hb (fun k hk=> ⟨(hF.pool k hk).1,(hF.pool k hk).2.1⟩) htx (.inl rfl)
  ·exact dqS c A1 k1 _ _ _ _ 10 tx nu a b W hbo ha hb (fun k hk=> ⟨(hF.pool k hk).1,(hF.pool k hk).2.1⟩) htx (.inr (.inl rfl))
  ·exact dqS c A1 k1 _ _ _ _ 11 tx nu a b W hbo ha hb (fun k hk=> ⟨(hF.pool k hk).1,(hF.pool k hk).2.1⟩) htx (.inr (.inr rfl))
  exact fqC c A1 k1 _ _ _ _ tx nu a b W hbo ha hb htx
 ·obtain⟨A1,k1,rfl,q1,z1⟩:=aqm hW.hpool
  obtain⟨A2,k2,rfl,q2,z2⟩:=aqm hW.hifs
  obtain⟨A3,k3,rfl,q3,z3⟩:=aqm hW.hflds
  obtain⟨ms,m1,m2,m3⟩:=hW.hmths
  obtain⟨A4,k4,rfl,q4,z4⟩:=aqm m2
  have hx':=hF.flds x (List.mem_of_getElem? hx)
  have hl:=gqr c.pool c.acc (c.flds.take k) []
  have hl2:(c.flds.take k).length≤c.flds.length:=List.length_take_le' _ _
  have hst:bqQ c.pool c.acc (c.flds.take (k+1))=if eq6 c.pool c.acc x then bqQ c.pool c.acc (c.flds.take k) else cqY c.pool x.name x.desc::bqQ c.pool c.acc (c.flds.take k):=by
   obtain⟨hlt,hg⟩:=List.getElem?_eq_some_iff.1 hx
   rw [List.take_succ_eq_append_getElem hlt,hg]
   unfold bqQ
   rw [List.foldl_append]
   rfl
  rw [hst]
  exact jqq c A1 k1 _ _ _ _ x b _ W ⟨hW.hpool,rfl,rfl,rfl⟩ hs (by unfold bqQ;simp only [List.length_nil] at hl;omega) hx'.1 hx'.2.1 hx'.2.2 htx
 obtain⟨A1,k1,rfl,q1,z1⟩:=aqm hW.hpool
 obtain⟨A2,k2,rfl,q2,z2⟩:=aqm hW.hifs
 obtain⟨A3,k3,rfl,q3,z3⟩:=aqm hW.hflds
 obtain⟨ms,m1,m2,m3⟩:=hW.hmths
 obtain⟨A4,k4,rfl,q4,z4⟩:=aqm m2
 have hx':=hF.mths x (List.mem_of_getElem? hx)
 have hl:=hql c.pool c.acc (c.mths.take k) []
 have hl2:(c.mths.take k).length≤c.mths.length:=List.length_take_le' _ _
 have hst:bqv c.pool c.acc (c.mths.take (k+1))=if eq7 c.pool c.acc x then bqv c.pool c.acc (c.mths.take k) else cqY c.pool x.name x.desc::bqv c.pool c.acc (c.mths.take k):=by
  obtain⟨hlt,hg⟩:=List.getElem?_eq_some_iff.1 hx
  rw [List.take_succ_eq_append_getElem hlt,hg]
  unfold bqv
  rw [List.foldl_append]
  rfl
 rw [hst]
 exact iqa c A1 k1 _ _ _ _ _ x cv tv b _ W ⟨hW.hpool,rfl,rfl,rfl⟩ hM hs (by unfold bqv;simp only [List.length_nil] at hl;omega) hx'.1 hx'.2.1 (fun t ht=> (hx'.2.2.2.2 t ht).2.2.2) htx
def iqO:ByteArray:=⟨#[99,108,97,115,115,32,65,32,112,117,98,108,105,99,32,115,117,112,101,114,10,102,105,101,108,100,32,120,32,73,32,112,117,98,108,105,99,32,115,116,97,116,105,99,32,61,32,55,10,109,101,116,104,111,100,32,60,99,108,105,110,105,116,62,32,40,41,86,32,115,116,97,116,105,99,10,103,101,116,115,116,97,116,105,99,32,65,32,120,32,73,10,105,110,118,111,107,101,115,116,97,116,105,99,32,118,109,47,83,121,115,32,112,114,105,110,116,32,40,73,41,86,10,114,101,116,117,114,110,10,101,110,100,10]⟩
def kqZ:Bool:=match cq9 aq1 iqO with
 | .error _=>false
 | .ok c=>decide (c.pool.length=19)&&(match c.mths with| [m]=>decide (m.code= [178,0,13,184,0,19,177]) |_=>false)
theorem iqb:kqZ=true:=by decide+kernel
theorem iqc:cq9 aq1 ⟨#[]⟩= .error (0,60):=by kernel_rfl
set_option maxHeartbeats 4000000
theorem iqP {w:World} {ok:Nat→Prop} {l:List UInt8} {A:Option Addr} {cap:Nat} (h:cqX w ok 1 l.length (l.map bV) (.slice A l.length cap)):RdB w A l.length cap l:=by
 obtain⟨A',cap',e,h1,h2,h3,h4⟩:=h
 cases e
 exact⟨rfl,h1,by omega,fun h0=>by
  obtain⟨b,off,e,hb,_,hc⟩:=h4 h0
  exact⟨b,off,e,hb,fun i hi=>by
   rw [hc i _ (by rw [List.getElem?_map,List.getElem?_eq_getElem hi];rfl)]
   simp [bV,byt,List.getD,List.getElem?_eq_getElem hi]⟩⟩
theorem mqF (w:World) (a b c d:Int):(binOp .neq 112 (.agg #[.int .i64 a, .int .i64 b, .int .i64 c, .int .i64 d]) (.agg #[.int .i64 a, .int .i64 b, .int .i64 c, .int .i64 d])).run Tryz.prog w= .ok (.bool false) w:=by
 go_simp
theorem kq0 (x:aqA) (c1 t1 c2 t2:Value) (ok1 ok2:Nat→Prop) (w:World) (h1:cqC w ok1 x c1 t1) (h2:cqC w ok2 x c2 t2):
  Calls Tryz.prog 32 #[bq3 x c1 t1,bq3 x c2 t2] w fun e w'=>e= .returned (.bool true)∧Below w.heap.size w w':=by
 obtain⟨A1,k1,rfl,q1,z1⟩:=aqm h1.hcode
 obtain⟨B1,l1,rfl,p1,y1⟩:=aqm h1.htraps
 obtain⟨A2,k2,rfl,q2,z2⟩:=aqm h2.hcode
 obtain⟨B2,l2,rfl,p2,y2⟩:=aqm h2.htraps
 obtain⟨acc,nm,ds,has,stack,locals,code,traps⟩:=x
 have hr1:=iqP h1.hcode
 have hr2:=iqP h2.hcode
 have HT1:=Hq h1.htraps
 have HT2:=Hq h2.htraps
 simp only at hr1 hr2 HT1 HT2 z1 y1 p1 p2
 have hb:Below w.heap.size w ((w.alloc (.cells #[.int .i64 acc, .int .i64 nm, .int .i64 ds, .bool has, .int .i64 stack, .int .i64 locals, .slice A1 code.length k1, .slice B1 traps.length l1] 37)).alloc (.cells #[.int .i64 acc, .int .i64 nm, .int .i64 ds, .bool has, .int .i64 stack, .int .i64 locals, .slice A2 code.length k2, .slice B2 traps.length l2] 37)):=((Below.refl _ _).alloc (Nat.le_refl _) _).alloc (by simp) _
 have hcv1:=(hr1.below hb).str
 have hcv2:=(hr2.below hb).str
 have HB:=Hq hb
 have X1:=Hq ((aqo w [.int .i64 acc, .int .i64 nm, .int .i64 ds, .bool has, .int .i64 stack, .int .i64 locals, .slice A1 code.length k1, .slice B1 traps.length l1] 37).below ((Below.refl _ _).alloc (Nat.le_refl _) (.cells #[.int .i64 acc, .int .i64 nm, .int .i64 ds, .bool has, .int .i64 stack, .int .i64 locals, .slice A2 code.length k2, .slice B2 traps.length l2] 37)) (by simp))
 have X2:=Hq (aqo (w.alloc (.cells #[.int .i64 acc, .int .i64 nm, .int .i64 ds, .bool has, .int .i64 stack, .int .i64 locals, .slice A1 code.length k1, .slice B1 traps.length l1] 37)) [.int .i64 acc, .int .i64 nm, .int .i64 ds, .bool has, .int .i64 stack, .int .i64 locals, .slice A2 code.length k2, .slice B2 traps.length l2] 37)
 clear h1 h2 hr1 hr2 hb
 unfold bq3
 simp only
 go_enter Tryz.func32,Tryz.ntmps32
 go_wp2_with fail
 go_loopw [5] (fun i wr=> ∃k:Nat,k≤traps.length∧i= .int .i64 k∧Hid (Below w.heap.size w wr)∧Hid (Bx wr w.heap.size [.int .i64 acc, .int .i64 nm, .int .i64 ds, .bool has, .int .i64 stack, .int .i64 locals, .slice A1 code.length k1, .slice B1 traps.length l1] 37)∧Hid (Bx wr (w.heap.size+1) [.int .i64 acc, .int .i64 nm, .int .i64 ds, .bool has, .int .i64 stack, .int .i64 locals, .slice A2 code.length k2, .slice B2 traps.length l2] 37)) (fun i _=>traps.length - (RowKit.intOf i).toNat)
 case atStart=>exact⟨0,by omega,rfl,HB,X1,by simpa using X2⟩
 case round=>
  obtain⟨k,hk,rfl,HBr,Y1,Y2⟩:=hrel
  have c1:=Y1.out.cell 7 rfl
  have c2:=Y2.out.cell 7 rfl
  by_cases hlt:k<traps.length
  ·obtain⟨x,hx⟩: ∃x,traps[k]?=some x:=⟨_,List.getElem?_eq_getElem hlt⟩
   obtain⟨b1,o1,rfl,g1,a0,a1,a2,a3⟩:=cqK (HT1.out.keep (bqE.of_below HBr.out)) k x hx
   obtain⟨b2,o2,rfl,g2,e0,e1,e2,e3⟩:=cqK (HT2.out.keep (bqE.of_below HBr.out)) k x hx
   have hnq:=mqF
   have HBn:=Hq (fun m=>HBr.out.trans (below_drewN (Below.refl w.heap.size wr) m))
   have Yn:=Hq (fun m=>Y1.out.below (below_drewN (Below.refl wr.heap.size wr) m) Y1.out.lt)
   have Zn:=Hq (fun m=>Y2.out.below (below_drewN (Below.refl wr.heap.size wr) m) Y2.out.lt)
   clear hx
   go_wp2_with fail
   go_quiet (fail)
   go_wp2_with fail
   go_roundw
   case rel=>exact⟨k+1,by omega,by go_num,Hq (HBn.out _),Hq (Yn.out _),Hq (Zn.out _)⟩
   case measure=>simp [RowKit.intOf];omega
  go_wp2_with fail
  go_ret
  exact⟨rfl,HBr.out⟩
theorem oqZ (w:World) (k:Ko):(binOp .neq 33 (.agg #[.int .i64 k.tag, .string k.text, .int .i64 k.num, .int .i64 k.a, .int .i64 k.b]) (.agg #[.int .i64 k.tag, .string k.text, .int .i64 k.num, .int .i64 k.a, .int .i64 k.b])).run Tryz.prog w= .ok (.bool false) w:=by
 go_simp
theorem oqp (w:World) (a b c d:Int):(binOp .neq 83 (.agg #[.int .i64 a, .int .i64 b, .int .i64 c, .int .i64 d]) (.agg #[.int .i64 a, .int .i64 b, .int .i64 c, .int .i64 d])).run Tryz.prog w= .ok (.bool false) w:=by
 go_simp
structure nq0 (w:World) (ca cb:List Value) (wr:World):Prop where
 bel:Below w.heap.size w wr
 x1:Bx wr w.heap.size ca 28
 x2:Bx wr (w.heap.size+1) cb 28
theorem nq0.below {w W W':World} {ca cb:List Value} (h:nq0 w ca cb W) (hb:Below W.heap.size W W'):nq0 w ca cb W':=
 ⟨h.bel.trans (hb.mono h.bel.size),h.x1.below hb h.x1.lt,h.x2.below hb h.x2.lt⟩
theorem dqU {w:World} {ok:Nat→Prop} {l:List Int} {A:Option Addr} {cap:Nat} (h:cqX w ok 1 l.length (l.map (Value.int .i64)) (.slice A l.length cap)): ∀(k:Nat) (x:Int),l[k]?=some x→ ∃b off,A=some ⟨b,off,none⟩∧b<w.heap.size∧w.cell? ⟨b,off+k,none⟩=some (.int .i64 x):=by
 intro k x hk
 obtain⟨A',cap',e,_,_,_,h5⟩:=h
 cases e
 obtain⟨b,off,e,hlt,_,hc⟩:=h5 (by have:=(List.getElem?_eq_some_iff.1 hk).1;omega)
 exact⟨b,off,e,hlt,hc _ _ (by rw [List.getElem?_map,hk];rfl)⟩
theorem jqu (c:aqj) (a1 a2 a3 a4 b1 b2 b3 b4:Value) (ok1 ok2:Nat→Prop) (w:World) (h1:aq9 w ok1 c a1 a2 a3 a4) (h2:aq9 w ok2 c b1 b2 b3 b4):
  Calls Tryz.prog 12 #[bqp c a1 a2 a3 a4,bqp c b1 b2 b3 b4] w fun e w'=>e= .returned (.bool true)∧Below w.heap.size w w':=by
 obtain⟨P1,p1,rfl,_,zp1⟩:=aqm h1.hpool
 obtain⟨I1,i1,rfl,_,zi1⟩:=aqm h1.hifs
 obtain⟨F1,f1,rfl,_,zf1⟩:=aqm h1.hflds
 obtain⟨ms1,e1,s1,r1⟩:=h1.hmths
 obtain⟨M1,m1,rfl,_,zm1⟩:=aqm s1
 obtain⟨P2,p2,rfl,_,zp2⟩:=aqm h2.hpool
 obtain⟨I2,i2,rfl,_,zi2⟩:=aqm h2.hifs
 obtain⟨F2,f2,rfl,_,zf2⟩:=aqm h2.hflds
 obtain⟨ms2,e2,s2,r2⟩:=h2.hmths
 obtain⟨M2,m2,rfl,_,zm2⟩:=aqm s2
 have HP1:=Hq h1.hpool
 have HP2:=Hq h2.hpool
 have HI1:=Hq h1.hifs
 have HI2:=Hq h2.hifs
 have HF1:=Hq h1.hflds
 have HF2:=Hq h2.hflds
 have HE1:=Hq e1
 have HE2:=Hq e2
 have HS1:=Hq s1
 have HS2:=Hq s2
 have HR1:=Hq r1
 have HR2:=Hq r2
 have H0:=Hq (show nq0 w [.int .i64 c.minor, .int .i64 c.major, .slice P1 c.pool.length p1, .int .i64 c.acc, .int .i64 c.this, .int .i64 c.sup, .slice I1 c.ifs.length i1, .slice F1 c.flds.length f1, .slice M1 c.mths.length m1] [.int .i64 c.minor, .int .i64 c.major, .slice P2 c.pool.length p2, .int .i64 c.acc, .int .i64 c.this, .int .i64 c.sup, .slice I2 c.ifs.length i2, .slice F2 c.flds.length f2, .slice M2 c.mths.length m2] _ from⟨((Below.refl _ _).alloc (Nat.le_refl _) (.cells #[.int .i64 c.minor, .int .i64 c.major, .slice P1 c.pool.length p1, .int .i64 c.acc, .int .i64 c.this, .int .i64 c.sup, .slice I1 c.ifs.length i1, .slice F1 c.flds.length f1, .slice M1 c.mths.length m1] 28)).alloc (by simp) (.cells #[.int .i64 c.minor, .int .i64 c.major, .slice P2 c.pool.length p2, .int .i64 c.acc, .int .i64 c.this, .int .i64 c.sup, .slice I2 c.ifs.length i2, .slice F2 c.flds.length f2, .slice M2 c.mths.length m2] 28),
  (aqo w [.int .i64 c.minor, .int .i64 c.major, .slice P1 c.pool.length p1, .int .i64 c.acc, .int .i64 c.this, .int .i64 c.sup, .slice I1 c.ifs.length i1, .slice F1 c.flds.length f1, .slice M1 c.mths.length m1] 28).below ((Below.refl _ _).alloc (Nat.le_refl _) _) (by simp),by simpa using aqo (w.alloc (.cells #[.int .i64 c.minor, .int .i64 c.major, .slice P1 c.pool.length p1, .int .i64 c.acc, .int .i64 c.this, .int .i64 c.sup, .slice I1 c.ifs.length i1, .slice F1 c.flds.length f1, .slice M1 c.mths.length m1] 28)) [.int .i64 c.minor, .int .i64 c.major, .slice P2 c.pool.length p2, .int .i64 c.acc, .int .i64 c.this, .int .i64 c.sup, .slice I2 c.ifs.length i2, .slice F2 c.flds.length f2, .slice M2 c.mths.length m2] 28⟩)
 clear h1 h2 e1 e2 s1 s2 r1 r2
 rw [aqe,aqe]
 go_enter Tryz.func12,Tryz.ntmps12
 go_wp2_with fail
 go_loopw [5] (fun i wr=> ∃k:Nat,k≤c.pool.length∧i= .int .i64 k∧Hid (nq0 w [.int .i64 c.minor, .int .i64 c.major, .slice P1 c.pool.length p1, .int .i64 c.acc, .int .i64 c.this, .int .i64 c.sup, .slice I1 c.ifs.length i1, .slice F1 c.flds.length f1, .slice M1 c.mths.length m1] [.int .i64 c.minor, .int .i64 c.major, .slice P2 c.pool.length p2, .int .i64 c.acc, .int .i64 c.this, .int .i64 c.sup, .slice I2 c.ifs.length i2, .slice F2 c.flds.length f2, .slice M2 c.mths.length m2] wr)) (fun i _=>c.pool.length - (RowKit.intOf i).toNat)
 case atStart=>exact⟨0,by omega,rfl,H0⟩
 case round=>
  obtain⟨k,hk,rfl,HW⟩:=hrel
  have c1:=HW.out.x1.cell 2 rfl
  have c2:=HW.out.x2.cell 2 rfl
  by_cases hlt:k<c.pool.length
  ·obtain⟨x,hx⟩: ∃x,c.pool[k]?=some x:=⟨_,List.getElem?_eq_getElem hlt⟩
   obtain⟨b1,o1,rfl,g1,x0,x1,x2,x3,x4⟩:=bq4 (HP1.out.keep (bqE.of_below HW.out.bel)) k x hx
   obtain⟨b2,o2,rfl,g2,y0,y1,y2,y3,y4⟩:=bq4 (HP2.out.keep (bqE.of_below HW.out.bel)) k x hx
   have hnq:=oqZ
   have HWn:=Hq (fun m=>HW.out.below (below_drewN (Below.refl wr.heap.size wr) m))
   clear hx
   go_wp2_with fail
   go_quiet (fail)
   go_wp2_with fail
   go_roundw
   case rel=>exact⟨k+1,by omega,by go_num,Hq (HWn.out _)⟩
   case measure=>simp [RowKit.intOf];omega
  go_wp2_with fail
  go_loopw [6] (fun i wr=> ∃k:Nat,k≤c.ifs.length∧i= .int .i64 k∧Hid (nq0 w [.int .i64 c.minor, .int .i64 c.major, .slice P1 c.pool.length p1, .int .i64 c.acc, .int .i64 c.this, .int .i64 c.sup, .slice I1 c.ifs.length i1, .slice F1 c.flds.length f1, .slice M1 c.mths.length m1] [.int .i64 c.minor, .int .i64 c.major, .slice P2 c.pool.length p2, .int .i64 c.acc, .int .i64 c.this, .int .i64 c.sup, .slice I2 c.ifs.length i2, .slice F2 c.flds.length f2, .slice M2 c.mths.length m2] wr)) (fun i _=>c.ifs.length - (RowKit.intOf i).toNat)
  case atStart=>exact⟨0,by omega,rfl,HW⟩
  case round=>
   obtain⟨k,hk,rfl,HW⟩:=hrel
   have c1:=HW.out.x1.cell 6 rfl
   have c2:=HW.out.x2.cell 6 rfl
   by_cases hlt:k<c.ifs.length
   ·obtain⟨x,hx⟩: ∃x,c.ifs[k]?=some x:=⟨_,List.getElem?_eq_getElem hlt⟩
    obtain⟨b1,o1,rfl,g1,x0⟩:=dqU (HI1.out.keep (bqE.of_below HW.out.bel)) k x hx
    obtain⟨b2,o2,rfl,g2,y0⟩:=dqU (HI2.out.keep (bqE.of_below HW.out.bel)) k x hx
    have hnq:=True.intro
    have HWn:=Hq (fun m=>HW.out.below (below_drewN (Below.refl wr.heap.size wr) m))
    clear hx
    go_wp2_with fail
    go_quiet (fail)
    go_wp2_with fail
    go_roundw
    case rel=>exact⟨k+1,by omega,by go_num,Hq (HWn.out _)⟩
    case measure=>simp [RowKit.intOf];omega
   go_wp2_with fail
   go_loopw [7] (fun i wr=> ∃k:Nat,k≤c.flds.length∧i= .int .i64 k∧Hid (nq0 w [.int .i64 c.minor, .int .i64 c.major, .slice P1 c.pool.length p1, .int .i64 c.acc, .int .i64 c.this, .int .i64 c.sup, .slice I1 c.ifs.length i1, .slice F1 c.flds.length f1, .slice M1 c.mths.length m1] [.int .i64 c.minor, .int .i64 c.major, .slice P2 c.pool.length p2, .int .i64 c.acc, .int .i64 c.this, .int .i64 c.sup, .slice I2 c.ifs.length i2, .slice F2 c.flds.length f2, .slice M2 c.mths.length m2] wr)) (fun i _=>c.flds.length - (RowKit.intOf i).toNat)
   case atStart=>exact⟨0,by omega,rfl,HW⟩
   case round=>
    obtain⟨k,hk,rfl,HW⟩:=hrel
    have c1:=HW.out.x1.cell 7 rfl
    have c2:=HW.out.x2.cell 7 rfl
    by_cases hlt:k<c.flds.length
    ·obtain⟨x,hx⟩: ∃x,c.flds[k]?=some x:=⟨_,List.getElem?_eq_getElem hlt⟩
     obtain⟨b1,o1,rfl,g1,x0,x1,x2,x3⟩:=dqh (HF1.out.keep (bqE.of_below HW.out.bel)) k x hx
     obtain⟨b2,o2,rfl,g2,y0,y1,y2,y3⟩:=dqh (HF2.out.keep (bqE.of_below HW.out.bel)) k x hx
     have hnq:=oqp
     have HWn:=Hq (fun m=>HW.out.below (below_drewN (Below.refl wr.heap.size wr) m))
     clear hx
     go_wp2_with fail
     go_quiet (fail)
     go_wp2_with fail
     go_roundw
     case rel=>exact⟨k+1,by omega,by go_num,Hq (HWn.out _)⟩
     case measure=>simp [RowKit.intOf];omega
    go_wp2_with fail
    go_loopw [8] (fun i wr=> ∃k:Nat,k≤c.mths.length∧i= .int .i64 k∧Hid (nq0 w [.int .i64 c.minor, .int .i64 c.major, .slice P1 c.pool.length p1, .int .i64 c.acc, .int .i64 c.this, .int .i64 c.sup, .slice I1 c.ifs.length i1, .slice F1 c.flds.length f1, .slice M1 c.mths.length m1] [.int .i64 c.minor, .int .i64 c.major, .slice P2 c.pool.length p2, .int .i64 c.acc, .int .i64 c.this, .int .i64 c.sup, .slice I2 c.ifs.length i2, .slice F2 c.flds.length f2, .slice M2 c.mths.length m2] wr)) (fun i _=>c.mths.length - (RowKit.intOf i).toNat)
    case atStart=>exact⟨0,by omega,rfl,HW⟩
    case round=>
     obtain⟨k,hk,rfl,HW⟩:=hrel
     have c1:=HW.out.x1.cell 8 rfl
     have c2:=HW.out.x2.cell 8 rfl
     by_cases hlt:k<c.mths.length
     ·obtain⟨⟨x1,u1,v1⟩,hx1⟩: ∃q,ms1[k]?=some q:=⟨_,List.getElem?_eq_getElem (by rw [←HE1.out,List.length_map] at hlt;exact hlt)⟩
      obtain⟨⟨x2,u2,v2⟩,hx2⟩: ∃q,ms2[k]?=some q:=⟨_,List.getElem?_eq_getElem (by rw [←HE2.out,List.length_map] at hlt;exact hlt)⟩
      obtain rfl:x1=x2:=by
       have e1:c.mths[k]?=some x1:=by rw [←HE1.out,List.getElem?_map,hx1];rfl
       have e2:c.mths[k]?=some x2:=by rw [←HE2.out,List.getElem?_map,hx2];rfl
       exact Option.some.inj (e1.symm.trans e2)
      obtain⟨b1,o1,rfl,g1,y0,y1,y2,y3,y4,y5,y6,y7⟩:=fqB (HS1.out.keep (bqE.of_below HW.out.bel)) (by rw [←HE1.out,List.length_map]) k x1 u1 v1 hx1
      obtain⟨b2,o2,rfl,g2,z0,z1,z2,z3,z4,z5,z6,z7⟩:=fqB (HS2.out.keep (bqE.of_below HW.out.bel)) (by rw [←HE2.out,List.length_map]) k x1 u2 v2 hx2
      have q1:=HR1.out _ (List.mem_of_getElem? hx1)
      have q2:=HR2.out _ (List.mem_of_getElem? hx2)
      have k1:=bqE.of_below (ok:=ok1) HW.out.bel
      have k2:=bqE.of_below (ok:=ok2) HW.out.bel
      have HM:=Hq (fun W (hb:Below wr.heap.size wr W)=>kq0 x1 u1 v1 u2 v2 ok1 ok2 W ⟨(q1.hcode.keep k1).keep (bqE.of_below hb),(q1.htraps.keep k1).keep (bqE.of_below hb)⟩ ⟨(q2.hcode.keep k2).keep (bqE.of_below hb),(q2.htraps.keep k2).keep (bqE.of_below hb)⟩)
      unfold bq3 at HM
      obtain⟨A1,n1,c3,rfl⟩: ∃A n c,u1= .slice A n c:=by obtain⟨A,c,e,_⟩:=aqm q1.hcode;exact⟨_,_,_,e⟩
      obtain⟨A2,n2,c4,rfl⟩: ∃A n c,v1= .slice A n c:=by obtain⟨A,c,e,_⟩:=aqm q1.htraps;exact⟨_,_,_,e⟩
      obtain⟨A3,n3,c5,rfl⟩: ∃A n c,u2= .slice A n c:=by obtain⟨A,c,e,_⟩:=aqm q2.hcode;exact⟨_,_,_,e⟩
      obtain⟨A4,n4,c6,rfl⟩: ∃A n c,v2= .slice A n c:=by obtain⟨A,c,e,_⟩:=aqm q2.htraps;exact⟨_,_,_,e⟩
      clear hx1 hx2 q1 q2 k1 k2
      go_wp2_with fail
      refine cq8 10 (by kernel_rfl) (by kernel_rfl) ?_
      simp only [List.take_succ_cons,List.take_zero,List.drop_succ_cons,List.drop_zero]
      repeat go_big_quiet_step (fail)
      refine wpQuiet_nil ?_
      go_wp2_with (go_at_call 32;refine(HM.out _ (below_drewN (Below.refl _ _) _)).mono ?_;rintro e w3 ⟨rfl,hb3⟩;have HW3:=Hq ((HW.out.below (below_drewN (Below.refl _ _) _)).below hb3);clear hb3)
      go_roundw
      case rel=>exact⟨k+1,by omega,by go_num,HW3⟩
      case measure=>simp [RowKit.intOf];omega
     go_wp2_with fail
     go_ret
     exact⟨rfl,HW.out.bel⟩
theorem mqG (s:ByteArray) (j:Nat) (h:j<s.size):s.get! j=s[j]'h:=by
 simp [ByteArray.get!,getElem!_pos,h]
 rfl
theorem fqF (s:ByteArray) (pos:Nat) (h:pos<s.size) (ha:128≤(s[pos]'h).toNat):
  pos+(Utf8.decode s pos).2≤s.size∧ ∀j,pos≤j→(hj:j<pos+(Utf8.decode s pos).2)→128≤(s.get! j).toNat:=by
 have hb: ∀k,(s.get! (pos+k)).toNat<256:=fun k=> (s.get! (pos+k)).toNat_lt
 have e0:s.get! (pos+0)=s[pos]'h:=get_at s pos h
 have a0:128≤(s.get! (pos+0)).toNat:=by rw [e0];exact ha
 have hn: ¬(s.get! (pos+0)).toNat<128:=by omega
 have one:pos+1≤s.size∧ ∀j,pos≤j→j<pos+1→128≤(s.get! j).toNat:=⟨by omega,fun j h1 h2=>by
  obtain rfl:j=pos:=by omega
  exact a0⟩
 simp only [Utf8.decode,hn,if_false]
 split
 ·rename_i h1
  simp only [Bool.and_eq_true,decide_eq_true_eq,beq_iff_eq] at h1
  split
  ·refine⟨by show pos+2≤_;omega,fun j h3 h4=> ?_⟩
   have h4:j<pos+2:=h4
   obtain rfl|rfl:j=pos+0∨j=pos+1:=by omega
   ·exact a0
   have:=h1.2.2;omega
  exact one
 split
 ·rename_i h1
  simp only [Bool.and_eq_true,decide_eq_true_eq,beq_iff_eq] at h1
  split
  ·refine⟨by show pos+3≤_;omega,fun j h3 h4=> ?_⟩
   have h4:j<pos+3:=h4
   obtain rfl|rfl|rfl:j=pos+0∨j=pos+1∨j=pos+2:=by omega
   ·exact a0
   ·have:=h1.1.2.2;omega
   have:=h1.2.2;omega
  exact one
 split
 ·rename_i h1
  simp only [Bool.and_eq_true,decide_eq_true_eq,beq_iff_eq] at h1
  split
  ·refine⟨by show pos+4≤_;omega,fun j h3 h4=> ?_⟩
   have h4:j<pos+4:=h4
   obtain rfl|rfl|rfl|rfl:j=pos+0∨j=pos+1∨j=pos+2∨j=pos+3:=by omega
   ·exact a0
   ·have:=h1.1.1.2.2;omega
   ·have:=h1.1.2.2;omega
   have:=h1.2.2;omega
  exact one
 exact one
theorem jqv (bs l cur:List UInt8) (h: ∀b∈bs,dqg b=false):aqy (bs++l) cur=aqy l (cur++bs):=by
 induction bs generalizing cur with
 |nil=>simp
 |cons b bs ih=>
  rw [List.cons_append,aqy,h b (by simp)]
  simp only [Bool.false_eq_true,if_false]
  rw [ih (cur++ [b]) (fun x hx=>h x (by simp [hx]))]
  simp
theorem jqw (s:ByteArray) (pos:Nat) (h:pos<s.size) (ha:128≤(s[pos]'h).toNat) (cur:List UInt8):
  aqy (s.data.toList.drop pos) cur=aqy (s.data.toList.drop (pos+(Utf8.decode s pos).2)) (cur++(s.data.toList.drop pos).take (Utf8.decode s pos).2):=by
 have hs:=fqF s pos h ha
 have hl:s.data.toList.length=s.size:=Array.length_toList
 conv=>lhs;rw [←List.take_append_drop (Utf8.decode s pos).2 (s.data.toList.drop pos)]
 rw [jqv,List.drop_drop]
 intro b hb
 obtain⟨i,hi,e⟩:=List.mem_iff_getElem.1 hb
 rw [List.length_take,List.length_drop] at hi
 rw [List.getElem_take,List.getElem_drop] at e
 have hx:=hs.2 (pos+i) (by omega) (by omega)
 rw [mqG s (pos+i) (by omega)] at hx
 have e2:s[pos+i]'(by omega)=b:=e
 rw [e2] at hx
 unfold dqg
 simp only [Bool.or_eq_false_iff,beq_eq_false_iff_ne]
 constructor
 ·rintro rfl;revert hx;decide
 rintro rfl;revert hx;decide
set_option maxHeartbeats 1000000
def gqs (s:ByteArray) (j:Nat) (cur:List UInt8) (f:Int):Prop:=(cur= []∧f= -1)∨(cur≠ []∧ ∃n:Nat,f=n∧n<j∧cur=(s.data.toList.drop n).take (j - n))
theorem fqG {s:ByteArray} {j n:Nat} {cur:List UInt8} {f:Int} (h:gqs s j cur f) (hn:0<n) (hj:j+n≤s.size):gqs s (j+n) (cur++(s.data.toList.drop j).take n) (if f<0 then(j:Int) else f):=by
 have hl:s.data.toList.length=s.size:=Array.length_toList
 have hne:(s.data.toList.drop j).take n≠ []:=by
  intro e
  have:=congrArg List.length e
  rw [List.length_take,List.length_drop,hl] at this
  simp at this
  omega
 rcases h with⟨rfl,rfl⟩ | ⟨h1,m,rfl,h2,h3⟩
 ·refine .inr ⟨by simpa using hne,j,by simp,by omega, ?_⟩
  rw [List.nil_append,show j+n - j=n by omega]
 refine .inr ⟨by simp [h1],m,by rw [if_neg (by omega)],by omega, ?_⟩
 rw [h3,show j+n - m=(j - m)+n by omega,List.take_add,List.drop_drop,show m+(j - m)=j by omega]
theorem gqt {s:ByteArray} {j:Nat} {cur:List UInt8} {f:Int} {b:UInt8} (h:gqs s j cur f) (hb:s.data.toList[j]?=some b):gqs s (j+1) (cur++ [b]) (if f<0 then(j:Int) else f):=by
 have hl:s.data.toList.length=s.size:=Array.length_toList
 have hlt:=(List.getElem?_eq_some_iff.1 hb).1
 have h1:=fqG (n:=1) h (by omega) (by omega)
 rw [List.drop_eq_getElem_cons hlt,(List.getElem?_eq_some_iff.1 hb).2] at h1
 exact h1
def fq9 (L:List (List UInt8)):List Value:=L.map fun x=>Value.string ⟨x.toArray⟩
theorem fqH {s:ByteArray} {j:Nat} {b:UInt8} {cur:List UInt8} (hb:s.data.toList[j]?=some b) (h:dqg b=true):aqy (s.data.toList.drop j) cur=(if cur= [] then [] else [cur])++aqy (s.data.toList.drop (j+1)) []:=by
 have hlt:=(List.getElem?_eq_some_iff.1 hb).1
 rw [List.drop_eq_getElem_cons hlt,(List.getElem?_eq_some_iff.1 hb).2,aqy,h]
 simp only [if_true]
 split<;>rfl
theorem eq8 {s:ByteArray} {j:Nat} {b:UInt8} {cur:List UInt8} (hb:s.data.toList[j]?=some b) (h:dqg b=false):aqy (s.data.toList.drop j) cur=aqy (s.data.toList.drop (j+1)) (cur++ [b]):=by
 have hlt:=(List.getElem?_eq_some_iff.1 hb).1
 rw [List.drop_eq_getElem_cons hlt,(List.getElem?_eq_some_iff.1 hb).2,aqy,h]
 simp
theorem kq1 (s:ByteArray) (w:World) (hm:s.size≤1000000):
  Calls Tryz.prog 23 #[.string s] w fun e w'=> ∃v,e= .returned v∧Below w.heap.size w w'∧w'.ownsRow w.heap.size 9 1 v (bqj s).length ((bqj s).map Value.string):=by
 have hl:s.data.toList.length=s.size:=Array.length_toList
 go_enter Tryz.func23,Tryz.ntmps23
 go_wp2_with fail
 go_loopw [3,4,5,6,7] (fun lv fv _ _ _ wr=> ∃(j:Nat) (L:List (List UInt8)) (cur:List UInt8) (f:Int),j≤s.size∧fv= .int .i64 f∧wr.heap[w.heap.size]?=some (.stringIter s j)∧L.length≤j∧Hid (wr.ownsRow (w.heap.size+1) 9 1 lv L.length (fq9 L))∧Hid (gqs s j cur f)∧Hid (L++aqy (s.data.toList.drop j) cur=aqy s.data.toList [])∧Hid (Below w.heap.size w wr)) (fun _ _ _ _ _ wr=>s.size - wr.iterPos w.heap.size)
 case atStart=>exact⟨0, [], [], -1,by omega,rfl,by first|exact World.iter_heap w s 0|simp [World.iter],by simp,Hq (World.ownsRow_nil _ _ _ _),Hq (.inl ⟨rfl,rfl⟩),Hq (by simp),by first|exact Hq ((Below.refl _ _).alloc (Nat.le_refl _) _)⟩
 case round=>
  obtain⟨j,L,cur,f,hj,rfl,hk,hLj,HO,HF,HW,HB⟩:=hrel
  have hkl:w.heap.size<wr.heap.size:=by
   rcases Nat.lt_or_ge w.heap.size wr.heap.size with h|h
   ·exact h
   rw [Array.getElem?_eq_none h] at hk
   cases hk
  have hip:wr.iterPos w.heap.size=j:=by unfold World.iterPos;rw [hk]
  by_cases hlt:j<s.size
  ·obtain⟨b,hb⟩: ∃b,b=s[j]'hlt:=⟨_,rfl⟩
   have hbl:s.data.toList[j]?=some b:=by rw [aqv hlt,hb]
   have hb2:=b.toNat_lt
   have HHI:=Hq (fun h:128≤b.toNat=>decode_high s j hlt (by rw [←hb];exact h))
   have HSP:=Hq (fun h:128≤b.toNat=>fqF s j hlt (by rw [←hb];exact h))
   have HWH:=Hq (fun h:128≤b.toNat=>jqw s j hlt (by rw [←hb];exact h) cur)
   clear hb
   by_cases h128:b.toNat<128
   ·by_cases hbk:dqg b=true
    ·have hb32:b=32∨b=9:=by
      unfold dqg at hbk
      simpa using hbk
     have HWB:=Hq (fqH (cur:=cur) hbl hbk)
     rcases HF.out with⟨hc,hf⟩ | ⟨hc,n,hf,hnj,hcur⟩
     ·subst hc
      subst hf
      rcases hb32 with rfl|rfl
      ·go_wp2_with (refine aqw rfl rfl rfl hk 32 (by rw [hbl];rfl) (by omega) ?_;intro W1 hk1 hc1 hf1 hs1 hh1 hn1;have HH:=Hq hh1;clear hh1)
       go_roundw
       case rel=>exact⟨j+1,L, [], -1,by omega,rfl,hk1,by omega,Hq (aqp HO.out fun q hq=>HH.out q (by have:=(HO.out.lt q hq).1;omega)),Hq (.inl ⟨rfl,rfl⟩),Hq (HW.out▸(by rw [HWB.out];rfl)),Hq (HB.out.trans hn1.out)⟩
       case measure=>simp only [World.iterPos,hk1,hk];omega
      go_wp2_with (refine aqw rfl rfl rfl hk 9 (by rw [hbl];rfl) (by omega) ?_;intro W1 hk1 hc1 hf1 hs1 hh1 hn1;have HH:=Hq hh1;clear hh1)
      go_roundw
      case rel=>exact⟨j+1,L, [], -1,by omega,rfl,hk1,by omega,Hq (aqp HO.out fun q hq=>HH.out q (by have:=(HO.out.lt q hq).1;omega)),Hq (.inl ⟨rfl,rfl⟩),Hq (HW.out▸(by rw [HWB.out];rfl)),Hq (HB.out.trans hn1.out)⟩
      case measure=>simp only [World.iterPos,hk1,hk];omega
     have HEX:=Hq (show s.extract n j=⟨cur.toArray⟩ from ByteArray.ext (Array.toList_inj.1 (by rw [aqK,hcur])))
     subst hf
     clear hcur
     have hnn: ¬(n:Int) <0:=by omega
     have hnj2:(n:Int)≤(j:Int):=by omega
     have hjs:(j:Int)≤(s.size:Int):=by omega
     rcases hb32 with rfl|rfl
     ·go_wp2_with (first| (refine aqw rfl rfl rfl hk 32 (by rw [hbl];rfl) (by omega) ?_;intro W1 hk1 hc1 hf1 hs1 hh1 hn1;have HH:=Hq hh1;have HN:=Hq hn1;clear hh1 hn1) | (at_builtin;refine aqa ?_))
      refine aqb ?_
      refine bqG rfl _ _ 43 rfl Tryz.underlying43 aqR rfl (by omega) (w.heap.size+1) rfl ((aqp HO.out fun q hq=>HH.out q (by have:=(HO.out.lt q hq).1;omega)).alloc _) rfl rfl (aqd _ _ _ _ (by first|rfl|omega| (simp<;>omega))) (by simp [Value.oneCell']) (by simp only [maxLen];omega) (by omega) (by first|rfl|omega| (simp<;>omega)) ?_
      intro v' W2 ho hg hb2
      have hz2:=hg.size
      simp only [World.size_alloc] at hz2
      have HI2:=Hq ((hg.block w.heap.size (by simp;omega) (fun e=>by have:=(HO.out.lt _ e.symm).1;omega)).trans ((Below.heap_alloc _ _ _ (by omega)).trans hk1))
      have HO2:=Hq ho
      have HB2:=Hq (HB.out.trans (((HN.out.mono (Nat.le_refl _)).alloc (by omega) _).trans (hb2.mono (by omega))))
      clear ho hg hb2
      go_wp2_with fail
      go_roundw
      case rel=>exact⟨j+1,L++ [cur], [], -1,by omega,rfl,HI2.out,by simp;omega,Hq (bqq HO2.out (by simp) (by rw [HEX.out];simp [fq9])),Hq (.inl ⟨rfl,rfl⟩),Hq (HW.out▸(by rw [HWB.out,if_neg hc];simp)),HB2⟩
      case measure=>have hk2:=HI2.out;simp only [World.iterPos,hk2,hk];omega
     go_wp2_with (first| (refine aqw rfl rfl rfl hk 9 (by rw [hbl];rfl) (by omega) ?_;intro W1 hk1 hc1 hf1 hs1 hh1 hn1;have HH:=Hq hh1;have HN:=Hq hn1;clear hh1 hn1) | (at_builtin;refine aqa ?_))
     refine aqb ?_
     refine bqG rfl _ _ 43 rfl Tryz.underlying43 aqR rfl (by omega) (w.heap.size+1) rfl ((aqp HO.out fun q hq=>HH.out q (by have:=(HO.out.lt q hq).1;omega)).alloc _) rfl rfl (aqd _ _ _ _ (by first|rfl|omega| (simp<;>omega))) (by simp [Value.oneCell']) (by simp only [maxLen];omega) (by omega) (by first|rfl|omega| (simp<;>omega)) ?_
     intro v' W2 ho hg hb2
     have hz2:=hg.size
     simp only [World.size_alloc] at hz2
     have HI2:=Hq ((hg.block w.heap.size (by simp;omega) (fun e=>by have:=(HO.out.lt _ e.symm).1;omega)).trans ((Below.heap_alloc _ _ _ (by omega)).trans hk1))
     have HO2:=Hq ho
     have HB2:=Hq (HB.out.trans (((HN.out.mono (Nat.le_refl _)).alloc (by omega) _).trans (hb2.mono (by omega))))
     clear ho hg hb2
     go_wp2_with fail
     go_roundw
     case rel=>exact⟨j+1,L++ [cur], [], -1,by omega,rfl,HI2.out,by simp;omega,Hq (bqq HO2.out (by simp) (by rw [HEX.out];simp [fq9])),Hq (.inl ⟨rfl,rfl⟩),Hq (HW.out▸(by rw [HWB.out,if_neg hc];simp)),HB2⟩
     case measure=>have hk2:=HI2.out;simp only [World.iterPos,hk2,hk];omega
    have hbk:dqg b=false:=by simpa using hbk
    have hq:((b.toNat:Int)==32)=false∧((b.toNat:Int)==9)=false:=by
     unfold dqg at hbk
     simp only [Bool.or_eq_false_iff,beq_eq_false_iff_ne] at hbk
     constructor
     ·rw [beq_eq_false_iff_ne];intro e;exact hbk.1 (UInt8.toNat_inj.1 (by rw [show b.toNat=32 by omega];rfl))
     rw [beq_eq_false_iff_ne];intro e;exact hbk.2 (UInt8.toNat_inj.1 (by rw [show b.toNat=9 by omega];rfl))
    obtain⟨hq1,hq2⟩:=hq
    have HWB:=Hq (eq8 (cur:=cur) hbl hbk)
    have HF1:=Hq (gqt HF.out hbl)
    rcases HF.out with⟨hc,hf⟩ | ⟨hc,n,hf,hnj,hcur⟩
    ·subst hf
     go_wp2_with (refine aqw rfl rfl rfl hk b.toNat (by rw [hbl];simp) h128 ?_;intro W1 hk1 hc1 hf1 hs1 hh1 hn1;have HH:=Hq hh1;have HN:=Hq hn1;clear hh1 hn1)
     go_roundw
     case rel=>exact⟨j+1,L,cur++ [b],j,by omega,rfl,hk1,by omega,Hq (aqp HO.out fun q hq=>HH.out q (by have:=(HO.out.lt q hq).1;omega)),HF1,Hq (HW.out▸(by rw [HWB.out])),Hq (HB.out.trans HN.out)⟩
     case measure=>simp only [World.iterPos,hk1,hk];omega
    subst hf
    clear hcur
    have hnn: ¬(n:Int) <0:=by omega
    go_wp2_with (refine aqw rfl rfl rfl hk b.toNat (by rw [hbl];simp) h128 ?_;intro W1 hk1 hc1 hf1 hs1 hh1 hn1;have HH:=Hq hh1;have HN:=Hq hn1;clear hh1 hn1)
    go_roundw
    case rel=>exact⟨j+1,L,cur++ [b],n,by omega,rfl,hk1,by omega,Hq (aqp HO.out fun q hq=>HH.out q (by have:=(HO.out.lt q hq).1;omega)),Hq (by have h:=HF1.out;rw [if_neg hnn] at h;exact h),Hq (HW.out▸(by rw [HWB.out])),Hq (HB.out.trans HN.out)⟩
    case measure=>simp only [World.iterPos,hk1,hk];omega
   have hge:128≤b.toNat:=by omega
   obtain⟨r,hdec⟩: ∃r,(Utf8.decode s j).1=r:=⟨_,rfl⟩
   obtain⟨m,hdec2⟩: ∃m,(Utf8.decode s j).2=m:=⟨_,rfl⟩
   have h1:=HHI.out hge
   have h2:=(HSP.out hge).1
   have HWB:=Hq (HWH.out hge)
   rw [hdec2] at HWB h1 h2
   rw [hdec] at h1
   have HF1:=Hq (fqG (n:=m) HF.out (by omega) (by omega))
   have hq1:((r:Int)==32)=false:=by rw [beq_eq_false_iff_ne];omega
   have hq2:((r:Int)==9)=false:=by rw [beq_eq_false_iff_ne];omega
   rcases HF.out with⟨hc,hf⟩ | ⟨hc,n,hf,hnj,hcur⟩
   ·subst hf
    go_wp2_with (refine cqq rfl rfl rfl hk hlt ?_;rw [hdec,hdec2];intro W1 hk1 hc1 hf1 hs1 hh1 hn1;have HH:=Hq hh1;have HN:=Hq hn1;clear hh1 hn1)
    go_roundw
    case rel=>exact⟨j+m,L,cur++(s.data.toList.drop j).take m,j,by omega,rfl,hk1,by omega,Hq (aqp HO.out fun q hq=>HH.out q (by have:=(HO.out.lt q hq).1;omega)),HF1,Hq (HW.out▸(by rw [HWB.out])),Hq (HB.out.trans HN.out)⟩
    case measure=>simp only [World.iterPos,hk1,hk];omega
   subst hf
   clear hcur
   have hnn: ¬(n:Int) <0:=by omega
   go_wp2_with (refine cqq rfl rfl rfl hk hlt ?_;rw [hdec,hdec2];intro W1 hk1 hc1 hf1 hs1 hh1 hn1;have HH:=Hq hh1;have HN:=Hq hn1;clear hh1 hn1)
   go_roundw
   case rel=>exact⟨j+m,L,cur++(s.data.toList.drop j).take m,n,by omega,rfl,hk1,by omega,Hq (aqp HO.out fun q hq=>HH.out q (by have:=(HO.out.lt q hq).1;omega)),Hq (by have h:=HF1.out;rw [if_neg hnn] at h;exact h),Hq (HW.out▸(by rw [HWB.out])),Hq (HB.out.trans HN.out)⟩
   case measure=>simp only [World.iterPos,hk1,hk];omega
  obtain rfl:j=s.size:=by omega
  have HWE:=Hq (show aqy s.data.toList []=L++(if cur= [] then [] else [cur]) by rw [←HW.out,List.drop_of_length_le (by rw [hl];exact Nat.le_refl _),aqy])
  have HAW:=Hq (fun(L':List (List UInt8)) (h:aqy s.data.toList []=L')=> (show(bqj s).map Value.string=fq9 L'∧(bqj s).length=L'.length by
   unfold bqj fq9
   rw [h,List.map_map,List.length_map]
   exact⟨rfl,rfl⟩))
  rcases HF.out with⟨hc,hf⟩ | ⟨hc,n,hf,hnj,hcur⟩
  ·subst hf
   subst hc
   have HAL:=Hq (HAW.out L (by rw [HWE.out];simp))
   go_wp2_with (refine aqJ rfl rfl rfl hk (by simp) ?_)
   go_ret
   exact⟨_,rfl,HB.out,bqq (Go.Joins.ownsRow_le HO.out (by omega)) HAL.out.2.symm HAL.out.1.symm⟩
  have HEX:=Hq (show s.extract n s.size=⟨cur.toArray⟩ from ByteArray.ext (Array.toList_inj.1 (by rw [aqK,hcur])))
  have HAL:=Hq (HAW.out (L++ [cur]) (by rw [HWE.out,if_neg hc]))
  subst hf
  clear hcur
  have hnn: ¬(n:Int) <0:=by omega
  have hnj2:(n:Int)≤(s.size:Int):=by omega
  go_wp2_with (first| (refine aqJ rfl rfl rfl hk (by simp) ?_) | (at_builtin;refine aqa ?_))
  refine aqb ?_
  refine bqG rfl _ _ 43 rfl Tryz.underlying43 aqR rfl (by omega) (w.heap.size+1) rfl (HO.out.alloc _) rfl rfl (aqd _ _ _ _ (by first|rfl|omega| (simp<;>omega))) (by simp [Value.oneCell']) (by simp only [maxLen];omega) (by omega) (by first|rfl|omega| (simp<;>omega)) ?_
  intro v' W2 ho hg hb2
  have hz2:=hg.size
  simp only [World.size_alloc] at hz2
  have HO2:=Hq ho
  have HB2:=Hq (HB.out.trans (((Below.refl w.heap.size _).alloc (by omega) _).trans (hb2.mono (by omega))))
  clear ho hg hb2
  go_wp2_with fail
  go_ret
  exact⟨_,rfl,HB2.out,bqq (Go.Joins.ownsRow_le HO2.out (by omega)) (by rw [HAL.out.2];simp) (by rw [HAL.out.1,HEX.out];simp [fq9])⟩
end Go.Proofs.YtlcidkiplidamaaGreatDoor
