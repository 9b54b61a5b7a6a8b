/- Part 1 of what the laws rest on: walks. Conditions: those that each theorem names. -/
import Derived.Test.YtdbniocnjhfhdaaGreatDoorB00
set_option linter.unusedSimpArgs false
set_option linter.unusedVariables false
namespace Go.Proofs.YtdbniocnjhfhdaaGreatDoor
open Go Go.RowKit
theorem jqX (a b:Nat) (ha:a<9223372036854775808) (hb:b<9223372036854775808):bits .or .i64 (a:Int) (b:Int)=((a|||b:Nat):Int):=by
 have hx:a|||b<2^63:=Nat.or_lt_two_pow Om Om
 show IntKind.i64.wrap ((BitVec.ofInt 64 (a:Int) |||BitVec.ofInt 64 (b:Int)).toNat:Int)=_
 rw [BitVec.toNat_or,ofInt_u64 a Om,ofInt_u64 b Om,IntKind.wrap_i64]
 omega
theorem iqm (a b:Nat) (ha:a<9223372036854775808) (hb:b<9223372036854775808):bits .and .i64 (a:Int) (b:Int)=((a&&&b:Nat):Int):=by
 have hx:a&&&b<2^63:=Nat.and_lt_two_pow _ Om
 show IntKind.i64.wrap ((BitVec.ofInt 64 (a:Int)&&&BitVec.ofInt 64 (b:Int)).toNat:Int)=_
 rw [BitVec.toNat_and,ofInt_u64 a Om,ofInt_u64 b Om,IntKind.wrap_i64]
 omega
theorem nq5 (v x:Nat) (hx:x<256) (hv:v<16777216):bits .or .i64 (((v*256:Nat):Int)) (x:Int)=((v*256+x:Nat):Int):=by
 rw [jqX _ _ Om Om]
 congr 1
 rw [show v*256=v<<<8 by rw [Nat.shiftLeft_eq], ←Nat.shiftLeft_add_eq_or_of_lt Om]
end Go.Proofs.YtdbniocnjhfhdaaGreatDoor
set_option maxRecDepth 100000
set_option maxHeartbeats 1000000
namespace Go.Proofs.YtdbniocnjhfhdaaGreatDoor
open Go Go.RowKit Lib
structure aq2 (w:World) (r:Nat) (A:Option Addr) (cap:Nat) (l:List UInt8) (st:Rs):Prop where
 c0:w.cell? ⟨r,0,none⟩=some (.slice A l.length cap)
 c1:w.cell? ⟨r,1,none⟩=some (.int .i64 st.pos)
 c2:w.cell? ⟨r,2,none⟩=some (.int .i64 st.most)
 c3:w.cell? ⟨r,3,none⟩=some (.int .i64 st.named)
 fz: ∀o,w.frozen? ⟨r,o,none⟩=false
 rd:RdB w A l.length cap l
 ne: ∀a,A=some a→a.block≠r
 lt:r<w.heap.size
 len:l.length≤65536
 pos:st.pos≤l.length
 pm:st.pos≤st.most
 most:st.most≤4611686018427387904
structure RB (r:Nat) (w w':World):Prop where
 but:But w.heap.size [r] w w'
 c4:w'.cell? ⟨r,4,none⟩=w.cell? ⟨r,4,none⟩
theorem RB.refl (r:Nat) (w:World):RB r w w:=⟨But.refl _ _ _,rfl⟩
theorem RB.of_below {r:Nat} {w w':World} (hr:r<w.heap.size) (h:Below w.heap.size w w'):RB r w w':=⟨But.of_below h,h.cell (p:=⟨r,4,none⟩) hr⟩
def dqb (a e:Nat):Value:= .iface 171 (.agg #[.int .i64 a, .int .i64 e])
def cq6 {α:Type} (w:World) (r:Nat) (A:Option Addr) (cap:Nat) (l:List UInt8) (p:Rx α) (rep:α→Value→World→Prop) (e:Ending) (w':World):Prop:=
 RB r w w'∧match p with
  | .ok (x,st')=> ∃v,e= .returned v∧rep x v w'∧aq2 w' r A cap l st'
  | .error (a,er)=>e= .panicked [{ v:=dqb a er,recovered:=false }]
theorem RdB.but {w w':World} {A:Option Addr} {len cap:Nat} {l:List UInt8} {S:List Nat} (h:RdB w A len cap l) (hb:But w.heap.size S w w') (hs: ∀a,A=some a→a.block∉S):RdB w' A len cap l:=
 ⟨h.hlen,h.hle,h.hmax,fun h0=>by
  obtain⟨b,off,rfl,hlt,hc⟩:=h.hat h0
  have hs':b∉S:=hs _ rfl
  exact⟨b,off,rfl,Nat.lt_of_lt_of_le hlt hb.size,fun i hi=> (hb.cell (p:=⟨b,off+i,none⟩) hlt hs').trans (hc i hi)⟩⟩
theorem aq2.keep {w w':World} {r:Nat} {A:Option Addr} {cap:Nat} {l:List UInt8} {st:Rs} (h:aq2 w r A cap l st) (hb:Below w.heap.size w w'):aq2 w' r A cap l st where
 c0:=(hb.cell (p:=⟨r,0,none⟩) h.lt).trans h.c0
 c1:=(hb.cell (p:=⟨r,1,none⟩) h.lt).trans h.c1
 c2:=(hb.cell (p:=⟨r,2,none⟩) h.lt).trans h.c2
 c3:=(hb.cell (p:=⟨r,3,none⟩) h.lt).trans h.c3
 fz:=fun o=> (hb.frozen (p:=⟨r,o,none⟩) h.lt).trans (h.fz o)
 rd:=h.rd.below hb
 ne:=h.ne
 lt:=Nat.lt_of_lt_of_le h.lt hb.size
 len:=h.len
 pos:=h.pos
 pm:=h.pm
 most:=h.most
theorem aqo {α:Type} {w w':World} {r:Nat} {A:Option Addr} {cap:Nat} {l:List UInt8} {p:Rx α} {rep:α→Value→World→Prop} {a er:Nat} (hp:p= .error (a,er)) (hb:RB r w w'):cq6 w r A cap l p rep (.panicked [{ v:=dqb a er,recovered:=false }]) w':=by
 subst hp
 exact⟨hb,rfl⟩
theorem bqw {α:Type} {w w':World} {r:Nat} {A:Option Addr} {cap:Nat} {l:List UInt8} {p:Rx α} {rep:α→Value→World→Prop} {x:α} {st':Rs} {v:Value} (hp:p= .ok (x,st')) (hb:RB r w w') (hr:rep x v w') (hs:aq2 w' r A cap l st'):cq6 w r A cap l p rep (.returned v) w':=by
 subst hp
 exact⟨hb,v,rfl,hr,hs⟩
theorem But.set {B:Nat} {S:List Nat} {a w:World} (h:But B S a w) (p:Addr) (hp:p.block∈S∨B≤p.block) (v:Value):But B S a (w.setCell p v):=by
 have hb:Below p.block w (w.setCell p v):=Rf9.setCell Nr v
 refine h.trans ⟨hb.os,hb.tape,hb.output,hb.size,fun k hk hs=>Below.heap_setCell w p v k (fun e=> ?_)⟩
 subst e
 rcases hp with hp|hp
 ·exact hs hp
 omega
theorem RB.moved {r:Nat} {a w:World} (h:RB r a w) (v:Value):RB r a (w.setCell ⟨r,1,none⟩ v):=⟨h.but.set ⟨r,1,none⟩ (.inl Sp) v,(World.cell?_setCell_other _ _ _ _ Sp).trans h.c4⟩
theorem kqR {w:World} {r:Nat} {A:Option Addr} {cap:Nat} {l:List UInt8} {st:Rs} (h:aq2 w r A cap l st) (n:Nat) (h1:st.pos+n≤l.length) (h2:st.pos+n≤st.most):
  aq2 (w.setCell ⟨r,1,none⟩ (.int .i64 ((st.pos:Int)+n))) r A cap l { st with pos:=st.pos+n } where
 c0:=(World.cell?_setCell_other _ _ _ _ Sp).trans h.c0
 c1:=by
  have:=h.c1
  have e:(Value.int .i64 ((st.pos:Int)+n))= .int .i64 ((st.pos+n:Nat):Int):=by rw [Int.natCast_add]
  rw [e]
  exact World.cell?_setCell_same _ _ _ h.c1
 c2:=(World.cell?_setCell_other _ _ _ _ Sp).trans h.c2
 c3:=(World.cell?_setCell_other _ _ _ _ Sp).trans h.c3
 fz:=fun o=>by simp [go_sem,h.fz o]
 rd:=h.rd.but ((But.refl w.heap.size [r] w).set ⟨r,1,none⟩ (.inl Sp) _) (fun a ha=>by simpa using h.ne a ha)
 ne:=h.ne
 lt:=by simpa using h.lt
 len:=h.len
 pos:=h1
 pm:=h2
 most:=h.most
theorem RdB.shut {w:World} {A:Option Addr} {len cap:Nat} {l:List UInt8} (h:RdB w A len cap l): ∀c,len≤c→RdB w A len c l:=fun c hc=> ⟨h.hlen,hc,h.hmax,h.hat⟩
theorem bqe (r:Value) (a e:Nat) (w:World):Calls Tryz.prog 118 #[r, .int .i64 a, .int .i64 e] w fun en w'=>en= .panicked [{ v:=dqb a e,recovered:=false }]∧w=w':=by
 go_enter Tryz.func118,Tryz.ntmps118
 go_wp2
 exact⟨rfl,rfl,rfl⟩
theorem hqc (r:Nat) (A:Option Addr) (cap n:Nat) (l:List UInt8) (st:Rs) (w:World) (h:aq2 w r A cap l st) (hn:n≤4294967296):
  Calls Tryz.prog 136 #[.pointer (some ⟨r,0,none⟩), .int .i64 n] w (cq6 w r A cap l (aqP l n st) fun x v w'=> (∃A' cap',v= .slice A' x.length cap'∧RdB w' A' x.length cap' x)∧w'.heap.size=w.heap.size):=by
 have H:=Hq h
 have c0:=h.c0
 have c1:=h.c1
 have c2:=h.c2
 have c3:=h.c3
 have p0:=h.pos
 have p1:=h.pm
 have p2:=h.most
 have p3:=h.len
 have fz:=h.fz 1
 have hle:=h.rd.hle
 clear h
 by_cases h1:l.length<st.pos+n
 ·have HP:=Hq (show aqP l n st= .error (st.pos,10) by simp [aqP,h1])
  go_enter Tryz.func136,Tryz.ntmps136
  go_wp2
  go_quiet (fail)
  go_wp2_with (go_at_call 118;refine(bqe _ _ _ _).mono ?_;rintro e w1 ⟨rfl,rfl⟩)
  exact⟨rfl,aqo HP.out (RB.of_below H.out.lt (below_drewN Rf9 _))⟩
 by_cases h2:st.most<st.pos+n
 ·have HP:=Hq (show aqP l n st= .error (st.named,25) by simp [aqP,h1,h2])
  go_enter Tryz.func136,Tryz.ntmps136
  go_wp2
  go_quiet (fail)
  go_wp2
  go_quiet (fail)
  go_wp2_with (go_at_call 118;refine(bqe _ _ _ _).mono ?_;rintro e w1 ⟨rfl,rfl⟩)
  exact⟨rfl,aqo HP.out (RB.of_below H.out.lt (below_drewN Rf9 _))⟩
 have HP:=Hq (show aqP l n st= .ok ((l.drop st.pos).take n,{ st with pos:=st.pos+n }) by simp [aqP,h1,h2])
 have HW:=fun k=>kqR (H.out.keep (below_drewN Rf9 k)) n Om Om
 have HW':=Hq HW
 have HB:=Hq fun k=> (RB.moved (RB.of_below H.out.lt (below_drewN (Below.refl w.heap.size w) k)) (.int .i64 ((st.pos:Int)+n)))
 clear HW
 rcases Nat.eq_zero_or_pos n with h0|h0
 ·subst h0
  have HR:=Hq (fun(W:World) (A':Option Addr) (c:Nat)=> (⟨rfl,Nat.zero_le _,by omega,fun h=>absurd h Om⟩:RdB W A' 0 c []))
  go_enter Tryz.func136,Tryz.ntmps136
  go_wp2
  go_quiet (fail)
  go_wp2
  go_quiet (fail)
  go_wp2
  go_quiet (fail)
  all_goals go_wp2_with fail
  all_goals go_ret
  all_goals exact bqw HP.out (HB.out _) ⟨⟨_,_,rfl,HR.out _ _ _⟩,by simp⟩ (HW'.out _)
 obtain⟨b,off,rfl,hlt,hc⟩:=H.out.rd.hat Om
 have hlen:((l.drop st.pos).take n).length=n:=by simp;omega
 have HL:=Hq hlen
 have hbr:b≠r:=H.out.ne _ rfl
 have HR:=Hq (fun(k:Nat)=> (((H.out.rd.part st.pos n Om h0).but (HB.out k).but (fun a ha=>by
  injection ha with ha
  subst ha
  simpa using hbr)).shut))
 clear hlen hc
 go_enter Tryz.func136,Tryz.ntmps136
 go_wp2
 go_quiet (fail)
 go_wp2
 go_quiet (fail)
 go_wp2
 go_quiet (fail)
 all_goals go_wp2_with fail
 all_goals go_ret
 all_goals refine bqw HP.out (HB.out _) ?_ (HW'.out _)
 all_goals rw [HL.out]
 all_goals refine⟨⟨some ⟨b,off+st.pos,none⟩,n, ?_,HR.out _ n Nr⟩,by simp⟩
 all_goals show Value.slice (some ⟨b,off+st.pos,none⟩) (st.pos+n - st.pos) (st.pos+n - st.pos)=_
 all_goals rw [Nat.add_sub_cancel_left]
theorem cq6.weaken {α:Type} {w:World} {r:Nat} {A:Option Addr} {cap:Nat} {l:List UInt8} {p:Rx α} {rep rep':α→Value→World→Prop} {e:Ending} {w':World} (h:cq6 w r A cap l p rep e w') (hr: ∀x v,rep x v w'→rep' x v w'):cq6 w r A cap l p rep' e w':=by
 rcases p with⟨a,er⟩ | ⟨x,st'⟩
 ·exact h
 obtain⟨hb,v,h1,h2,h3⟩:=h
 exact⟨hb,v,h1,hr _ _ h2,h3⟩
theorem dqc (r:Nat) (A:Option Addr) (cap n:Nat) (l:List UInt8) (st:Rs) (w:World) (h:aq2 w r A cap l st) (hn:n≤4294967296):
  Calls Tryz.prog 136 #[.pointer (some ⟨r,0,none⟩), .int .i64 n] w (cq6 w r A cap l (aqP l n st) fun x v w'=> ∃A' cap',v= .slice A' x.length cap'∧RdB w' A' x.length cap' x):=
 (hqc r A cap n l st w h hn).mono fun _ _ h=>h.weaken fun _ _ h=>h.1
theorem gqM (l:List UInt8) (k:Nat) (h:k<l.length):beN (l.take (k+1))=beN (l.take k)*256+byt l k:=by
 unfold beN
 rw [List.take_add_one,List.getElem?_eq_getElem h,Option.toList_some,List.foldl_append]
 simp [byt,List.getD,List.getElem?_eq_getElem h]
theorem kqS (l:List UInt8): ∀k,k≤l.length→beN (l.take k) <256^k:=by
 intro k
 induction k with
 |zero=>intro _;simp [beN]
 |succ k ih=>
  intro hk
  have h1:=ih Om
  have h2:=kqP l k
  rw [gqM l k hk,Nat.pow_succ]
  omega
theorem kqT (l:List UInt8) (k:Nat) (h:k≤l.length) (h4:k<4):beN (l.take k) <16777216:=by
 have h1:=kqS l k h
 have h2:256^k≤256^3:=Nat.pow_le_pow_right Om Om
 omega
theorem dq8 (r:Nat) (A:Option Addr) (cap n:Nat) (l:List UInt8) (st:Rs) (w:World) (h:aq2 w r A cap l st) (hn:n≤4):
  Calls Tryz.prog 117 #[.pointer (some ⟨r,0,none⟩), .int .i64 n] w (cq6 w r A cap l (aqS l n st) fun x v w'=> (v= .int .i64 x∧x<4294967296)∧w'.heap.size=w.heap.size):=by
 have H:=Hq h
 clear h
 rcases hb:aqP l n st with⟨a,er⟩ | ⟨x,st'⟩
 ·have HP:=Hq (show aqS l n st= .error (a,er) by rw [aqS,hb];rfl)
  have HB:=Hq hb
  clear hb
  go_enter Tryz.func117,Tryz.ntmps117
  go_wp2_with (go_at_call 136;refine(dqc r A cap n l st _ H.out Om).mono ?_;intro e w1 hq;rw [HB.out] at hq;obtain⟨hb1,rfl⟩:=hq)
  exact⟨rfl,aqo HP.out hb1⟩
 have HP:=Hq (show aqS l n st= .ok (beN x,st') by rw [aqS,hb];rfl)
 have hx:x.length≤4:=by
  have:=hb
  unfold aqP at this
  split at this
  ·cases this
  split at this
  ·cases this
  injection this with this
  injection this with this _
  subst this
  simp
  omega
 have HB:=Hq hb
 clear hb
 go_enter Tryz.func117,Tryz.ntmps117
 go_wp2_with (go_at_call 136;refine(hqc r A cap n l st _ H.out Om).mono ?_;intro e w1 hq;rw [HB.out] at hq;obtain⟨hb1,v,rfl,⟨⟨A',cap',rfl,hr⟩,hsz⟩,hs⟩:=hq;refine aqa ?_)
 have HZ:=Hq hsz
 clear hsz
 have HR:=Hq hr
 have HS:=Hq hs
 have HW:=Hq hb1
 clear hr hs hb1
 refine aqb ?_
 go_wp2_with fail
 go_loop [5,7,12] (fun v _ i=> ∃k:Nat,k≤x.length∧i= .int .i64 k∧v= .int .i64 (beN (x.take k))) (fun _ _ i=>x.length - (RowKit.intOf i).toNat)
 case atStart=>exact⟨0,by omega,rfl,rfl⟩
 case round=>
  obtain⟨k,hk,rfl,rfl⟩:=hrel
  by_cases hlt:k<x.length
  ·obtain⟨b,off,rfl,hbl,hc⟩:=HR.out.hat Om
   have ck:=hc k hlt
   have hb:=kqP x k
   have h4:=kqT x k hk Om
   have HN:=Hq (gqM x k hlt)
   have HO:=Hq (nq5 (beN (x.take k)) (byt x k) hb h4)
   clear hc
   generalize beN (x.take k)=V at*
   generalize byt x k=X at*
   go_wp2_with fail
   go_round
   case rel=>exact⟨k+1,by omega,by go_num,by rw [HN.out, ←HO.out,Int.natCast_mul];first|rfl|simp⟩
   case measure=>simp [RowKit.intOf];omega
  have hkk:k=x.length:=by omega
  have ht:x.take k=x:=List.take_of_length_le Om
  have h5:=kqS x k hk
  have h6:256^k≤256^4:=Nat.pow_le_pow_right Om Om
  rw [ht] at h5⊢
  have h7:beN x<4294967296:=by omega
  clear ht h5 h6
  go_wp2_with fail
  go_ret
  exact bqw HP.out HW.out ⟨⟨rfl,h7⟩,HZ.out⟩ HS.out
theorem aqn (r:Nat) (A:Option Addr) (cap n:Nat) (l:List UInt8) (st:Rs) (w:World) (h:aq2 w r A cap l st) (hn:n≤4):
  Calls Tryz.prog 117 #[.pointer (some ⟨r,0,none⟩), .int .i64 n] w (cq6 w r A cap l (aqS l n st) fun x v w'=>v= .int .i64 x∧x<4294967296):=
 (dq8 r A cap n l st w h hn).mono fun _ _ h=>h.weaken fun _ _ h=>h.1
theorem mqz {α:Type} (p:Rx α):(∃a er,p= .error (a,er))∨ ∃x st,p= .ok (x,st):=by
 rcases p with⟨a,er⟩ | ⟨x,st⟩
 ·exact .inl ⟨a,er,rfl⟩
 exact .inr ⟨x,st,rfl⟩
theorem cq6.err {α:Type} {w:World} {r:Nat} {A:Option Addr} {cap:Nat} {l:List UInt8} {p:Rx α} {rep:α→Value→World→Prop} {e:Ending} {w':World} {a er:Nat} (h:cq6 w r A cap l p rep e w') (hp:p= .error (a,er)):
  RB r w w'∧e= .panicked [{ v:=dqb a er,recovered:=false }]:=by
 subst hp
 exact h
theorem cq6.val {α:Type} {w:World} {r:Nat} {A:Option Addr} {cap:Nat} {l:List UInt8} {p:Rx α} {rep:α→Value→World→Prop} {e:Ending} {w':World} {x:α} {st':Rs} (h:cq6 w r A cap l p rep e w') (hp:p= .ok (x,st')):
  RB r w w'∧ ∃v,e= .returned v∧rep x v w'∧aq2 w' r A cap l st':=by
 subst hp
 exact h
def Bx (w:World) (g:Nat) (vs:List Value) (t:TypeId):Prop:=w.heap[g]?=some (.cells vs.toArray t (0,0))
theorem aql (w:World) (vs:List Value) (t:TypeId):Bx (w.alloc (.cells vs.toArray t)) w.heap.size vs t:=heap_alloc_new w _
theorem Bx.cell {w:World} {g:Nat} {vs:List Value} {t:TypeId} (h:Bx w g vs t) (j:Nat) {u:Value} (hj:vs[j]?=some u):w.cell? ⟨g,j,none⟩=some u:=by
 unfold World.cell?
 rw [h]
 simpa using hj
theorem Bx.frozen {w:World} {g:Nat} {vs:List Value} {t:TypeId} (h:Bx w g vs t) (j:Nat):w.frozen? ⟨g,j,none⟩=false:=by
 unfold World.frozen?
 rw [h]
 simp
theorem Bx.lt {w:World} {g:Nat} {vs:List Value} {t:TypeId} (h:Bx w g vs t):g<w.heap.size:=(Array.getElem?_eq_some_iff.1 h).1
theorem Bx.but {w w':World} {g:Nat} {vs:List Value} {t:TypeId} (h:Bx w g vs t) {S:List Nat} (hb:But w.heap.size S w w') (hs:g∉S):Bx w' g vs t:=(hb.block g h.lt hs).trans h
theorem Bx.below {w w':World} {g:Nat} {vs:List Value} {t:TypeId} (h:Bx w g vs t) {B:Nat} (hb:Below B w w') (hg:g<B):Bx w' g vs t:=(hb.block g hg).trans h
theorem RdB.low {w w':World} {A:Option Addr} {len cap B:Nat} {l:List UInt8} (h:RdB w A len cap l) (hb:Below B w w') (hs: ∀a,A=some a→0<len→a.block<B):RdB w' A len cap l:=
 ⟨h.hlen,h.hle,h.hmax,fun h0=>by
  obtain⟨b,off,rfl,hlt,hc⟩:=h.hat h0
  have hs':b<B:=hs _ rfl h0
  exact⟨b,off,rfl,Nat.lt_of_lt_of_le hlt hb.size,fun i hi=> (hb.cell (p:=⟨b,off+i,none⟩) hs').trans (hc i hi)⟩⟩
theorem aq2.keepB {w0 w w':World} {r:Nat} {A:Option Addr} {cap:Nat} {l:List UInt8} {st0 st:Rs} (h0:aq2 w0 r A cap l st0) (h:aq2 w r A cap l st) (hb:Below w0.heap.size w w'):aq2 w' r A cap l st where
 c0:=(hb.cell (p:=⟨r,0,none⟩) h0.lt).trans h.c0
 c1:=(hb.cell (p:=⟨r,1,none⟩) h0.lt).trans h.c1
 c2:=(hb.cell (p:=⟨r,2,none⟩) h0.lt).trans h.c2
 c3:=(hb.cell (p:=⟨r,3,none⟩) h0.lt).trans h.c3
 fz:=fun o=> (hb.frozen (p:=⟨r,o,none⟩) h0.lt).trans (h.fz o)
 rd:=h.rd.low hb (fun a ha hl=>by
  obtain⟨b,off,e,hlt,_⟩:=h0.rd.hat hl
  rw [ha] at e
  injection e with e
  subst e
  exact hlt)
 ne:=h.ne
 lt:=Nat.lt_of_lt_of_le h.lt hb.size
 len:=h.len
 pos:=h.pos
 pm:=h.pm
 most:=h.most
theorem But.below_trans {B:Nat} {S:List Nat} {a w w':World} (h:But B S a w) (hb:Below B w w'):But B S a w':=h.trans (But.of_below hb)
theorem cq6.cases {α:Type} {w:World} {r:Nat} {A:Option Addr} {cap:Nat} {l:List UInt8} {p:Rx α} {rep:α→Value→World→Prop} {e:Ending} {w':World} (h:cq6 w r A cap l p rep e w'):
  (∃a er,p= .error (a,er)∧RB r w w'∧e= .panicked [{ v:=dqb a er,recovered:=false }])∨ ∃x st' v,p= .ok (x,st')∧RB r w w'∧e= .returned v∧rep x v w'∧aq2 w' r A cap l st':=by
 rcases p with⟨a,er⟩ | ⟨x,st'⟩
 ·exact .inl ⟨a,er,rfl,h.1,h.2⟩
 obtain⟨hb,v,h1,h2,h3⟩:=h
 exact .inr ⟨x,st',v,rfl,hb,h1,h2,h3⟩
theorem aqg {α β:Type} {p:Rx α} {f:α→Rs→Rx β} {e:Nat×Nat} (h:p= .error e):Rx.bind p f= .error e:=by rw [h];rfl
theorem aqi {α β:Type} {p:Rx α} {f:α→Rs→Rx β} {x:α} {s:Rs} (h:p= .ok (x,s)):Rx.bind p f=f x s:=by rw [h];rfl
theorem aqI {w wp W wk:World} {r:Nat} (h:RB r w wp) (hr:r<w.heap.size) (hl:Below w.heap.size wp W) (hb:RB r W wk):RB r w wk:=
 ⟨(h.but.below_trans hl).trans (hb.but.mono (Nat.le_trans h.but.size hl.size) (fun _ _ h=>h)),hb.c4.trans ((hl.cell (p:=⟨r,4,none⟩) hr).trans h.c4)⟩
theorem dqd {w wp W:World} {r:Nat} (h:RB r w wp) (hr:r<w.heap.size) (hl:Below w.heap.size wp W):RB r w W:=⟨h.but.below_trans hl,(hl.cell (p:=⟨r,4,none⟩) hr).trans h.c4⟩
theorem aqk {g r:Nat} (h:g≠r):g∉ [r]:=by simpa using h
theorem aqh (w:World) (vs:List Value) (t:TypeId) (g:Nat) (hg:g=w.heap.size):Bx (w.alloc (.cells vs.toArray t)) g vs t:=by
 subst hg
 exact aql w vs t
theorem Bx.set {w:World} {g:Nat} {vs:List Value} {t:TypeId} (h:Bx w g vs t) (j:Nat) (u:Value):Bx (w.setCell ⟨g,j,none⟩ u) g (vs.set j u) t:=by
 unfold Bx at*
 simp [World.setCell,Array.getElem?_modify,h]
theorem Bx.set_other {w:World} {g:Nat} {vs:List Value} {t:TypeId} (h:Bx w g vs t) (p:Addr) (u:Value) (hne:p.block≠g):Bx (w.setCell p u) g vs t:=by
 have:=Below.heap_setCell w p u g Om
 exact this.trans h
theorem dqT (r:Nat) (A:Option Addr) (cap m:Nat) (l:List UInt8) (st:Rs) (w:World) (h:aq2 w r A cap l st) (hm:m≤65536):
  Calls Tryz.prog 119 #[.pointer (some ⟨r,0,none⟩), .int .i64 m] w (cq6 w r A cap l (bqo l m st) fun x v w'=>v= .int .i64 x∧x≤m):=by
 have H:=Hq h
 have c1:=h.c1
 clear h
 rcases mqz (aqS l 2 st) with⟨a,er,hb⟩ | ⟨n,st',hb⟩
 ·have HP:=Hq (show bqo l m st= .error (a,er) by rw [bqo,hb];rfl)
  have HB:=Hq hb
  clear hb
  go_enter Tryz.func119,Tryz.ntmps119
  go_wp2_with (go_at_call 117;refine(aqn r A cap 2 l st _ H.out Om).mono ?_;intro e w1 hq;obtain⟨hb1,rfl⟩:=hq.err HB.out)
  exact⟨rfl,aqo HP.out hb1⟩
 by_cases hmn:m<n
 ·have HP:=Hq (show bqo l m st= .error (st.pos,2) by rw [bqo,hb,Rx.bind_ok,if_pos hmn])
  have HB:=Hq hb
  clear hb
  go_enter Tryz.func119,Tryz.ntmps119
  go_wp2_with (first| (go_at_call 117;refine(aqn r A cap 2 l st _ H.out Om).mono ?_;intro e w1 hq;obtain⟨hb1,v,rfl,⟨rfl,hn⟩,hs⟩:=hq.val HB.out) | (go_at_call 118;refine(bqe _ _ _ _).mono ?_;rintro e w1 ⟨rfl,rfl⟩))
  exact⟨rfl,aqo HP.out hb1⟩
 have HP:=Hq (show bqo l m st= .ok (n,st') by rw [bqo,hb,Rx.bind_ok,if_neg hmn])
 have HB:=Hq hb
 have hle:n≤m:=by omega
 clear hb
 go_enter Tryz.func119,Tryz.ntmps119
 go_wp2_with (go_at_call 117;refine(aqn r A cap 2 l st _ H.out Om).mono ?_;intro e w1 hq;obtain⟨hb1,v,rfl,⟨rfl,hn⟩,hs⟩:=hq.val HB.out)
 go_ret
 exact bqw HP.out hb1 ⟨rfl,hle⟩ hs
def koV (k:Ko):Value:= .agg #[.int .i64 k.tag, .string k.text, .int .i64 k.num, .int .i64 k.a, .int .i64 k.b]
end Go.Proofs.YtdbniocnjhfhdaaGreatDoor
