/-
  What the laws rest on, part 1: walks of the program's functions and plain laws. Conditions: none but those that each theorem names.
-/
import Derived.Test.YtpbnjakeielipaaGreatDoorB00
import Derived.Deep.QuietTactic
import Derived.BigQuiet
set_option linter.unusedSimpArgs false
set_option linter.unusedVariables false
set_option maxRecDepth 100000
set_option maxHeartbeats 1000000
namespace Go.Proofs.YtpbnjakeielipaaGreatDoor
open Go Go.RowKit Lib
structure RdrAt (w:World) (r:Nat) (A:Option Addr) (cap:Nat) (l:List UInt8) (st:Rs):Prop where
 c0:w.cell? ⟨r,0,none⟩=some (.slice A l.length cap)
 c1:w.cell? ⟨r,1,none⟩=some (.int .i64 st.pos)
 c2:w.cell? ⟨r,2,none⟩=some (.int .i64 st.most)
 c3:w.cell? ⟨r,3,none⟩=some (.int .i64 st.named)
 fz: ∀o,w.frozen? ⟨r,o,none⟩=false
 rd:RdB w A l.length cap l
 ne: ∀a,A=some a→a.block≠r
 lt:r<w.heap.size
 len:l.length≤65536
 pos:st.pos≤l.length
 pm:st.pos≤st.most
 most:st.most≤4611686018427387904
structure RB (r:Nat) (w w':World):Prop where
 but:But w.heap.size [r] w w'
 c4:w'.cell? ⟨r,4,none⟩=w.cell? ⟨r,4,none⟩
theorem RB.refl (r:Nat) (w:World):RB r w w:=⟨But.refl _ _ _,rfl⟩
theorem RB.of_below {r:Nat} {w w':World} (hr:r<w.heap.size) (h:Below w.heap.size w w'):RB r w w':=⟨But.of_below h,h.cell (p:=⟨r,4,none⟩) hr⟩
def stopV (a e:Nat):Value:= .iface 240 (.agg #[.int .i64 a, .int .i64 e])
def RPost {α:Type} (w:World) (r:Nat) (A:Option Addr) (cap:Nat) (l:List UInt8) (p:Rx α) (rep:α→Value→World→Prop) (e:Ending) (w':World):Prop:=
 RB r w w'∧match p with
  | .ok (x,st')=> ∃v,e= .returned v∧rep x v w'∧RdrAt w' r A cap l st'
  | .error (a,er)=>e= .panicked [{ v:=stopV a er,recovered:=false }]
theorem RdB.but {w w':World} {A:Option Addr} {len cap:Nat} {l:List UInt8} {S:List Nat} (h:RdB w A len cap l) (hb:But w.heap.size S w w') (hs: ∀a,A=some a→a.block∉S):RdB w' A len cap l:=
 ⟨h.hlen,h.hle,h.hmax,fun h0=>by
  obtain⟨b,off,rfl,hlt,hc⟩:=h.hat h0
  have hs':b∉S:=hs _ rfl
  exact⟨b,off,rfl,Nat.lt_of_lt_of_le hlt hb.size,fun i hi=> (hb.cell (p:=⟨b,off+i,none⟩) hlt hs').trans (hc i hi)⟩⟩
theorem RdrAt.keep {w w':World} {r:Nat} {A:Option Addr} {cap:Nat} {l:List UInt8} {st:Rs} (h:RdrAt w r A cap l st) (hb:Below w.heap.size w w'):RdrAt w' r A cap l st where
 c0:=(hb.cell (p:=⟨r,0,none⟩) h.lt).trans h.c0
 c1:=(hb.cell (p:=⟨r,1,none⟩) h.lt).trans h.c1
 c2:=(hb.cell (p:=⟨r,2,none⟩) h.lt).trans h.c2
 c3:=(hb.cell (p:=⟨r,3,none⟩) h.lt).trans h.c3
 fz:=fun o=> (hb.frozen (p:=⟨r,o,none⟩) h.lt).trans (h.fz o)
 rd:=h.rd.below hb
 ne:=h.ne
 lt:=Nat.lt_of_lt_of_le h.lt hb.size
 len:=h.len
 pos:=h.pos
 pm:=h.pm
 most:=h.most
theorem rpost_error {α:Type} {w w':World} {r:Nat} {A:Option Addr} {cap:Nat} {l:List UInt8} {p:Rx α} {rep:α→Value→World→Prop} {a er:Nat} (hp:p= .error (a,er)) (hb:RB r w w'):RPost w r A cap l p rep (.panicked [{ v:=stopV a er,recovered:=false }]) w':=by
 subst hp
 exact⟨hb,rfl⟩
theorem rpost_ok {α:Type} {w w':World} {r:Nat} {A:Option Addr} {cap:Nat} {l:List UInt8} {p:Rx α} {rep:α→Value→World→Prop} {x:α} {st':Rs} {v:Value} (hp:p= .ok (x,st')) (hb:RB r w w') (hr:rep x v w') (hs:RdrAt w' r A cap l st'):RPost w r A cap l p rep (.returned v) w':=by
 subst hp
 exact⟨hb,v,rfl,hr,hs⟩
theorem But.set {B:Nat} {S:List Nat} {a w:World} (h:But B S a w) (p:Addr) (hp:p.block∈S∨B≤p.block) (v:Value):But B S a (w.setCell p v):=by
 have hb:Below p.block w (w.setCell p v):=(Below.refl _ _).setCell (Nat.le_refl _) v
 refine h.trans ⟨hb.os,hb.tape,hb.output,hb.size,fun k hk hs=>Below.heap_setCell w p v k (fun e=> ?_)⟩
 subst e
 rcases hp with hp|hp
 ·exact hs hp
 ·omega
theorem RB.moved {r:Nat} {a w:World} (h:RB r a w) (v:Value):RB r a (w.setCell ⟨r,1,none⟩ v):=⟨h.but.set ⟨r,1,none⟩ (.inl (by simp)) v,(World.cell?_setCell_other _ _ _ _ (by simp)).trans h.c4⟩
theorem rdr_moved {w:World} {r:Nat} {A:Option Addr} {cap:Nat} {l:List UInt8} {st:Rs} (h:RdrAt w r A cap l st) (n:Nat) (h1:st.pos+n≤l.length) (h2:st.pos+n≤st.most):
  RdrAt (w.setCell ⟨r,1,none⟩ (.int .i64 ((st.pos:Int)+n))) r A cap l { st with pos:=st.pos+n } where
 c0:=(World.cell?_setCell_other _ _ _ _ (by simp)).trans h.c0
 c1:=by
  have:=h.c1
  have e:(Value.int .i64 ((st.pos:Int)+n))= .int .i64 ((st.pos+n:Nat):Int):=by rw [Int.natCast_add]
  rw [e]
  exact World.cell?_setCell_same _ _ _ h.c1
 c2:=(World.cell?_setCell_other _ _ _ _ (by simp)).trans h.c2
 c3:=(World.cell?_setCell_other _ _ _ _ (by simp)).trans h.c3
 fz:=fun o=>by simp [go_sem,h.fz o]
 rd:=h.rd.but ((But.refl w.heap.size [r] w).set ⟨r,1,none⟩ (.inl (by simp)) _) (fun a ha=>by simpa using h.ne a ha)
 ne:=h.ne
 lt:=by simpa using h.lt
 len:=h.len
 pos:=h1
 pm:=h2
 most:=h.most
theorem RdB.shut {w:World} {A:Option Addr} {len cap:Nat} {l:List UInt8} (h:RdB w A len cap l): ∀c,len≤c→RdB w A len c l:=fun c hc=> ⟨h.hlen,hc,h.hmax,h.hat⟩
theorem wrong_any (r:Value) (a e:Nat) (w:World):Calls Tryz.prog 120 #[r, .int .i64 a, .int .i64 e] w fun en w'=>en= .panicked [{ v:=stopV a e,recovered:=false }]∧w=w':=by
 go_enter Tryz.func120,Tryz.ntmps120
 go_wp2
 exact⟨rfl,rfl,rfl⟩
theorem bytes_all (r:Nat) (A:Option Addr) (cap n:Nat) (l:List UInt8) (st:Rs) (w:World) (h:RdrAt w r A cap l st) (hn:n≤4294967296):
  Calls Tryz.prog 133 #[.pointer (some ⟨r,0,none⟩), .int .i64 n] w (RPost w r A cap l (bytesP l n st) fun x v w'=> (∃A' cap',v= .slice A' x.length cap'∧RdB w' A' x.length cap' x)∧w'.heap.size=w.heap.size):=by
 have H:=Lib.hid h
 have c0:=h.c0
 have c1:=h.c1
 have c2:=h.c2
 have c3:=h.c3
 have p0:=h.pos
 have p1:=h.pm
 have p2:=h.most
 have p3:=h.len
 have fz:=h.fz 1
 have hle:=h.rd.hle
 clear h
 by_cases h1:l.length<st.pos+n
 ·have HP:=Lib.hid (show bytesP l n st= .error (st.pos,10) by simp [bytesP,h1])
  go_enter Tryz.func133,Tryz.ntmps133
  go_wp2
  go_quiet (fail)
  go_wp2_with (go_at_call 120;refine(wrong_any _ _ _ _).mono ?_;rintro e w1 ⟨rfl,rfl⟩)
  exact⟨rfl,rpost_error HP.out (RB.of_below H.out.lt (below_drewN (Below.refl _ _) _))⟩
 ·by_cases h2:st.most<st.pos+n
  ·have HP:=Lib.hid (show bytesP l n st= .error (st.named,25) by simp [bytesP,h1,h2])
   go_enter Tryz.func133,Tryz.ntmps133
   go_wp2
   go_quiet (fail)
   go_wp2
   go_quiet (fail)
   go_wp2_with (go_at_call 120;refine(wrong_any _ _ _ _).mono ?_;rintro e w1 ⟨rfl,rfl⟩)
   exact⟨rfl,rpost_error HP.out (RB.of_below H.out.lt (below_drewN (Below.refl _ _) _))⟩
  ·have HP:=Lib.hid (show bytesP l n st= .ok ((l.drop st.pos).take n,{ st with pos:=st.pos+n }) by simp [bytesP,h1,h2])
   have HW:=fun k=>rdr_moved (H.out.keep (below_drewN (Below.refl _ _) k)) n (by omega) (by omega)
   have HW':=Lib.hid HW
   have HB:=Lib.hid fun k=> (RB.moved (RB.of_below H.out.lt (below_drewN (Below.refl w.heap.size w) k)) (.int .i64 ((st.pos:Int)+n)))
   clear HW
   rcases Nat.eq_zero_or_pos n with h0|h0
   ·subst h0
    have HR:=Lib.hid (fun(W:World) (A':Option Addr) (c:Nat)=> (⟨rfl,Nat.zero_le _,by omega,fun h=>absurd h (by omega)⟩:RdB W A' 0 c []))
    go_enter Tryz.func133,Tryz.ntmps133
    go_wp2
    go_quiet (fail)
    go_wp2
    go_quiet (fail)
    go_wp2
    go_quiet (fail)
    all_goals go_wp2_with fail
    all_goals go_ret
    all_goals exact rpost_ok HP.out (HB.out _) ⟨⟨_,_,rfl,HR.out _ _ _⟩,by simp⟩ (HW'.out _)
   ·obtain⟨b,off,rfl,hlt,hc⟩:=H.out.rd.hat (by omega)
    have hlen:((l.drop st.pos).take n).length=n:=by simp;omega
    have HL:=Lib.hid hlen
    have hbr:b≠r:=H.out.ne _ rfl
    have HR:=Lib.hid (fun(k:Nat)=> (((H.out.rd.part st.pos n (by omega) h0).but (HB.out k).but (fun a ha=>by
     injection ha with ha
     subst ha
     simpa using hbr)).shut))
    clear hlen hc
    go_enter Tryz.func133,Tryz.ntmps133
    go_wp2
    go_quiet (fail)
    go_wp2
    go_quiet (fail)
    go_wp2
    go_quiet (fail)
    all_goals go_wp2_with fail
    all_goals go_ret
    all_goals refine rpost_ok HP.out (HB.out _) ?_ (HW'.out _)
    all_goals rw [HL.out]
    all_goals refine⟨⟨some ⟨b,off+st.pos,none⟩,n, ?_,HR.out _ n (Nat.le_refl _)⟩,by simp⟩
    all_goals show Value.slice (some ⟨b,off+st.pos,none⟩) (st.pos+n - st.pos) (st.pos+n - st.pos)=_
    all_goals rw [Nat.add_sub_cancel_left]
theorem RPost.weaken {α:Type} {w:World} {r:Nat} {A:Option Addr} {cap:Nat} {l:List UInt8} {p:Rx α} {rep rep':α→Value→World→Prop} {e:Ending} {w':World} (h:RPost w r A cap l p rep e w') (hr: ∀x v,rep x v w'→rep' x v w'):RPost w r A cap l p rep' e w':=by
 rcases p with⟨a,er⟩ | ⟨x,st'⟩
 ·exact h
 ·obtain⟨hb,v,h1,h2,h3⟩:=h
  exact⟨hb,v,h1,hr _ _ h2,h3⟩
theorem bytes_any (r:Nat) (A:Option Addr) (cap n:Nat) (l:List UInt8) (st:Rs) (w:World) (h:RdrAt w r A cap l st) (hn:n≤4294967296):
  Calls Tryz.prog 133 #[.pointer (some ⟨r,0,none⟩), .int .i64 n] w (RPost w r A cap l (bytesP l n st) fun x v w'=> ∃A' cap',v= .slice A' x.length cap'∧RdB w' A' x.length cap' x):=
 (bytes_all r A cap n l st w h hn).mono fun _ _ h=>h.weaken fun _ _ h=>h.1
theorem beN_snoc (l:List UInt8) (k:Nat) (h:k<l.length):beN (l.take (k+1))=beN (l.take k)*256+byt l k:=by
 unfold beN
 rw [List.take_add_one,List.getElem?_eq_getElem h,Option.toList_some,List.foldl_append]
 simp [byt,List.getD,List.getElem?_eq_getElem h]
theorem beN_lt (l:List UInt8): ∀k,k≤l.length→beN (l.take k) <256^k:=by
 intro k
 induction k with
 |zero=>intro _;simp [beN]
 |succ k ih=>
  intro hk
  have h1:=ih (by omega)
  have h2:=byt_lt l k
  rw [beN_snoc l k hk,Nat.pow_succ]
  omega
theorem beN_lt4 (l:List UInt8) (k:Nat) (h:k≤l.length) (h4:k<4):beN (l.take k) <16777216:=by
 have h1:=beN_lt l k h
 have h2:256^k≤256^3:=Nat.pow_le_pow_right (by omega) (by omega)
 omega
theorem number_all (r:Nat) (A:Option Addr) (cap n:Nat) (l:List UInt8) (st:Rs) (w:World) (h:RdrAt w r A cap l st) (hn:n≤4):
  Calls Tryz.prog 119 #[.pointer (some ⟨r,0,none⟩), .int .i64 n] w (RPost w r A cap l (numP l n st) fun x v w'=> (v= .int .i64 x∧x<4294967296)∧w'.heap.size=w.heap.size):=by
 have H:=Lib.hid h
 clear h
 rcases hb:bytesP l n st with⟨a,er⟩ | ⟨x,st'⟩
 ·have HP:=Lib.hid (show numP l n st= .error (a,er) by rw [numP,hb];rfl)
  have HB:=Lib.hid hb
  clear hb
  go_enter Tryz.func119,Tryz.ntmps119
  go_wp2_with (go_at_call 133;refine(bytes_any r A cap n l st _ H.out (by omega)).mono ?_;intro e w1 hq;rw [HB.out] at hq;obtain⟨hb1,rfl⟩:=hq)
  exact⟨rfl,rpost_error HP.out hb1⟩
 ·have HP:=Lib.hid (show numP l n st= .ok (beN x,st') by rw [numP,hb];rfl)
  have hx:x.length≤4:=by
   have:=hb
   unfold bytesP at this
   split at this
   ·cases this
   ·split at this
    ·cases this
    ·injection this with this
     injection this with this _
     subst this
     simp
     omega
  have HB:=Lib.hid hb
  clear hb
  go_enter Tryz.func119,Tryz.ntmps119
  go_wp2_with (go_at_call 133;refine(bytes_all r A cap n l st _ H.out (by omega)).mono ?_;intro e w1 hq;rw [HB.out] at hq;obtain⟨hb1,v,rfl,⟨⟨A',cap',rfl,hr⟩,hsz⟩,hs⟩:=hq;refine stop_here ?_)
  have HZ:=Lib.hid hsz
  clear hsz
  have HR:=Lib.hid hr
  have HS:=Lib.hid hs
  have HW:=Lib.hid hb1
  clear hr hs hb1
  refine go_on ?_
  go_wp2_with fail
  go_loop [5,7,12] (fun v _ i=> ∃k:Nat,k≤x.length∧i= .int .i64 k∧v= .int .i64 (beN (x.take k))) (fun _ _ i=>x.length - (RowKit.intOf i).toNat)
  case atStart=>exact⟨0,by omega,rfl,rfl⟩
  case round=>
   obtain⟨k,hk,rfl,rfl⟩:=hrel
   by_cases hlt:k<x.length
   ·obtain⟨b,off,rfl,hbl,hc⟩:=HR.out.hat (by omega)
    have ck:=hc k hlt
    have hb:=byt_lt x k
    have h4:=beN_lt4 x k hk (by omega)
    have HN:=Lib.hid (beN_snoc x k hlt)
    have HO:=Lib.hid (or_byte (beN (x.take k)) (byt x k) hb h4)
    clear hc
    generalize beN (x.take k)=V at*
    generalize byt x k=X at*
    go_wp2_with fail
    go_round
    case rel=>exact⟨k+1,by omega,by go_num,by rw [HN.out, ←HO.out,Int.natCast_mul];first|rfl|simp⟩
    case measure=>simp [RowKit.intOf];omega
   ·have hkk:k=x.length:=by omega
    have ht:x.take k=x:=List.take_of_length_le (by omega)
    have h5:=beN_lt x k hk
    have h6:256^k≤256^4:=Nat.pow_le_pow_right (by omega) (by omega)
    rw [ht] at h5⊢
    have h7:beN x<4294967296:=by omega
    clear ht h5 h6
    go_wp2_with fail
    go_ret
    exact rpost_ok HP.out HW.out ⟨⟨rfl,h7⟩,HZ.out⟩ HS.out
theorem number_any (r:Nat) (A:Option Addr) (cap n:Nat) (l:List UInt8) (st:Rs) (w:World) (h:RdrAt w r A cap l st) (hn:n≤4):
  Calls Tryz.prog 119 #[.pointer (some ⟨r,0,none⟩), .int .i64 n] w (RPost w r A cap l (numP l n st) fun x v w'=>v= .int .i64 x∧x<4294967296):=
 (number_all r A cap n l st w h hn).mono fun _ _ h=>h.weaken fun _ _ h=>h.1
theorem rx_cases {α:Type} (p:Rx α):(∃a er,p= .error (a,er))∨ ∃x st,p= .ok (x,st):=by
 rcases p with⟨a,er⟩ | ⟨x,st⟩
 ·exact .inl ⟨a,er,rfl⟩
 ·exact .inr ⟨x,st,rfl⟩
theorem RPost.err {α:Type} {w:World} {r:Nat} {A:Option Addr} {cap:Nat} {l:List UInt8} {p:Rx α} {rep:α→Value→World→Prop} {e:Ending} {w':World} {a er:Nat} (h:RPost w r A cap l p rep e w') (hp:p= .error (a,er)):
  RB r w w'∧e= .panicked [{ v:=stopV a er,recovered:=false }]:=by
 subst hp
 exact h
theorem RPost.val {α:Type} {w:World} {r:Nat} {A:Option Addr} {cap:Nat} {l:List UInt8} {p:Rx α} {rep:α→Value→World→Prop} {e:Ending} {w':World} {x:α} {st':Rs} (h:RPost w r A cap l p rep e w') (hp:p= .ok (x,st')):
  RB r w w'∧ ∃v,e= .returned v∧rep x v w'∧RdrAt w' r A cap l st':=by
 subst hp
 exact h
def Bx (w:World) (g:Nat) (vs:List Value) (t:TypeId):Prop:=w.heap[g]?=some (.cells vs.toArray t (0,0))
theorem bx_new (w:World) (vs:List Value) (t:TypeId):Bx (w.alloc (.cells vs.toArray t)) w.heap.size vs t:=heap_alloc_new w _
theorem Bx.cell {w:World} {g:Nat} {vs:List Value} {t:TypeId} (h:Bx w g vs t) (j:Nat) {u:Value} (hj:vs[j]?=some u):w.cell? ⟨g,j,none⟩=some u:=by
 unfold World.cell?
 rw [h]
 simpa using hj
theorem Bx.frozen {w:World} {g:Nat} {vs:List Value} {t:TypeId} (h:Bx w g vs t) (j:Nat):w.frozen? ⟨g,j,none⟩=false:=by
 unfold World.frozen?
 rw [h]
 simp
theorem Bx.lt {w:World} {g:Nat} {vs:List Value} {t:TypeId} (h:Bx w g vs t):g<w.heap.size:=(Array.getElem?_eq_some_iff.1 h).1
theorem Bx.but {w w':World} {g:Nat} {vs:List Value} {t:TypeId} (h:Bx w g vs t) {S:List Nat} (hb:But w.heap.size S w w') (hs:g∉S):Bx w' g vs t:=(hb.block g h.lt hs).trans h
theorem Bx.below {w w':World} {g:Nat} {vs:List Value} {t:TypeId} (h:Bx w g vs t) {B:Nat} (hb:Below B w w') (hg:g<B):Bx w' g vs t:=(hb.block g hg).trans h
theorem RdB.low {w w':World} {A:Option Addr} {len cap B:Nat} {l:List UInt8} (h:RdB w A len cap l) (hb:Below B w w') (hs: ∀a,A=some a→0<len→a.block<B):RdB w' A len cap l:=
 ⟨h.hlen,h.hle,h.hmax,fun h0=>by
  obtain⟨b,off,rfl,hlt,hc⟩:=h.hat h0
  have hs':b<B:=hs _ rfl h0
  exact⟨b,off,rfl,Nat.lt_of_lt_of_le hlt hb.size,fun i hi=> (hb.cell (p:=⟨b,off+i,none⟩) hs').trans (hc i hi)⟩⟩
theorem RdrAt.keepB {w0 w w':World} {r:Nat} {A:Option Addr} {cap:Nat} {l:List UInt8} {st0 st:Rs} (h0:RdrAt w0 r A cap l st0) (h:RdrAt w r A cap l st) (hb:Below w0.heap.size w w'):RdrAt w' r A cap l st where
 c0:=(hb.cell (p:=⟨r,0,none⟩) h0.lt).trans h.c0
 c1:=(hb.cell (p:=⟨r,1,none⟩) h0.lt).trans h.c1
 c2:=(hb.cell (p:=⟨r,2,none⟩) h0.lt).trans h.c2
 c3:=(hb.cell (p:=⟨r,3,none⟩) h0.lt).trans h.c3
 fz:=fun o=> (hb.frozen (p:=⟨r,o,none⟩) h0.lt).trans (h.fz o)
 rd:=h.rd.low hb (fun a ha hl=>by
  obtain⟨b,off,e,hlt,_⟩:=h0.rd.hat hl
  rw [ha] at e
  injection e with e
  subst e
  exact hlt)
 ne:=h.ne
 lt:=Nat.lt_of_lt_of_le h.lt hb.size
 len:=h.len
 pos:=h.pos
 pm:=h.pm
 most:=h.most
theorem But.below_trans {B:Nat} {S:List Nat} {a w w':World} (h:But B S a w) (hb:Below B w w'):But B S a w':=h.trans (But.of_below hb)
theorem RPost.cases {α:Type} {w:World} {r:Nat} {A:Option Addr} {cap:Nat} {l:List UInt8} {p:Rx α} {rep:α→Value→World→Prop} {e:Ending} {w':World} (h:RPost w r A cap l p rep e w'):
  (∃a er,p= .error (a,er)∧RB r w w'∧e= .panicked [{ v:=stopV a er,recovered:=false }])∨ ∃x st' v,p= .ok (x,st')∧RB r w w'∧e= .returned v∧rep x v w'∧RdrAt w' r A cap l st':=by
 rcases p with⟨a,er⟩ | ⟨x,st'⟩
 ·exact .inl ⟨a,er,rfl,h.1,h.2⟩
 ·obtain⟨hb,v,h1,h2,h3⟩:=h
  exact .inr ⟨x,st',v,rfl,hb,h1,h2,h3⟩
theorem bind_stop {α β:Type} {p:Rx α} {f:α→Rs→Rx β} {e:Nat×Nat} (h:p= .error e):Rx.bind p f= .error e:=by rw [h];rfl
theorem bind_step {α β:Type} {p:Rx α} {f:α→Rs→Rx β} {x:α} {s:Rs} (h:p= .ok (x,s)):Rx.bind p f=f x s:=by rw [h];rfl
theorem ha_step {w wp W wk:World} {r:Nat} (h:RB r w wp) (hr:r<w.heap.size) (hl:Below w.heap.size wp W) (hb:RB r W wk):RB r w wk:=
 ⟨(h.but.below_trans hl).trans (hb.but.mono (Nat.le_trans h.but.size hl.size) (fun _ _ h=>h)),hb.c4.trans ((hl.cell (p:=⟨r,4,none⟩) hr).trans h.c4)⟩
theorem ha_low {w wp W:World} {r:Nat} (h:RB r w wp) (hr:r<w.heap.size) (hl:Below w.heap.size wp W):RB r w W:=⟨h.but.below_trans hl,(hl.cell (p:=⟨r,4,none⟩) hr).trans h.c4⟩
theorem ne_one {g r:Nat} (h:g≠r):g∉ [r]:=by simpa using h
theorem bx_new_at (w:World) (vs:List Value) (t:TypeId) (g:Nat) (hg:g=w.heap.size):Bx (w.alloc (.cells vs.toArray t)) g vs t:=by
 subst hg
 exact bx_new w vs t
theorem Bx.set {w:World} {g:Nat} {vs:List Value} {t:TypeId} (h:Bx w g vs t) (j:Nat) (u:Value):Bx (w.setCell ⟨g,j,none⟩ u) g (vs.set j u) t:=by
 unfold Bx at*
 simp [World.setCell,Array.getElem?_modify,h]
theorem Bx.set_other {w:World} {g:Nat} {vs:List Value} {t:TypeId} (h:Bx w g vs t) (p:Addr) (u:Value) (hne:p.block≠g):Bx (w.setCell p u) g vs t:=by
 have:=Below.heap_setCell w p u g (by omega)
 exact this.trans h
theorem count_any (r:Nat) (A:Option Addr) (cap m:Nat) (l:List UInt8) (st:Rs) (w:World) (h:RdrAt w r A cap l st) (hm:m≤65536):
  Calls Tryz.prog 121 #[.pointer (some ⟨r,0,none⟩), .int .i64 m] w (RPost w r A cap l (countP l m st) fun x v w'=>v= .int .i64 x∧x≤m):=by
 have H:=Lib.hid h
 have c1:=h.c1
 clear h
 rcases rx_cases (numP l 2 st) with⟨a,er,hb⟩ | ⟨n,st',hb⟩
 ·have HP:=Lib.hid (show countP l m st= .error (a,er) by rw [countP,hb];rfl)
  have HB:=Lib.hid hb
  clear hb
  go_enter Tryz.func121,Tryz.ntmps121
  go_wp2_with (go_at_call 119;refine(number_any r A cap 2 l st _ H.out (by omega)).mono ?_;intro e w1 hq;obtain⟨hb1,rfl⟩:=hq.err HB.out)
  exact⟨rfl,rpost_error HP.out hb1⟩
 ·by_cases hmn:m<n
  ·have HP:=Lib.hid (show countP l m st= .error (st.pos,2) by rw [countP,hb,Rx.bind_ok,if_pos hmn])
   have HB:=Lib.hid hb
   clear hb
   go_enter Tryz.func121,Tryz.ntmps121
   go_wp2_with (first| (go_at_call 119;refine(number_any r A cap 2 l st _ H.out (by omega)).mono ?_;intro e w1 hq;obtain⟨hb1,v,rfl,⟨rfl,hn⟩,hs⟩:=hq.val HB.out) | (go_at_call 120;refine(wrong_any _ _ _ _).mono ?_;rintro e w1 ⟨rfl,rfl⟩))
   exact⟨rfl,rpost_error HP.out hb1⟩
  ·have HP:=Lib.hid (show countP l m st= .ok (n,st') by rw [countP,hb,Rx.bind_ok,if_neg hmn])
   have HB:=Lib.hid hb
   have hle:n≤m:=by omega
   clear hb
   go_enter Tryz.func121,Tryz.ntmps121
   go_wp2_with (go_at_call 119;refine(number_any r A cap 2 l st _ H.out (by omega)).mono ?_;intro e w1 hq;obtain⟨hb1,v,rfl,⟨rfl,hn⟩,hs⟩:=hq.val HB.out)
   go_ret
   exact rpost_ok HP.out hb1 ⟨rfl,hle⟩ hs
def koV (k:Ko):Value:= .agg #[.int .i64 k.tag, .string k.text, .int .i64 k.num, .int .i64 k.a, .int .i64 k.b]
end Go.Proofs.YtpbnjakeielipaaGreatDoor
