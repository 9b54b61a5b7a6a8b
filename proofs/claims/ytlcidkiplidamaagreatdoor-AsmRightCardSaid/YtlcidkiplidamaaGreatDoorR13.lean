/-
  What the laws rest on, part 13: walks of the program's functions and plain laws. Conditions: none but those that each theorem names.
-/
import Derived.Test.YtlcidkiplidamaaGreatDoorR01
import Derived.Test.YtlcidkiplidamaaGreatDoorR06
import Derived.Test.YtlcidkiplidamaaGreatDoorR08
import Derived.Test.YtlcidkiplidamaaGreatDoorR12
import Derived.Test.YtlcidkiplidamaaGreatDoorR04
import Derived.Test.YtlcidkiplidamaaGreatDoorR11
import Derived.Test.YtlcidkiplidamaaGreatDoorR00
import Derived.BigQuiet
import Derived.Deep.QuietTactic
set_option linter.unusedSimpArgs false
set_option linter.unusedVariables false
namespace Go.Proofs.YtlcidkiplidamaaGreatDoor
open Go Go.RowKit Lib
def RxAll {α:Type} (Q:α→Prop) (x:Rx α):Prop:= ∀a s,x= .ok (a,s)→Q a
theorem RxAll.bind {α β:Type} {x:Rx α} {f:α→Rs→Rx β} {Q:α→Prop} {R:β→Prop} (h:RxAll Q x) (hf: ∀a s,Q a→RxAll R (f a s)):RxAll R (Rx.bind x f):=by
 rcases x with e| ⟨a,s⟩
 ·intro b s' hb;cases hb
 ·exact hf a s (h a s rfl)
theorem RxAll.err {α:Type} {Q:α→Prop} (e:Nat×Nat):RxAll Q (.error e:Rx α):=fun a s h=>by cases h
theorem RxAll.ok {α:Type} {Q:α→Prop} {a:α} {s:Rs} (h:Q a):RxAll Q (.ok (a,s):Rx α):=fun b s' e=>by cases e;exact h
def TagOk (n:Int):Prop:=n=1∨n=3∨n=7∨n=9∨n=10∨n=11∨n=12
def KoFine (k:Ko):Prop:=Fine k.a∧Fine k.b∧k.text.size≤65536∧TagOk k.tag
def FieldFine (x:FieldV):Prop:=Fine x.name∧Fine x.desc∧Fine x.value
def TrapFine (x:TrapV):Prop:=Fine x.lo∧Fine x.hi∧Fine x.tgt∧Fine x.kind
def MethFine (x:MethV):Prop:=Fine x.name∧Fine x.desc∧Fine x.stack∧Fine x.locals∧ ∀t∈x.traps,TrapFine t
structure ClassFine (c:ClassV):Prop where
 pool: ∀k∈c.pool,KoFine k
 this:Fine c.this
 sup:Fine c.sup
 ifs: ∀n∈c.ifs,Fine n
 flds: ∀x∈c.flds,FieldFine x
 mths: ∀x∈c.mths,MethFine x
set_option maxRecDepth 100000
set_option maxHeartbeats 1000000
def conF (pool:List Ko) (k:Ko):Int:=if k.tag=7 then classE pool k.a else if k.tag=12 then namedE pool k.a k.b else if k.tag=9∨k.tag=10∨k.tag=11 then memberE pool k.tag k.a k.b else 0
def seenFl (pool:List Ko) (cacc:Int) (l:List FieldV):List NmD:=l.foldl (fun s x=>if fldBad pool cacc x then s else nmOf pool x.name x.desc::s) []
def seenMt (pool:List Ko) (cacc:Int) (l:List MethV):List NmD:=l.foldl (fun s x=>if mthBad pool cacc x then s else nmOf pool x.name x.desc::s) []
theorem seenFl_len (pool:List Ko) (cacc:Int): ∀(l:List FieldV) (s:List NmD),(l.foldl (fun s x=>if fldBad pool cacc x then s else nmOf pool x.name x.desc::s) s).length≤s.length+l.length
 | [],s=>Nat.le_refl _
 |x::l,s=>by
  rw [List.foldl_cons]
  refine Nat.le_trans (seenFl_len pool cacc l _) ?_
  split<;>simp<;>omega
theorem seenM_len (pool:List Ko) (cacc:Int): ∀(l:List MethV) (s:List NmD),(l.foldl (fun s x=>if mthBad pool cacc x then s else nmOf pool x.name x.desc::s) s).length≤s.length+l.length
 | [],s=>Nat.le_refl _
 |x::l,s=>by
  rw [List.foldl_cons]
  refine Nat.le_trans (seenM_len pool cacc l _) ?_
  split<;>simp<;>omega
def checkF (c:ClassV):Int:=checkE (conF c.pool) (fun l x=>fldIn c.pool c.acc (seenFl c.pool c.acc l) x) (fun l x=>mthIn c.pool c.acc (seenMt c.pool c.acc l) x) c
theorem seen_new (W:World) (b:Nat) (h:W.heap[b]?=some (.map #[] 0)):SeenM W b []:=⟨#[],0,h,by
 refine⟨?_, ?_, ?_, ?_, ?_⟩ <;>simp⟩
theorem seen_keep {s:List NmD} (W W':World) (b:Nat) (h:SeenM W b s) (hb:W'.heap[b]?=W.heap[b]?):SeenM W' b s:=by
 obtain⟨es,clock,hm,hg⟩:=h
 exact⟨es,clock,hb.trans hm,hg⟩
theorem check_full (c:ClassV) (p i f m:Value) (ok:Nat→Prop) (w:World) (h:ClassAt w ok c p i f m) (hF:ClassFine c):
  Calls Tryz.prog 17 #[bookV c p i f m] w fun e w'=>e= .returned (.int .i64 (checkF c))∧Below w.heap.size w w':=by
 have h':=h.mono (ok':=fun g=>ok g∧g<w.heap.size) fun g hg ho=> ⟨ho,hg⟩
 have hlf:c.flds.length≤1048576:=by obtain⟨A3,k3,e3,q3,z3⟩:=sl_len h.hflds;exact z3
 have hlm:c.mths.length≤1048576:=by obtain⟨ms,m1,m2,m3⟩:=h.hmths;obtain⟨A4,k4,e4,q4,z4⟩:=sl_len m2;exact z4
 have htx: ∀k∈c.pool,k.text.size≤65536:=fun k hk=> (hF.pool k hk).2.2.1
 refine check_any c p i f m (fun g=>ok g∧g<w.heap.size) w h' (fun g hg=>hg.2) hF.this hF.sup (fun k hk=> (hF.pool k hk).1) hF.ifs htx
  (conF c.pool) (fun l x=>fldIn c.pool c.acc (seenFl c.pool c.acc l) x) (fun l x=>mthIn c.pool c.acc (seenMt c.pool c.acc l) x)
  (fun l b W=>SeenM W b (seenFl c.pool c.acc l)) (fun l b W=>SeenM W b (seenMt c.pool c.acc l)) ⟨fun W b hb=>seen_new W b hb,fun l b W W' hs hb=>seen_keep W W' b hs hb⟩ ⟨fun W b hb=>seen_new W b hb,fun l b W W' hs hb=>seen_keep W W' b hs hb⟩
  (fun k hk W hW=> ?_) (fun k x hx W b hW hb hs=> ?_) (fun k x hx W b cv tv hW hM hb hs=> ?_)
 ·obtain⟨A1,k1,rfl,q1,z1⟩:=sl_len hW.hpool
  obtain⟨A2,k2,rfl,q2,z2⟩:=sl_len hW.hifs
  obtain⟨A3,k3,rfl,q3,z3⟩:=sl_len hW.hflds
  obtain⟨ms,m1,m2,m3⟩:=hW.hmths
  obtain⟨A4,k4,rfl,q4,z4⟩:=sl_len m2
  have hk':=hF.pool k hk
  have hbo:BookOk W (fun g=>ok g∧g<w.heap.size) c A1 k1 (.slice A2 c.ifs.length k2) (.slice A3 c.flds.length k3) (.slice A4 c.mths.length k4):=⟨hW.hpool,rfl,rfl,rfl⟩
  obtain⟨tag,tx,nu,a,b⟩:=k
  obtain⟨ha,hb,ht,htag⟩:=hk'
  unfold conF
  simp only at ha hb htag⊢
  rcases htag with rfl|rfl|rfl|rfl|rfl|rfl|rfl
  ·exact constant_plain c _ _ _ _ ⟨1,tx,nu,a,b⟩ (.inl rfl) W
  ·exact constant_plain c _ _ _ _ ⟨3,tx,nu,a,b⟩ (.inr rfl) W
  ·exact constant_seven c A1 k1 _ _ _ _ tx nu a b W hbo ha htx
  ·exact constant_ref c A1 k1 _ _ _ _ 9 tx nu a b W hbo ha hb (fun k hk=> ⟨(hF.pool k hk).1,(hF.pool k hk).2.1⟩) htx (.inl rfl)
  ·exact constant_ref c A1 k1 _ _ _ _ 10 tx nu a b W hbo ha hb (fun k hk=> ⟨(hF.pool k hk).1,(hF.pool k hk).2.1⟩) htx (.inr (.inl rfl))
  ·exact constant_ref c A1 k1 _ _ _ _ 11 tx nu a b W hbo ha hb (fun k hk=> ⟨(hF.pool k hk).1,(hF.pool k hk).2.1⟩) htx (.inr (.inr rfl))
  ·exact constant_twelve c A1 k1 _ _ _ _ tx nu a b W hbo ha hb htx
 ·obtain⟨A1,k1,rfl,q1,z1⟩:=sl_len hW.hpool
  obtain⟨A2,k2,rfl,q2,z2⟩:=sl_len hW.hifs
  obtain⟨A3,k3,rfl,q3,z3⟩:=sl_len hW.hflds
  obtain⟨ms,m1,m2,m3⟩:=hW.hmths
  obtain⟨A4,k4,rfl,q4,z4⟩:=sl_len m2
  have hx':=hF.flds x (List.mem_of_getElem? hx)
  have hl:=seenFl_len c.pool c.acc (c.flds.take k) []
  have hl2:(c.flds.take k).length≤c.flds.length:=List.length_take_le' _ _
  have hst:seenFl c.pool c.acc (c.flds.take (k+1))=if fldBad c.pool c.acc x then seenFl c.pool c.acc (c.flds.take k) else nmOf c.pool x.name x.desc::seenFl c.pool c.acc (c.flds.take k):=by
   obtain⟨hlt,hg⟩:=List.getElem?_eq_some_iff.1 hx
   rw [List.take_succ_eq_append_getElem hlt,hg]
   unfold seenFl
   rw [List.foldl_append]
   rfl
  rw [hst]
  exact field_book c A1 k1 _ _ _ _ x b _ W ⟨hW.hpool,rfl,rfl,rfl⟩ hs (by unfold seenFl;simp only [List.length_nil] at hl;omega) hx'.1 hx'.2.1 hx'.2.2 htx
 ·obtain⟨A1,k1,rfl,q1,z1⟩:=sl_len hW.hpool
  obtain⟨A2,k2,rfl,q2,z2⟩:=sl_len hW.hifs
  obtain⟨A3,k3,rfl,q3,z3⟩:=sl_len hW.hflds
  obtain⟨ms,m1,m2,m3⟩:=hW.hmths
  obtain⟨A4,k4,rfl,q4,z4⟩:=sl_len m2
  have hx':=hF.mths x (List.mem_of_getElem? hx)
  have hl:=seenM_len c.pool c.acc (c.mths.take k) []
  have hl2:(c.mths.take k).length≤c.mths.length:=List.length_take_le' _ _
  have hst:seenMt c.pool c.acc (c.mths.take (k+1))=if mthBad c.pool c.acc x then seenMt c.pool c.acc (c.mths.take k) else nmOf c.pool x.name x.desc::seenMt c.pool c.acc (c.mths.take k):=by
   obtain⟨hlt,hg⟩:=List.getElem?_eq_some_iff.1 hx
   rw [List.take_succ_eq_append_getElem hlt,hg]
   unfold seenMt
   rw [List.foldl_append]
   rfl
  rw [hst]
  exact method_book c A1 k1 _ _ _ _ _ x cv tv b _ W ⟨hW.hpool,rfl,rfl,rfl⟩ hM hs (by unfold seenMt;simp only [List.length_nil] at hl;omega) hx'.1 hx'.2.1 (fun t ht=> (hx'.2.2.2.2 t ht).2.2.2) htx
def aliveT:ByteArray:=⟨#[99,108,97,115,115,32,65,32,112,117,98,108,105,99,32,115,117,112,101,114,10,102,105,101,108,100,32,120,32,73,32,112,117,98,108,105,99,32,115,116,97,116,105,99,32,61,32,55,10,109,101,116,104,111,100,32,60,99,108,105,110,105,116,62,32,40,41,86,32,115,116,97,116,105,99,10,103,101,116,115,116,97,116,105,99,32,65,32,120,32,73,10,105,110,118,111,107,101,115,116,97,116,105,99,32,118,109,47,83,121,115,32,112,114,105,110,116,32,40,73,41,86,10,114,101,116,117,114,110,10,101,110,100,10]⟩
def aliveOk:Bool:=match aAsm checkF aliveT with
 | .error _=>false
 | .ok c=>decide (c.pool.length=19)&&(match c.mths with| [m]=>decide (m.code= [178,0,13,184,0,19,177]) |_=>false)
theorem alive_plain:aliveOk=true:=by decide+kernel
theorem empty_plain:aAsm checkF ⟨#[]⟩= .error (0,60):=by kernel_rfl
set_option maxHeartbeats 4000000
theorem rdB_slat {w:World} {ok:Nat→Prop} {l:List UInt8} {A:Option Addr} {cap:Nat} (h:SlAt w ok 1 l.length (l.map bV) (.slice A l.length cap)):RdB w A l.length cap l:=by
 obtain⟨A',cap',e,h1,h2,h3,h4⟩:=h
 cases e
 exact⟨rfl,h1,by omega,fun h0=>by
  obtain⟨b,off,e,hb,_,hc⟩:=h4 h0
  exact⟨b,off,e,hb,fun i hi=>by
   rw [hc i _ (by rw [List.getElem?_map,List.getElem?_eq_getElem hi];rfl)]
   simp [bV,byt,List.getD,List.getElem?_eq_getElem hi]⟩⟩
theorem neq_trap (w:World) (a b c d:Int):(binOp .neq 112 (.agg #[.int .i64 a, .int .i64 b, .int .i64 c, .int .i64 d]) (.agg #[.int .i64 a, .int .i64 b, .int .i64 c, .int .i64 d])).run Tryz.prog w= .ok (.bool false) w:=by
 go_simp
theorem meth_same (x:MethV) (c1 t1 c2 t2:Value) (ok1 ok2:Nat→Prop) (w:World) (h1:MethAt w ok1 x c1 t1) (h2:MethAt w ok2 x c2 t2):
  Calls Tryz.prog 32 #[methV x c1 t1,methV x c2 t2] w fun e w'=>e= .returned (.bool true)∧Below w.heap.size w w':=by
 obtain⟨A1,k1,rfl,q1,z1⟩:=sl_len h1.hcode
 obtain⟨B1,l1,rfl,p1,y1⟩:=sl_len h1.htraps
 obtain⟨A2,k2,rfl,q2,z2⟩:=sl_len h2.hcode
 obtain⟨B2,l2,rfl,p2,y2⟩:=sl_len h2.htraps
 obtain⟨acc,nm,ds,has,stack,locals,code,traps⟩:=x
 have hr1:=rdB_slat h1.hcode
 have hr2:=rdB_slat h2.hcode
 have HT1:=Lib.hid h1.htraps
 have HT2:=Lib.hid h2.htraps
 simp only at hr1 hr2 HT1 HT2 z1 y1 p1 p2
 have hb:Below w.heap.size w ((w.alloc (.cells #[.int .i64 acc, .int .i64 nm, .int .i64 ds, .bool has, .int .i64 stack, .int .i64 locals, .slice A1 code.length k1, .slice B1 traps.length l1] 37)).alloc (.cells #[.int .i64 acc, .int .i64 nm, .int .i64 ds, .bool has, .int .i64 stack, .int .i64 locals, .slice A2 code.length k2, .slice B2 traps.length l2] 37)):=((Below.refl _ _).alloc (Nat.le_refl _) _).alloc (by simp) _
 have hcv1:=(hr1.below hb).str
 have hcv2:=(hr2.below hb).str
 have HB:=Lib.hid hb
 have X1:=Lib.hid ((bx_new w [.int .i64 acc, .int .i64 nm, .int .i64 ds, .bool has, .int .i64 stack, .int .i64 locals, .slice A1 code.length k1, .slice B1 traps.length l1] 37).below ((Below.refl _ _).alloc (Nat.le_refl _) (.cells #[.int .i64 acc, .int .i64 nm, .int .i64 ds, .bool has, .int .i64 stack, .int .i64 locals, .slice A2 code.length k2, .slice B2 traps.length l2] 37)) (by simp))
 have X2:=Lib.hid (bx_new (w.alloc (.cells #[.int .i64 acc, .int .i64 nm, .int .i64 ds, .bool has, .int .i64 stack, .int .i64 locals, .slice A1 code.length k1, .slice B1 traps.length l1] 37)) [.int .i64 acc, .int .i64 nm, .int .i64 ds, .bool has, .int .i64 stack, .int .i64 locals, .slice A2 code.length k2, .slice B2 traps.length l2] 37)
 clear h1 h2 hr1 hr2 hb
 unfold methV
 simp only
 go_enter Tryz.func32,Tryz.ntmps32
 go_wp2_with fail
 go_loopw [5] (fun i wr=> ∃k:Nat,k≤traps.length∧i= .int .i64 k∧Hid (Below w.heap.size w wr)∧Hid (Bx wr w.heap.size [.int .i64 acc, .int .i64 nm, .int .i64 ds, .bool has, .int .i64 stack, .int .i64 locals, .slice A1 code.length k1, .slice B1 traps.length l1] 37)∧Hid (Bx wr (w.heap.size+1) [.int .i64 acc, .int .i64 nm, .int .i64 ds, .bool has, .int .i64 stack, .int .i64 locals, .slice A2 code.length k2, .slice B2 traps.length l2] 37)) (fun i _=>traps.length - (RowKit.intOf i).toNat)
 case atStart=>exact⟨0,by omega,rfl,HB,X1,by simpa using X2⟩
 case round=>
  obtain⟨k,hk,rfl,HBr,Y1,Y2⟩:=hrel
  have c1:=Y1.out.cell 7 rfl
  have c2:=Y2.out.cell 7 rfl
  by_cases hlt:k<traps.length
  ·obtain⟨x,hx⟩: ∃x,traps[k]?=some x:=⟨_,List.getElem?_eq_getElem hlt⟩
   obtain⟨b1,o1,rfl,g1,a0,a1,a2,a3⟩:=trap_cells (HT1.out.keep (Kept.of_below HBr.out)) k x hx
   obtain⟨b2,o2,rfl,g2,e0,e1,e2,e3⟩:=trap_cells (HT2.out.keep (Kept.of_below HBr.out)) k x hx
   have hnq:=neq_trap
   have HBn:=Lib.hid (fun m=>HBr.out.trans (below_drewN (Below.refl w.heap.size wr) m))
   have Yn:=Lib.hid (fun m=>Y1.out.below (below_drewN (Below.refl wr.heap.size wr) m) Y1.out.lt)
   have Zn:=Lib.hid (fun m=>Y2.out.below (below_drewN (Below.refl wr.heap.size wr) m) Y2.out.lt)
   clear hx
   go_wp2_with fail
   go_quiet (fail)
   go_wp2_with fail
   go_roundw
   case rel=>exact⟨k+1,by omega,by go_num,Lib.hid (HBn.out _),Lib.hid (Yn.out _),Lib.hid (Zn.out _)⟩
   case measure=>simp [RowKit.intOf];omega
  ·go_wp2_with fail
   go_ret
   exact⟨rfl,HBr.out⟩
theorem neq_ko (w:World) (k:Ko):(binOp .neq 33 (.agg #[.int .i64 k.tag, .string k.text, .int .i64 k.num, .int .i64 k.a, .int .i64 k.b]) (.agg #[.int .i64 k.tag, .string k.text, .int .i64 k.num, .int .i64 k.a, .int .i64 k.b])).run Tryz.prog w= .ok (.bool false) w:=by
 go_simp
theorem neq_fld (w:World) (a b c d:Int):(binOp .neq 83 (.agg #[.int .i64 a, .int .i64 b, .int .i64 c, .int .i64 d]) (.agg #[.int .i64 a, .int .i64 b, .int .i64 c, .int .i64 d])).run Tryz.prog w= .ok (.bool false) w:=by
 go_simp
structure DuoW (w:World) (ca cb:List Value) (wr:World):Prop where
 bel:Below w.heap.size w wr
 x1:Bx wr w.heap.size ca 28
 x2:Bx wr (w.heap.size+1) cb 28
theorem DuoW.below {w W W':World} {ca cb:List Value} (h:DuoW w ca cb W) (hb:Below W.heap.size W W'):DuoW w ca cb W':=
 ⟨h.bel.trans (hb.mono h.bel.size),h.x1.below hb h.x1.lt,h.x2.below hb h.x2.lt⟩
theorem int_cells {w:World} {ok:Nat→Prop} {l:List Int} {A:Option Addr} {cap:Nat} (h:SlAt w ok 1 l.length (l.map (Value.int .i64)) (.slice A l.length cap)): ∀(k:Nat) (x:Int),l[k]?=some x→ ∃b off,A=some ⟨b,off,none⟩∧b<w.heap.size∧w.cell? ⟨b,off+k,none⟩=some (.int .i64 x):=by
 intro k x hk
 obtain⟨A',cap',e,_,_,_,h5⟩:=h
 cases e
 obtain⟨b,off,e,hlt,_,hc⟩:=h5 (by have:=(List.getElem?_eq_some_iff.1 hk).1;omega)
 exact⟨b,off,e,hlt,hc _ _ (by rw [List.getElem?_map,hk];rfl)⟩
theorem class_same (c:ClassV) (a1 a2 a3 a4 b1 b2 b3 b4:Value) (ok1 ok2:Nat→Prop) (w:World) (h1:ClassAt w ok1 c a1 a2 a3 a4) (h2:ClassAt w ok2 c b1 b2 b3 b4):
  Calls Tryz.prog 12 #[bookV c a1 a2 a3 a4,bookV c b1 b2 b3 b4] w fun e w'=>e= .returned (.bool true)∧Below w.heap.size w w':=by
 obtain⟨P1,p1,rfl,_,zp1⟩:=sl_len h1.hpool
 obtain⟨I1,i1,rfl,_,zi1⟩:=sl_len h1.hifs
 obtain⟨F1,f1,rfl,_,zf1⟩:=sl_len h1.hflds
 obtain⟨ms1,e1,s1,r1⟩:=h1.hmths
 obtain⟨M1,m1,rfl,_,zm1⟩:=sl_len s1
 obtain⟨P2,p2,rfl,_,zp2⟩:=sl_len h2.hpool
 obtain⟨I2,i2,rfl,_,zi2⟩:=sl_len h2.hifs
 obtain⟨F2,f2,rfl,_,zf2⟩:=sl_len h2.hflds
 obtain⟨ms2,e2,s2,r2⟩:=h2.hmths
 obtain⟨M2,m2,rfl,_,zm2⟩:=sl_len s2
 have HP1:=Lib.hid h1.hpool
 have HP2:=Lib.hid h2.hpool
 have HI1:=Lib.hid h1.hifs
 have HI2:=Lib.hid h2.hifs
 have HF1:=Lib.hid h1.hflds
 have HF2:=Lib.hid h2.hflds
 have HE1:=Lib.hid e1
 have HE2:=Lib.hid e2
 have HS1:=Lib.hid s1
 have HS2:=Lib.hid s2
 have HR1:=Lib.hid r1
 have HR2:=Lib.hid r2
 have H0:=Lib.hid (show DuoW w [.int .i64 c.minor, .int .i64 c.major, .slice P1 c.pool.length p1, .int .i64 c.acc, .int .i64 c.this, .int .i64 c.sup, .slice I1 c.ifs.length i1, .slice F1 c.flds.length f1, .slice M1 c.mths.length m1] [.int .i64 c.minor, .int .i64 c.major, .slice P2 c.pool.length p2, .int .i64 c.acc, .int .i64 c.this, .int .i64 c.sup, .slice I2 c.ifs.length i2, .slice F2 c.flds.length f2, .slice M2 c.mths.length m2] _ from⟨((Below.refl _ _).alloc (Nat.le_refl _) (.cells #[.int .i64 c.minor, .int .i64 c.major, .slice P1 c.pool.length p1, .int .i64 c.acc, .int .i64 c.this, .int .i64 c.sup, .slice I1 c.ifs.length i1, .slice F1 c.flds.length f1, .slice M1 c.mths.length m1] 28)).alloc (by simp) (.cells #[.int .i64 c.minor, .int .i64 c.major, .slice P2 c.pool.length p2, .int .i64 c.acc, .int .i64 c.this, .int .i64 c.sup, .slice I2 c.ifs.length i2, .slice F2 c.flds.length f2, .slice M2 c.mths.length m2] 28),
  (bx_new w [.int .i64 c.minor, .int .i64 c.major, .slice P1 c.pool.length p1, .int .i64 c.acc, .int .i64 c.this, .int .i64 c.sup, .slice I1 c.ifs.length i1, .slice F1 c.flds.length f1, .slice M1 c.mths.length m1] 28).below ((Below.refl _ _).alloc (Nat.le_refl _) _) (by simp),by simpa using bx_new (w.alloc (.cells #[.int .i64 c.minor, .int .i64 c.major, .slice P1 c.pool.length p1, .int .i64 c.acc, .int .i64 c.this, .int .i64 c.sup, .slice I1 c.ifs.length i1, .slice F1 c.flds.length f1, .slice M1 c.mths.length m1] 28)) [.int .i64 c.minor, .int .i64 c.major, .slice P2 c.pool.length p2, .int .i64 c.acc, .int .i64 c.this, .int .i64 c.sup, .slice I2 c.ifs.length i2, .slice F2 c.flds.length f2, .slice M2 c.mths.length m2] 28⟩)
 clear h1 h2 e1 e2 s1 s2 r1 r2
 rw [bookV_open,bookV_open]
 go_enter Tryz.func12,Tryz.ntmps12
 go_wp2_with fail
 go_loopw [5] (fun i wr=> ∃k:Nat,k≤c.pool.length∧i= .int .i64 k∧Hid (DuoW w [.int .i64 c.minor, .int .i64 c.major, .slice P1 c.pool.length p1, .int .i64 c.acc, .int .i64 c.this, .int .i64 c.sup, .slice I1 c.ifs.length i1, .slice F1 c.flds.length f1, .slice M1 c.mths.length m1] [.int .i64 c.minor, .int .i64 c.major, .slice P2 c.pool.length p2, .int .i64 c.acc, .int .i64 c.this, .int .i64 c.sup, .slice I2 c.ifs.length i2, .slice F2 c.flds.length f2, .slice M2 c.mths.length m2] wr)) (fun i _=>c.pool.length - (RowKit.intOf i).toNat)
 case atStart=>exact⟨0,by omega,rfl,H0⟩
 case round=>
  obtain⟨k,hk,rfl,HW⟩:=hrel
  have c1:=HW.out.x1.cell 2 rfl
  have c2:=HW.out.x2.cell 2 rfl
  by_cases hlt:k<c.pool.length
  ·obtain⟨x,hx⟩: ∃x,c.pool[k]?=some x:=⟨_,List.getElem?_eq_getElem hlt⟩
   obtain⟨b1,o1,rfl,g1,x0,x1,x2,x3,x4⟩:=pool_cells (HP1.out.keep (Kept.of_below HW.out.bel)) k x hx
   obtain⟨b2,o2,rfl,g2,y0,y1,y2,y3,y4⟩:=pool_cells (HP2.out.keep (Kept.of_below HW.out.bel)) k x hx
   have hnq:=neq_ko
   have HWn:=Lib.hid (fun m=>HW.out.below (below_drewN (Below.refl wr.heap.size wr) m))
   clear hx
   go_wp2_with fail
   go_quiet (fail)
   go_wp2_with fail
   go_roundw
   case rel=>exact⟨k+1,by omega,by go_num,Lib.hid (HWn.out _)⟩
   case measure=>simp [RowKit.intOf];omega
  ·go_wp2_with fail
   go_loopw [6] (fun i wr=> ∃k:Nat,k≤c.ifs.length∧i= .int .i64 k∧Hid (DuoW w [.int .i64 c.minor, .int .i64 c.major, .slice P1 c.pool.length p1, .int .i64 c.acc, .int .i64 c.this, .int .i64 c.sup, .slice I1 c.ifs.length i1, .slice F1 c.flds.length f1, .slice M1 c.mths.length m1] [.int .i64 c.minor, .int .i64 c.major, .slice P2 c.pool.length p2, .int .i64 c.acc, .int .i64 c.this, .int .i64 c.sup, .slice I2 c.ifs.length i2, .slice F2 c.flds.length f2, .slice M2 c.mths.length m2] wr)) (fun i _=>c.ifs.length - (RowKit.intOf i).toNat)
   case atStart=>exact⟨0,by omega,rfl,HW⟩
   case round=>
    obtain⟨k,hk,rfl,HW⟩:=hrel
    have c1:=HW.out.x1.cell 6 rfl
    have c2:=HW.out.x2.cell 6 rfl
    by_cases hlt:k<c.ifs.length
    ·obtain⟨x,hx⟩: ∃x,c.ifs[k]?=some x:=⟨_,List.getElem?_eq_getElem hlt⟩
     obtain⟨b1,o1,rfl,g1,x0⟩:=int_cells (HI1.out.keep (Kept.of_below HW.out.bel)) k x hx
     obtain⟨b2,o2,rfl,g2,y0⟩:=int_cells (HI2.out.keep (Kept.of_below HW.out.bel)) k x hx
     have hnq:=True.intro
     have HWn:=Lib.hid (fun m=>HW.out.below (below_drewN (Below.refl wr.heap.size wr) m))
     clear hx
     go_wp2_with fail
     go_quiet (fail)
     go_wp2_with fail
     go_roundw
     case rel=>exact⟨k+1,by omega,by go_num,Lib.hid (HWn.out _)⟩
     case measure=>simp [RowKit.intOf];omega
    ·go_wp2_with fail
     go_loopw [7] (fun i wr=> ∃k:Nat,k≤c.flds.length∧i= .int .i64 k∧Hid (DuoW w [.int .i64 c.minor, .int .i64 c.major, .slice P1 c.pool.length p1, .int .i64 c.acc, .int .i64 c.this, .int .i64 c.sup, .slice I1 c.ifs.length i1, .slice F1 c.flds.length f1, .slice M1 c.mths.length m1] [.int .i64 c.minor, .int .i64 c.major, .slice P2 c.pool.length p2, .int .i64 c.acc, .int .i64 c.this, .int .i64 c.sup, .slice I2 c.ifs.length i2, .slice F2 c.flds.length f2, .slice M2 c.mths.length m2] wr)) (fun i _=>c.flds.length - (RowKit.intOf i).toNat)
     case atStart=>exact⟨0,by omega,rfl,HW⟩
     case round=>
      obtain⟨k,hk,rfl,HW⟩:=hrel
      have c1:=HW.out.x1.cell 7 rfl
      have c2:=HW.out.x2.cell 7 rfl
      by_cases hlt:k<c.flds.length
      ·obtain⟨x,hx⟩: ∃x,c.flds[k]?=some x:=⟨_,List.getElem?_eq_getElem hlt⟩
       obtain⟨b1,o1,rfl,g1,x0,x1,x2,x3⟩:=fld_cells (HF1.out.keep (Kept.of_below HW.out.bel)) k x hx
       obtain⟨b2,o2,rfl,g2,y0,y1,y2,y3⟩:=fld_cells (HF2.out.keep (Kept.of_below HW.out.bel)) k x hx
       have hnq:=neq_fld
       have HWn:=Lib.hid (fun m=>HW.out.below (below_drewN (Below.refl wr.heap.size wr) m))
       clear hx
       go_wp2_with fail
       go_quiet (fail)
       go_wp2_with fail
       go_roundw
       case rel=>exact⟨k+1,by omega,by go_num,Lib.hid (HWn.out _)⟩
       case measure=>simp [RowKit.intOf];omega
      ·go_wp2_with fail
       go_loopw [8] (fun i wr=> ∃k:Nat,k≤c.mths.length∧i= .int .i64 k∧Hid (DuoW w [.int .i64 c.minor, .int .i64 c.major, .slice P1 c.pool.length p1, .int .i64 c.acc, .int .i64 c.this, .int .i64 c.sup, .slice I1 c.ifs.length i1, .slice F1 c.flds.length f1, .slice M1 c.mths.length m1] [.int .i64 c.minor, .int .i64 c.major, .slice P2 c.pool.length p2, .int .i64 c.acc, .int .i64 c.this, .int .i64 c.sup, .slice I2 c.ifs.length i2, .slice F2 c.flds.length f2, .slice M2 c.mths.length m2] wr)) (fun i _=>c.mths.length - (RowKit.intOf i).toNat)
       case atStart=>exact⟨0,by omega,rfl,HW⟩
       case round=>
        obtain⟨k,hk,rfl,HW⟩:=hrel
        have c1:=HW.out.x1.cell 8 rfl
        have c2:=HW.out.x2.cell 8 rfl
        by_cases hlt:k<c.mths.length
        ·obtain⟨⟨x1,u1,v1⟩,hx1⟩: ∃q,ms1[k]?=some q:=⟨_,List.getElem?_eq_getElem (by rw [←HE1.out,List.length_map] at hlt;exact hlt)⟩
         obtain⟨⟨x2,u2,v2⟩,hx2⟩: ∃q,ms2[k]?=some q:=⟨_,List.getElem?_eq_getElem (by rw [←HE2.out,List.length_map] at hlt;exact hlt)⟩
         obtain rfl:x1=x2:=by
          have e1:c.mths[k]?=some x1:=by rw [←HE1.out,List.getElem?_map,hx1];rfl
          have e2:c.mths[k]?=some x2:=by rw [←HE2.out,List.getElem?_map,hx2];rfl
          exact Option.some.inj (e1.symm.trans e2)
         obtain⟨b1,o1,rfl,g1,y0,y1,y2,y3,y4,y5,y6,y7⟩:=mth_cells (HS1.out.keep (Kept.of_below HW.out.bel)) (by rw [←HE1.out,List.length_map]) k x1 u1 v1 hx1
         obtain⟨b2,o2,rfl,g2,z0,z1,z2,z3,z4,z5,z6,z7⟩:=mth_cells (HS2.out.keep (Kept.of_below HW.out.bel)) (by rw [←HE2.out,List.length_map]) k x1 u2 v2 hx2
         have q1:=HR1.out _ (List.mem_of_getElem? hx1)
         have q2:=HR2.out _ (List.mem_of_getElem? hx2)
         have k1:=Kept.of_below (ok:=ok1) HW.out.bel
         have k2:=Kept.of_below (ok:=ok2) HW.out.bel
         have HM:=Lib.hid (fun W (hb:Below wr.heap.size wr W)=>meth_same x1 u1 v1 u2 v2 ok1 ok2 W ⟨(q1.hcode.keep k1).keep (Kept.of_below hb),(q1.htraps.keep k1).keep (Kept.of_below hb)⟩ ⟨(q2.hcode.keep k2).keep (Kept.of_below hb),(q2.htraps.keep k2).keep (Kept.of_below hb)⟩)
         unfold methV at HM
         obtain⟨A1,n1,c3,rfl⟩: ∃A n c,u1= .slice A n c:=by obtain⟨A,c,e,_⟩:=sl_len q1.hcode;exact⟨_,_,_,e⟩
         obtain⟨A2,n2,c4,rfl⟩: ∃A n c,v1= .slice A n c:=by obtain⟨A,c,e,_⟩:=sl_len q1.htraps;exact⟨_,_,_,e⟩
         obtain⟨A3,n3,c5,rfl⟩: ∃A n c,u2= .slice A n c:=by obtain⟨A,c,e,_⟩:=sl_len q2.hcode;exact⟨_,_,_,e⟩
         obtain⟨A4,n4,c6,rfl⟩: ∃A n c,v2= .slice A n c:=by obtain⟨A,c,e,_⟩:=sl_len q2.htraps;exact⟨_,_,_,e⟩
         clear hx1 hx2 q1 q2 k1 k2
         go_wp2_with fail
         refine wp_region_head 10 (by kernel_rfl) (by kernel_rfl) ?_
         simp only [List.take_succ_cons,List.take_zero,List.drop_succ_cons,List.drop_zero]
         repeat go_big_quiet_step (fail)
         refine wpQuiet_nil ?_
         go_wp2_with (go_at_call 32;refine(HM.out _ (below_drewN (Below.refl _ _) _)).mono ?_;rintro e w3 ⟨rfl,hb3⟩;have HW3:=Lib.hid ((HW.out.below (below_drewN (Below.refl _ _) _)).below hb3);clear hb3)
         go_roundw
         case rel=>exact⟨k+1,by omega,by go_num,HW3⟩
         case measure=>simp [RowKit.intOf];omega
        ·go_wp2_with fail
         go_ret
         exact⟨rfl,HW.out.bel⟩
end Go.Proofs.YtlcidkiplidamaaGreatDoor
