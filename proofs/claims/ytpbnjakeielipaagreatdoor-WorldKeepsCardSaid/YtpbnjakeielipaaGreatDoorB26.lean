/-
  What the laws rest on, part 26: walks of the program's functions and plain laws. Conditions: none but those that each theorem names.
-/
import Derived.Laws.Tables
import Derived.Laws.Rows
import Derived.Test.YtpbnjakeielipaaGreatDoorB25
import Derived.Test.YtpbnjakeielipaaGreatDoorB16
import Derived.Test.YtpbnjakeielipaaGreatDoorB00
import Derived.Test.YtpbnjakeielipaaGreatDoorB18
set_option linter.unusedSimpArgs false
set_option linter.unusedVariables false
set_option maxRecDepth 100000
set_option maxHeartbeats 4000000
namespace Go.Proofs.YtpbnjakeielipaaGreatDoor
open Go Go.RowKit Lib Go.Maps
theorem table_any (lb:Nat) (v:Value) (hv: ∃A n c,v= .slice A n c) (W:World) (c4:W.cell? ⟨lb,4,none⟩=some v):Calls Tryz.prog 22 #[.pointer (some ⟨lb,0,none⟩)] W fun e w'=>e= .returned v∧W=w':=by
 obtain⟨A,n,c,rfl⟩:=hv
 go_enter Tryz.func22,Tryz.ntmps22
 go_wp2_with fail
 go_ret
 exact⟨rfl,rfl⟩
theorem raw_gen (lb bf:Nat) (s:ByteArray) (W:World) (c1:W.cell? ⟨lb,1,none⟩=some (.map (some bf))) (a0 a1 a2 a3 a4 a5 a6 a7 a8:Value) (b:Bool) (h1: #[a0,a1,a2,a3,a4,a5,a6,a7,a8].all (·.oneCell')=true)
  (hlk: ∀W',Below W.heap.size W W'→(Instr.lookup 68 (.map (some bf)) (.string s) true).run Tryz.prog W'= .ok (.tuple #[.agg #[a0,a1,a2,a3,a4,a5,a6,a7,a8], .bool b]) W'):
  Calls Tryz.prog 46 #[.pointer (some ⟨lb,0,none⟩), .string s] W fun e w'=>e= .returned (.tuple #[.agg #[a0,a1,a2,a3,a4,a5,a6,a7,a8], .bool b])∧Below W.heap.size W w':=by
 have X0:=Lib.hid (bx_new W zeroClass 104)
 have B0:=Lib.hid ((Below.refl W.heap.size W).alloc (Nat.le_refl _) (.cells zeroClass.toArray 104))
 have X1:=Lib.hid (bx_new (W.alloc (.cells zeroClass.toArray 104)) zeroClass 104)
 have hlkk:=hlk _ B0.out
 have B1:=Lib.hid (B0.out.alloc B0.out.size (.cells zeroClass.toArray 104))
 have X0':=Lib.hid (X0.out.below ((Below.refl (W.heap.size+1) (W.alloc (.cells zeroClass.toArray 104))).alloc (by simp) (.cells zeroClass.toArray 104)) (by omega))
 have hl:=cells_lt c1
 have HON:=Lib.hid h1
 clear hlk h1
 simp only [World.size_alloc] at X1
 go_enter Tryz.func46,Tryz.ntmps46
 unfold zeroClass at X0 X1 B1 B0 X0' hlkk
 go_wp2_with (refine wpList_store_row rfl _ _ _ rfl (W.heap.size+1) _ rfl rfl _ _ X1.out (by kernel_rfl) rfl HON.out ?_;refine stop_here ?_)
 refine go_on ?_
 have X2:=Lib.hid (X1.out.row [a0,a1,a2,a3,a4,a5,a6,a7,a8])
 have X3:=Lib.hid ((setRow_other _ (W.heap.size+1) W.heap.size #[a0,a1,a2,a3,a4,a5,a6,a7,a8] (by omega)).trans X0'.out)
 have B2:=Lib.hid (below_row B1.out (W.heap.size+1) #[a0,a1,a2,a3,a4,a5,a6,a7,a8] (by omega))
 generalize ((W.alloc (.cells #[.int .i64 0, .int .i64 0, .slice none 0 0, .int .i64 0, .int .i64 0, .int .i64 0, .slice none 0 0, .slice none 0 0, .slice none 0 0] 104)).alloc (.cells #[.int .i64 0, .int .i64 0, .slice none 0 0, .int .i64 0, .int .i64 0, .int .i64 0, .slice none 0 0, .slice none 0 0, .slice none 0 0] 104)).setRow (W.heap.size+1) #[a0,a1,a2,a3,a4,a5,a6,a7,a8]=w2 at*
 go_wp2_with (first
  | (refine wpList_load_row rfl _ _ rfl (W.heap.size+1) rfl _ _ _ _ X2.out Tryz.underlying104 rfl (by kernel_rfl) ?_)
  | (refine wpList_store_row rfl _ _ _ rfl W.heap.size _ rfl rfl _ _ X3.out (by kernel_rfl) rfl HON.out ?_;refine stop_here ?_))
 refine go_on ?_
 go_wp2_with fail
 refine bodyPost_ret (results_two_cell rfl rfl rfl ((show Bx w2 W.heap.size [.int .i64 0, .int .i64 0, .slice none 0 0, .int .i64 0, .int .i64 0, .int .i64 0, .slice none 0 0, .slice none 0 0, .slice none 0 0] 104 from X3.out).row [a0,a1,a2,a3,a4,a5,a6,a7,a8]) Tryz.underlying104 rfl (by kernel_rfl)) rfl ⟨rfl,below_row B2.out W.heap.size _ (Nat.le_refl _)⟩
def bookC (c:ClassV) (p i f m:Value):Value:= .agg #[.int .i64 c.minor, .int .i64 c.major,p, .int .i64 c.acc, .int .i64 c.this, .int .i64 c.sup,i,f,m]
def noBook:Value:= .agg #[.int .i64 0, .int .i64 0, .slice none 0 0, .int .i64 0, .int .i64 0, .int .i64 0, .slice none 0 0, .slice none 0 0, .slice none 0 0]
theorem raw_none {B:Nat} {L:LPos} {v:Value} {σ:St} {W:World} (h:At1 B L v σ W) (s:ByteArray) (hs:s.size≤1048576) (hf:σ.F s.data.toList=none):
  Calls Tryz.prog 46 #[.pointer (some ⟨L.lb,0,none⟩), .string s] W fun e w'=>e= .returned (.tuple #[noBook, .bool false])∧Below W.heap.size W w':=by
 obtain⟨ts,_,h2,_⟩:=h.all
 obtain⟨ff,n,hn,hM,hA⟩:=h2.hf
 have hA':=hA s.data.toList
 rw [hf] at hA'
 have hff:ff s.data.toList=none:=hA'
 refine raw_gen L.lb L.bf s W h2.c1 _ _ _ _ _ _ _ _ _ false (by simp [Value.oneCell']) fun W' hb=> ?_
 rw [run_lookK (string_keyed Tryz.underlying9) Tryz.underlying68 (z:=noBook) (by kernel_rfl) (hM.keep (hb.block _ hM.lt)) (Go.WideMaps.keyOf_string_mk Tryz.underlying9 (by unfold maxLen;omega)),hff]
 rfl
theorem raw_some {B:Nat} {L:LPos} {v:Value} {σ:St} {W:World} (h:At1 B L v σ W) (s:ByteArray) (hs:s.size≤1048576) {c:ClassV} (hf:σ.F s.data.toList=some c):
  Calls Tryz.prog 46 #[.pointer (some ⟨L.lb,0,none⟩), .string s] W fun e w'=> ∃p i f m,e= .returned (.tuple #[bookC c p i f m, .bool true])∧SlAt w' anyB 5 c.pool.length (c.pool.flatMap Ko.cells) p∧(i.oneCell'=true∧f.oneCell'=true∧m.oneCell'=true)∧Below W.heap.size W w':=by
 obtain⟨ts,_,h2,_⟩:=h.all
 obtain⟨ff,n,hn,hM,hA⟩:=h2.hf
 have hA':=hA s.data.toList
 rw [hf] at hA'
 obtain⟨pv,iv,fv,mv,hff,hca⟩:=hA'
 obtain⟨Ap,kp,rfl,_,z1⟩:=sl_len hca.hpool
 obtain⟨Ai,ki,rfl,_,z2⟩:=sl_len hca.hifs
 obtain⟨Af,kf,rfl,_,z3⟩:=sl_len hca.hflds
 obtain⟨ms,_,hms2,_⟩:=id hca.hmths
 obtain⟨Am,km,rfl,_,z4⟩:=sl_len hms2
 refine(raw_gen L.lb L.bf s W h2.c1 (.int .i64 c.minor) (.int .i64 c.major) (.slice Ap c.pool.length kp) (.int .i64 c.acc) (.int .i64 c.this) (.int .i64 c.sup) (.slice Ai c.ifs.length ki) (.slice Af c.flds.length kf) (.slice Am c.mths.length km) true (by simp [Value.oneCell']) fun W' hb=> ?_).mono ?_
 ·rw [run_lookK (string_keyed Tryz.underlying9) Tryz.underlying68 (z:=noBook) (by kernel_rfl) (hM.keep (hb.block _ hM.lt)) (Go.WideMaps.keyOf_string_mk Tryz.underlying9 (by unfold maxLen;omega)),hff]
  rfl
 ·rintro e w' ⟨rfl,hb⟩
  exact⟨_,_,_,_,rfl,(hca.hpool.mono fun _ _ _=>trivial).keep (kept_any hb),⟨rfl,rfl,rfl⟩,hb⟩
theorem At1.tab {B:Nat} {L:LPos} {v:Value} {σ:St} {W:World} (h:At1 B L v σ W) (hs:SmOk σ.ts): ∃g cap ts,v=tabV g cap ts∧ts.map TyV.key=σ.ts∧TabAt W g cap ts∧W.cell? ⟨L.lb,4,none⟩=some (tabV g cap ts):=by
 obtain⟨ts,h1,h2,h3⟩:=h.all
 obtain⟨cs,ls,k1,k2,k3,k4,k5⟩:=h3
 have hl:=congrArg List.length k1
 simp only [List.length_map,List.length_append] at hl
 have hls:=nodup_len ls σ.dn k4 k5
 have hd:=h.len
 have hle:=h.le
 obtain⟨g,cap,rfl,hcap,hg,hc⟩:=h2.rows (by omega)
 refine⟨g,cap,ts,rfl,h1,⟨by omega,by omega,hcap,hg,hc,fun t ht=> ⟨(h2.rd t ht).1.mono fun _ _ _=>trivial,(h2.rd t ht).2.1.mono fun _ _ _=>trivial,(h2.rd t ht).2.2.mono fun _ _ _=>trivial⟩,fun t ht=> ?_⟩,h2.c4⟩
 have:=hs t.key (h1▸List.mem_map.2 ⟨t,ht,rfl⟩)
 exact⟨this.1,this.2.1,this.2.2⟩
theorem tns_key {ts:List TyV} {σ:St} (h:ts.map TyV.key=σ.ts):σ.ts.map (·.1)=tns ts:=by
 rw [←h,List.map_map]
 rfl
theorem bx_six {w:World} {g:Nat} {a b c d e f:Value} {t:TypeId} (h:Bx w g [a,b,c,d,e,f] t) (a' b' c' d' e' f':Value):Bx ((((((w.setCell ⟨g,0,none⟩ a').setCell ⟨g,1,none⟩ b').setCell ⟨g,2,none⟩ c').setCell ⟨g,3,none⟩ d').setCell ⟨g,4,none⟩ e').setCell ⟨g,5,none⟩ f') g [a',b',c',d',e',f'] t:=(((((h.set 0 a').set 1 b').set 2 c').set 3 d').set 4 e').set 5 f'
theorem below_six {B:Nat} {w w':World} {g:Nat} (h:Below B w w') (hg:B≤g) (a' b' c' d' e' f':Value):Below B w ((((((w'.setCell ⟨g,0,none⟩ a').setCell ⟨g,1,none⟩ b').setCell ⟨g,2,none⟩ c').setCell ⟨g,3,none⟩ d').setCell ⟨g,4,none⟩ e').setCell ⟨g,5,none⟩ f'):=(((((h.setCell (p:=⟨g,0,none⟩) hg a').setCell (p:=⟨g,1,none⟩) hg b').setCell (p:=⟨g,2,none⟩) hg c').setCell (p:=⟨g,3,none⟩) hg d').setCell (p:=⟨g,4,none⟩) hg e').setCell (p:=⟨g,5,none⟩) hg f'
def TypeP (ts:List TyV) (s:List UInt8) (w:World) (e:Ending) (w':World):Prop:=Below w.heap.size w w'∧
 ((s∉tns ts∧e= .returned (.tuple #[.agg #[.string ⟨#[]⟩, .string ⟨#[]⟩, .int .i64 0, .slice none 0 0, .slice none 0 0, .slice none 0 0], .bool false]))∨ ∃(k:Nat) (t:TyV),atOf (tns ts) s=k∧ts[k]?=some t∧t.name=s∧e= .returned (.tuple #[.agg #[.string ⟨t.name.toArray⟩, .string ⟨t.sup.toArray⟩, .int .i64 t.acc,t.ifs,t.flds,t.mths], .bool true]))
theorem wtype_any (wb lb g cap:Nat) (ts:List TyV) (s:ByteArray) (w:World) (h:TabAt w g cap ts) (c0:w.cell? ⟨wb,0,none⟩=some (.pointer (some ⟨lb,0,none⟩))) (c4:w.cell? ⟨lb,4,none⟩=some (tabV g cap ts)):
  Calls Tryz.prog 24 #[.pointer (some ⟨wb,0,none⟩), .string s] w (TypeP ts s.data.toList w):=by
 have HB:=Lib.hid ((Below.refl w.heap.size w).alloc (Nat.le_refl _) (.cells #[.string ⟨#[]⟩, .string ⟨#[]⟩, .int .i64 0, .slice none 0 0, .slice none 0 0, .slice none 0 0] 75))
 have X:=Lib.hid (bx_new w [.string ⟨#[]⟩, .string ⟨#[]⟩, .int .i64 0, .slice none 0 0, .slice none 0 0, .slice none 0 0] 75)
 have HT:=Lib.hid (h.below HB.out)
 have hlw:=cells_lt c0
 have hll:=cells_lt c4
 have HTab:=Lib.hid (table_any lb (tabV g cap ts) ⟨_,_,_,rfl⟩ _ ((HB.out.cell (p:=⟨lb,4,none⟩) hll).trans c4))
 have HAt:=Lib.hid (tab_at HT.out s)
 have x0:=X.out.cell 0 rfl
 have x1:=X.out.cell 1 rfl
 have x2:=X.out.cell 2 rfl
 have x3:=X.out.cell 3 rfl
 have x4:=X.out.cell 4 rfl
 have x5:=X.out.cell 5 rfl
 have z0:=X.out.frozen 0
 have z1:=X.out.frozen 1
 have z2:=X.out.frozen 2
 have z3:=X.out.frozen 3
 have z4:=X.out.frozen 4
 have z5:=X.out.frozen 5
 have hle:=h.le
 have hcap:=h.cap
 have hg:=h.lt
 unfold tabV at HTab HAt
 clear h c4
 go_enter Tryz.func24,Tryz.ntmps24
 have HX:Hid True:=Lib.hid trivial
 go_wp2_with (first
  | (go_at_call 22;refine HTab.out.mono ?_;rintro e w1 ⟨rfl,rfl⟩)
  | (go_at_call 45;refine HAt.out.mono ?_;rintro e w1 ⟨rfl,rfl⟩;refine stop_here ?_))
 generalize w.alloc (.cells #[.string ⟨#[]⟩, .string ⟨#[]⟩, .int .i64 0, .slice none 0 0, .slice none 0 0, .slice none 0 0] 75)=w1 at*
 refine go_on ?_
 rcases atOf_cases ts s.toList with⟨ha,hno⟩ | ⟨k,t,ha,hk,hn⟩
 ·rw [ha]
  have HN:=Lib.hid hno
  clear ha hno
  go_wp2_with fail
  refine bodyPost_ret (results_two_cell rfl rfl rfl (bx_six X.out _ _ _ _ _ _) Tryz.underlying75 rfl rfl) rfl ⟨below_six HB.out (Nat.le_refl _) _ _ _ _ _ _, .inl ⟨?_,rfl⟩⟩
  rw [←ByteArray.toList_eq]
  exact HN.out
 ·have hlt:=(List.getElem?_eq_some_iff.1 hk).1
  rw [ha]
  have c0':=HT.out.c0 hk
  have c1:=HT.out.c1 hk
  have c2:=HT.out.c2 hk
  have c3:=HT.out.c3 hk
  have c4:=HT.out.c4 hk
  have c5:=HT.out.c5 hk
  obtain⟨h1,h2,h3⟩:=HT.out.rd t (List.mem_of_getElem? hk)
  obtain⟨A1,q1,e1,_,_⟩:=sl_len h1
  obtain⟨A2,q2,e2,_,_⟩:=sl_len h2
  obtain⟨A3,q3,e3,_,_⟩:=sl_len h3
  rw [e1] at c3
  rw [e2] at c4
  rw [e3] at c5
  have HK:=Lib.hid (show TypeP ts s.data.toList w (.returned (.tuple #[.agg #[.string ⟨t.name.toArray⟩, .string ⟨t.sup.toArray⟩, .int .i64 t.acc, .slice A1 t.ifl.length q1, .slice A2 t.fl.length q2, .slice A3 t.ml.length q3], .bool true])) w from⟨Below.refl _ _, .inr ⟨k,t,by rw [←ByteArray.toList_eq];exact ha,hk,by rw [←ByteArray.toList_eq];exact hn,by rw [e1,e2,e3]⟩⟩)
  clear ha hk hn h1 h2 h3 e1 e2 e3
  go_wp2_with fail
  refine bodyPost_ret (results_two_cell rfl rfl rfl (bx_six X.out _ _ _ _ _ _) Tryz.underlying75 rfl rfl) rfl ⟨below_six HB.out (Nat.le_refl _) _ _ _ _ _ _,HK.out.2⟩
def constAt (F:List UInt8→Option ClassV) (s:List UInt8) (n:Int):Option Ko:=(F s).bind fun c=>if 1≤n∧n≤c.pool.length then c.pool[(n - 1).toNat]? else none
theorem bx_five {w:World} {g:Nat} {a b c d e:Value} {t:TypeId} (h:Bx w g [a,b,c,d,e] t) (a' b' c' d' e':Value):Bx (((((w.setCell ⟨g,0,none⟩ a').setCell ⟨g,1,none⟩ b').setCell ⟨g,2,none⟩ c').setCell ⟨g,3,none⟩ d').setCell ⟨g,4,none⟩ e') g [a',b',c',d',e'] t:=((((h.set 0 a').set 1 b').set 2 c').set 3 d').set 4 e'
theorem below_five {B:Nat} {w w':World} {g:Nat} (h:Below B w w') (hg:B≤g) (a' b' c' d' e':Value):Below B w (((((w'.setCell ⟨g,0,none⟩ a').setCell ⟨g,1,none⟩ b').setCell ⟨g,2,none⟩ c').setCell ⟨g,3,none⟩ d').setCell ⟨g,4,none⟩ e'):=((((h.setCell (p:=⟨g,0,none⟩) hg a').setCell (p:=⟨g,1,none⟩) hg b').setCell (p:=⟨g,2,none⟩) hg c').setCell (p:=⟨g,3,none⟩) hg d').setCell (p:=⟨g,4,none⟩) hg e'
theorem wconst_any (wb:Nat) {B:Nat} {L:LPos} {v:Value} {σ:St} {W:World} (h:At1 B L v σ W) (c0:W.cell? ⟨wb,0,none⟩=some (.pointer (some ⟨L.lb,0,none⟩))) (s:ByteArray) (hs:s.size≤1048576) (n:Int) (hn:I64 n):
  Calls Tryz.prog 25 #[.pointer (some ⟨wb,0,none⟩), .string s, .int .i64 n] W fun e w'=>e= .returned (.tuple #[koV ((constAt σ.F s.data.toList n).getD koZero), .bool (constAt σ.F s.data.toList n).isSome])∧Below W.heap.size W w':=by
 have HB:=Lib.hid ((Below.refl W.heap.size W).alloc (Nat.le_refl _) (.cells #[.int .i64 0, .string ⟨#[]⟩, .int .i64 0, .int .i64 0, .int .i64 0] 81))
 have X:=Lib.hid (bx_new W [.int .i64 0, .string ⟨#[]⟩, .int .i64 0, .int .i64 0, .int .i64 0] 81)
 have hlw:=cells_lt c0
 have h1:=h.below HB.out
 have hz1:(W.alloc (.cells #[.int .i64 0, .string ⟨#[]⟩, .int .i64 0, .int .i64 0, .int .i64 0] 81)).heap.size=W.heap.size+1:=by simp
 have hn':=hn
 unfold I64 at hn'
 rcases hf:σ.F s.data.toList with _|c
 ·have HR:=Lib.hid (raw_none h1 s hs hf)
  rw [show constAt σ.F s.data.toList n=none by unfold constAt;rw [hf];rfl]
  unfold noBook at HR
  clear h h1 hf
  go_enter Tryz.func25,Tryz.ntmps25
  go_wp2_with (go_at_call 46;refine HR.out.mono ?_;rintro e w3 ⟨rfl,hb3⟩;refine stop_here ?_)
  generalize W.alloc (.cells #[.int .i64 0, .string ⟨#[]⟩, .int .i64 0, .int .i64 0, .int .i64 0] 81)=w1 at*
  have Z:=Lib.hid (bx_new w3 zeroClass 104)
  unfold zeroClass at Z
  have HB3:=Lib.hid hb3
  clear hb3
  refine go_on ?_
  go_wp2_with (refine wpList_store_row rfl _ _ _ rfl w3.heap.size _ rfl rfl _ _ Z.out (by kernel_rfl) rfl (by simp [Value.oneCell']) ?_;refine stop_here ?_)
  have HB4:=Lib.hid (below_row ((Below.refl w3.heap.size w3).alloc (Nat.le_refl _) (.cells #[.int .i64 0, .int .i64 0, .slice none 0 0, .int .i64 0, .int .i64 0, .int .i64 0, .slice none 0 0, .slice none 0 0, .slice none 0 0] 104)) w3.heap.size #[.int .i64 0, .int .i64 0, .slice none 0 0, .int .i64 0, .int .i64 0, .int .i64 0, .slice none 0 0, .slice none 0 0, .slice none 0 0] (Nat.le_refl _))
  have Z4:=Lib.hid ((show Bx _ w3.heap.size [.int .i64 0, .int .i64 0, .slice none 0 0, .int .i64 0, .int .i64 0, .int .i64 0, .slice none 0 0, .slice none 0 0, .slice none 0 0] 104 from Z.out).row [.int .i64 0, .int .i64 0, .slice none 0 0, .int .i64 0, .int .i64 0, .int .i64 0, .slice none 0 0, .slice none 0 0, .slice none 0 0])
  generalize (w3.alloc (.cells #[.int .i64 0, .int .i64 0, .slice none 0 0, .int .i64 0, .int .i64 0, .int .i64 0, .slice none 0 0, .slice none 0 0, .slice none 0 0] 104)).setRow w3.heap.size #[.int .i64 0, .int .i64 0, .slice none 0 0, .int .i64 0, .int .i64 0, .int .i64 0, .slice none 0 0, .slice none 0 0, .slice none 0 0]=w4 at*
  have HW4:=Lib.hid (HB3.out.trans (HB4.out.mono HB3.out.size))
  have X4:=Lib.hid (X.out.below HW4.out (by omega))
  have HBB:=Lib.hid (HB.out.trans (HW4.out.mono (by omega)))
  have x0:=X4.out.cell 0 rfl
  have x1:=X4.out.cell 1 rfl
  have x2:=X4.out.cell 2 rfl
  have x3:=X4.out.cell 3 rfl
  have x4:=X4.out.cell 4 rfl
  have z0:=X4.out.frozen 0
  have z1:=X4.out.frozen 1
  have z2:=X4.out.frozen 2
  have z3:=X4.out.frozen 3
  have z4:=X4.out.frozen 4
  refine go_on ?_
  go_wp2_with fail
  refine bodyPost_ret (results_two_cell rfl rfl rfl (bx_five X4.out _ _ _ _ _) Tryz.underlying81 rfl rfl) rfl ⟨rfl,below_five HBB.out (Nat.le_refl _) _ _ _ _ _⟩
 ·have HR:=Lib.hid (raw_some h1 s hs hf)
  have hc0:constAt σ.F s.data.toList n=if 1≤n∧n≤c.pool.length then c.pool[(n - 1).toNat]? else none:=by unfold constAt;rw [hf];rfl
  obtain⟨oc,hoc⟩: ∃oc,constAt σ.F s.data.toList n=oc:=⟨_,rfl⟩
  rw [hoc]
  have HOC:=Lib.hid (hc0.symm.trans hoc)
  clear h h1 hf hc0 hoc
  go_enter Tryz.func25,Tryz.ntmps25
  go_wp2_with (go_at_call 46;refine HR.out.mono ?_;rintro e w3 ⟨pv,iv,fv,mv,rfl,hsl,hone,hb3⟩;refine stop_here ?_)
  generalize W.alloc (.cells #[.int .i64 0, .string ⟨#[]⟩, .int .i64 0, .int .i64 0, .int .i64 0] 81)=w1 at*
  have Z:=Lib.hid (bx_new w3 zeroClass 104)
  unfold zeroClass at Z
  have HB3:=Lib.hid hb3
  obtain⟨Ap,kp,rfl,hkp,hml⟩:=sl_len hsl
  have HSL:=Lib.hid hsl
  have HON:=Lib.hid (show #[.int .i64 c.minor, .int .i64 c.major, .slice Ap c.pool.length kp, .int .i64 c.acc, .int .i64 c.this, .int .i64 c.sup,iv,fv,mv].all (·.oneCell')=true by simp [Value.oneCell'];exact⟨hone.1,hone.2.1,hone.2.2⟩)
  unfold bookC
  clear hb3 hsl hone
  refine go_on ?_
  go_wp2_with (refine wpList_store_row rfl _ _ _ rfl w3.heap.size _ rfl rfl _ _ Z.out (by kernel_rfl) rfl HON.out ?_;refine stop_here ?_)
  have HB4:=Lib.hid (below_row ((Below.refl w3.heap.size w3).alloc (Nat.le_refl _) (.cells #[.int .i64 0, .int .i64 0, .slice none 0 0, .int .i64 0, .int .i64 0, .int .i64 0, .slice none 0 0, .slice none 0 0, .slice none 0 0] 104)) w3.heap.size #[.int .i64 c.minor, .int .i64 c.major, .slice Ap c.pool.length kp, .int .i64 c.acc, .int .i64 c.this, .int .i64 c.sup,iv,fv,mv] (Nat.le_refl _))
  have Z4:=Lib.hid ((show Bx _ w3.heap.size [.int .i64 0, .int .i64 0, .slice none 0 0, .int .i64 0, .int .i64 0, .int .i64 0, .slice none 0 0, .slice none 0 0, .slice none 0 0] 104 from Z.out).row [.int .i64 c.minor, .int .i64 c.major, .slice Ap c.pool.length kp, .int .i64 c.acc, .int .i64 c.this, .int .i64 c.sup,iv,fv,mv])
  generalize (w3.alloc (.cells #[.int .i64 0, .int .i64 0, .slice none 0 0, .int .i64 0, .int .i64 0, .int .i64 0, .slice none 0 0, .slice none 0 0, .slice none 0 0] 104)).setRow w3.heap.size #[.int .i64 c.minor, .int .i64 c.major, .slice Ap c.pool.length kp, .int .i64 c.acc, .int .i64 c.this, .int .i64 c.sup,iv,fv,mv]=w4 at*
  have HW4:=Lib.hid (HB3.out.trans (HB4.out.mono HB3.out.size))
  have X4:=Lib.hid (X.out.below HW4.out (by omega))
  have HBB:=Lib.hid (HB.out.trans (HW4.out.mono (by omega)))
  have x0:=X4.out.cell 0 rfl
  have x1:=X4.out.cell 1 rfl
  have x2:=X4.out.cell 2 rfl
  have x3:=X4.out.cell 3 rfl
  have x4:=X4.out.cell 4 rfl
  have z0:=X4.out.frozen 0
  have z1:=X4.out.frozen 1
  have z2:=X4.out.frozen 2
  have z3:=X4.out.frozen 3
  have z4:=X4.out.frozen 4
  have HS4:=Lib.hid (HSL.out.keep (kept_any HB4.out))
  have y2:=Z4.out.cell 2 rfl
  refine go_on ?_
  by_cases hr:1≤n∧n≤c.pool.length
  ·rw [if_pos hr] at HOC
   obtain⟨m,rfl⟩: ∃m:Nat,n=(m:Int)+1:=⟨(n - 1).toNat,by omega⟩
   obtain⟨k,hk⟩: ∃k,c.pool[m]?=some k:=⟨_,List.getElem?_eq_getElem (by omega)⟩
   rw [show((m:Int)+1 - 1).toNat=m by omega,hk] at HOC
   obtain⟨b,o,rfl,g1,a0,a1,a2,a3,a4⟩:=pool_cells HS4.out m k hk
   obtain⟨kt,kx,kn,ka,kb⟩:=k
   have hml':m<c.pool.length:=by omega
   have k1:decide ((m:Int)+1<1)=false:=by simp<;>omega
   have k2:decide ((m:Int)+1> (c.pool.length:Int))=false:=by simp<;>omega
   clear hk hr
   go_wp2_with fail
   refine bodyPost_ret (results_two_cell rfl rfl rfl (bx_five X4.out _ _ _ _ _) Tryz.underlying81 rfl rfl) rfl ⟨by rw [←HOC.out];rfl,below_five HBB.out (Nat.le_refl _) _ _ _ _ _⟩
  ·rw [if_neg hr] at HOC
   have hd:decide (n<1)=true∨decide (n<1)=false∧decide (n> (c.pool.length:Int))=true:=by simp;omega
   rcases hd with hd| ⟨hd,hd2⟩
   all_goals
    go_wp2_with fail
    refine bodyPost_ret (results_two_cell rfl rfl rfl (bx_five X4.out _ _ _ _ _) Tryz.underlying81 rfl rfl) rfl ⟨by rw [←HOC.out];rfl,below_five HBB.out (Nat.le_refl _) _ _ _ _ _⟩
theorem kept_refl (ok:Nat→Prop) (W:World):Kept ok W W:=Kept.of_below (Below.refl _ _)
theorem LdG.lessEx {B:Nat} {L:LPos} {X:Nat} {nd:Nat} {defs:List UInt8→Option (List UInt8)} {files:List UInt8→Option ClassV} {ks going:List (List UInt8)} {ts:List TyV} {v:Value} {W:World} (h:LdG B (L.at X) nd defs files ks going ts v W):LdG B L nd defs files ks going ts v W:=by
 have ho: ∀g,g<W.heap.size→(L.at X).ro v g→L.ro v g:=fun g _ hr=> ⟨hr.1,hr.2.1,hr.2.2.1,hr.2.2.2.1,hr.2.2.2.2.1,hr.2.2.2.2.2.1,fun hm=>hr.2.2.2.2.2.2 (List.mem_cons_of_mem _ hm)⟩
 obtain⟨fd,d1,d2⟩:=h.hd
 obtain⟨ff,n1,f0,f1,f2⟩:=h.hf
 exact⟨h.c0,h.c1,h.c2,h.c3,h.c4,h.fz,⟨fd,d1,fun s=> (d2 s).keep (kept_refl _ _) ho⟩,⟨ff,n1,f0,f1,fun s=> (f2 s).keep (kept_refl _ _) ho⟩,h.hk,h.hg,h.ty,fun t ht=> (h.rd t ht).keep (kept_refl _ _) ho,h.ord,h.new,h.lt,fun x hx=>h.exl x (List.mem_cons_of_mem _ hx),fun g hg hx=>h.newx g hg (List.mem_cons_of_mem _ hx),fun x hx=>h.nex x (List.mem_cons_of_mem _ hx)⟩
theorem At1.lessEx {B:Nat} {L:LPos} {X:Nat} {v:Value} {σ:St} {W:World} (h:At1 B (L.at X) v σ W):At1 B L v σ W:=by
 obtain⟨ts,a1,a2,a3⟩:=h.all
 exact⟨⟨ts,a1,a2.lessEx,a3⟩,h.dom,h.len,h.le⟩
def Out (p:WPos) (L:LPos) (v:Value) (x:WSt) (g:Nat):Prop:=L.frp v g∧(g≠p.wb∧g≠p.pm∧g≠p.sm)∧ ∀s q,x.pl s=some q→g≠q.g∧g≠q.m
structure WFr (B:Nat) (p:WPos) (L:LPos) (v:Value) (x:WSt) (W:World) (L':LPos) (v':Value) (x':WSt) (W':World):Prop where
 bel:Below B W W'
 out: ∀g,g<W.heap.size→Out p L v x g→Out p L' v' x' g∧W'.heap[g]?=W.heap[g]?
theorem WFr.trans {B:Nat} {p:WPos} {L L1 L2:LPos} {v v1 v2:Value} {x x1 x2:WSt} {W W1 W2:World} (h:WFr B p L v x W L1 v1 x1 W1) (k:WFr B p L1 v1 x1 W1 L2 v2 x2 W2):WFr B p L v x W L2 v2 x2 W2:=
 ⟨h.bel.trans k.bel,fun g hg ho=>by
  obtain⟨h1,h2⟩:=h.out g hg ho
  obtain⟨h3,h4⟩:=k.out g (Nat.lt_of_lt_of_le hg h.bel.size) h1
  exact⟨h3,h4.trans h2⟩⟩
theorem WFr.of_below {B:Nat} {p:WPos} {L:LPos} {v:Value} {x:WSt} {W W':World} (hB:B≤W.heap.size) (h:Below W.heap.size W W'):WFr B p L v x W L v x W':=⟨h.mono hB,fun g hg ho=> ⟨ho,h.block g hg⟩⟩
theorem WFr.bx {B:Nat} {p:WPos} {L L':LPos} {v v':Value} {x x':WSt} {W W':World} (h:WFr B p L v x W L' v' x' W') {g:Nat} {vs:List Value} {t:TypeId} (hb:Bx W g vs t) (ho:Out p L v x g):Bx W' g vs t:=(h.out g hb.lt ho).2.trans hb
section
variable {B:Nat} {p:WPos} {L:LPos} {v:Value} {x:WSt} {k N T:Nat} {W W':World}
theorem WdK.outNew (h:WdK B p L v x k N T W) {g:Nat} (hg:W.heap.size≤g):Out p L v x g:=by
 obtain⟨ts,a1,a2,a3⟩:=h.ld.all
 have ho:=a2.ord
 have hl:=a2.lt
 have h1:=h.wlt
 have h2:=h.plt
 have h3:=h.slt
 exact⟨⟨by omega,by omega,by omega,by omega,by omega,fun e=>by have:=(a2.ty.lt g e).2;omega⟩,⟨by omega,by omega,by omega⟩,fun s q hq=>by have:=(h.ea s q hq).glt;have:=(h.ea s q hq).mlt;omega⟩
theorem WdK.fr_but (h:WdK B p L v x k N T W) (S:List Nat) (hS: ∀g∈S, ¬Out p L v x g) (hlo: ∀g∈S,B≤g) (hb:But W.heap.size S W W'):WFr B p L v x W L v x W':=
 ⟨(hb.mono (S':= []) h.Ble (fun g hg hm=>by have:=hlo g hm;omega)).below,fun g hg ho=> ⟨ho,hb.block g hg (fun hm=>hS g hm ho)⟩⟩
theorem WdK.ands (h:WdK B p L v x k N T W) (hb:Below W.heap.size W W') (xs:List Nat) (h1: ∀y∈xs,W.heap.size≤y) (h2: ∀y∈xs,y<W'.heap.size):WdK B p (L.and xs) v x k N T W':=
 h.turn (h.ld.and (But.of_below hb) xs h1 h2) h.ok rfl (fun g hg=>List.mem_append_right _ hg) (hb.mono h.Ble) (fun g hg=>hb.block g (h.exlt hg))
theorem WdK.side (h:WdK B p L v x k N T W) (S:List Nat) (hS: ∀g∈S,g∈L.ex∧Out p L v x g∧B≤g) (hb:But W.heap.size S W W'):WdK B p L v x k N T W':=by
 have hl:=h.ld.and (hb.mono (Nat.le_refl _) fun g _ hg=> (hS g hg).1) [] (by simp) (by simp)
 have hbB:Below B W W':=(hb.mono (S':= []) h.Ble (fun g hg hm=>by have:=(hS g hm).2.2;omega)).below
 obtain⟨F,n,s1,s2⟩:=h.st
 obtain⟨F2,n2,t1,t2,t3⟩:=h.pl
 exact⟨hl,h.ok,(hb.block _ h.wlt (fun hm=> (hS _ hm).2.1.2.1.1 rfl)).trans h.bx,⟨F,n,s1,s2.keep (hb.block _ s2.lt (fun hm=> (hS _ hm).2.1.2.1.2.2 rfl))⟩,⟨F2,n2,t1,t2.keep (hb.block _ t2.lt (fun hm=> (hS _ hm).2.1.2.1.2.1 rfl)),t3⟩,fun s q hq=> (h.ea s q hq).keep (hb.block _ (h.ea s q hq).glt (fun hm=> ((hS _ hm).2.1.2.2 s q hq).1 rfl)) (hb.block _ (h.ea s q hq).mlt (fun hm=> ((hS _ hm).2.1.2.2 s q hq).2 rfl)),h.ap,h.ne,h.gm,h.ex,h.lo,h.B0,h.glt hbB⟩
def entAt (x:WSt) (s:List UInt8) (n:Int):EntV:=((x.pl s).bind fun q=>q.f n).getD ent0
theorem zPool (W:World):(zeroValue 84).run Tryz.prog W= .ok (.pointer none) W:=by kernel_rfl
theorem WdK.look (h:WdK B p L v x k N T W) {s:ByteArray} (hs:s.size≤maxLen):(Instr.lookup 45 (.map (some p.pm)) (.string s) true).run Tryz.prog W= .ok (.tuple #[((x.pl s.data.toList).map fun q=>Value.pointer (some ⟨q.g,0,none⟩)).getD (.pointer none), .bool (x.pl s.data.toList).isSome]) W:=by
 obtain⟨F,n,h1,h2,h3⟩:=h.pl
 rw [run_lookK (string_keyed Tryz.underlying9) Tryz.underlying45 (zPool W) h2 (Go.WideMaps.keyOf_string_mk Tryz.underlying9 hs),h3]
 cases x.pl s.data.toList<;>rfl
theorem wentry_any (h:WdK B p L v x k N T W) (s:ByteArray) (hs:s.size≤maxLen) (n:Int) (hn:I64 n):
  Calls Tryz.prog 11 #[.pointer (some ⟨p.wb,0,none⟩), .string s, .int .i64 n] W fun e w'=>e= .returned (.agg #[.int .i64 (entAt x s.data.toList n).st, .string (entAt x s.data.toList n).err])∧Below W.heap.size W w':=by
 have HB:=Lib.hid ((Below.refl W.heap.size W).alloc (Nat.le_refl _) (.cells #[.int .i64 0, .string ⟨#[]⟩] 54))
 have X:=Lib.hid (bx_new W [.int .i64 0, .string ⟨#[]⟩] 54)
 have h1:=h.below HB.out
 have hlk:=h1.look hs
 have c2:=h1.bx.cell 2 rfl
 have hwl:=h.wlt
 rcases hq:x.pl s.data.toList with _|q
 ·rw [hq] at hlk
  have he:entAt x s.data.toList n=ent0:=by unfold entAt;rw [hq];rfl
  rw [he]
  have x0:=X.out.cell 0 rfl
  have x1:=X.out.cell 1 rfl
  have z0:=X.out.frozen 0
  have z1:=X.out.frozen 1
  clear h h1 he hq
  go_enter Tryz.func11,Tryz.ntmps11
  go_wp2_with fail
  refine bodyPost_ret (results_row rfl rfl X.out Tryz.underlying54 rfl rfl) rfl ⟨rfl,HB.out⟩
 ·rw [hq] at hlk
  have HS:=Lib.hid (state_any (h1.ea _ q hq) n hn)
  have he:entAt x s.data.toList n=(q.f n).getD ent0:=by unfold entAt;rw [hq];rfl
  rw [he]
  clear h h1 he hq
  go_enter Tryz.func11,Tryz.ntmps11
  go_wp2_with (go_at_call 27;refine HS.out.mono ?_;rintro e w3 ⟨rfl,hb3⟩;refine stop_here ?_)
  have X3:=Lib.hid (X.out.below hb3 (by simp))
  have HB3:=Lib.hid (HB.out.trans (hb3.mono HB.out.size))
  have x0:=X3.out.cell 0 rfl
  have x1:=X3.out.cell 1 rfl
  have z0:=X3.out.frozen 0
  have z1:=X3.out.frozen 1
  clear hb3
  refine go_on ?_
  go_wp2_with fail
  refine bodyPost_ret (results_row rfl rfl (bx_two X3.out _ _) Tryz.underlying54 rfl rfl) rfl ⟨rfl,below_two HB3.out (Nat.le_refl _) _ _⟩
theorem wtarget_any (h:WdK B p L v x k N T W) (s:ByteArray) (hs:s.size≤maxLen) (n:Int) (hn:I64 n):
  Calls Tryz.prog 12 #[.pointer (some ⟨p.wb,0,none⟩), .string s, .int .i64 n] W fun e w'=>e= .returned (.tuple #[.agg #[.string (entAt x s.data.toList n).tgt.cls, .int .i64 (entAt x s.data.toList n).tgt.at_], .bool ((entAt x s.data.toList n).st==1)])∧Below W.heap.size W w':=by
 have HB:=Lib.hid ((Below.refl W.heap.size W).alloc (Nat.le_refl _) (.cells #[.string ⟨#[]⟩, .int .i64 0] 37))
 have X:=Lib.hid (bx_new W [.string ⟨#[]⟩, .int .i64 0] 37)
 have h1:=h.below HB.out
 have hlk:=h1.look hs
 have c2:=h1.bx.cell 2 rfl
 have hwl:=h.wlt
 rcases hq:x.pl s.data.toList with _|q
 ·rw [hq] at hlk
  have he:entAt x s.data.toList n=ent0:=by unfold entAt;rw [hq];rfl
  rw [he]
  have x0:=X.out.cell 0 rfl
  have x1:=X.out.cell 1 rfl
  have z0:=X.out.frozen 0
  have z1:=X.out.frozen 1
  clear h h1 he hq
  go_enter Tryz.func12,Tryz.ntmps12
  go_wp2_with fail
  refine bodyPost_ret (results_two_cell rfl rfl rfl X.out Tryz.underlying37 rfl rfl) rfl ⟨rfl,HB.out⟩
 ·rw [hq] at hlk
  have HS:=Lib.hid (target_any (h1.ea _ q hq) n hn)
  have he:entAt x s.data.toList n=(q.f n).getD ent0:=by unfold entAt;rw [hq];rfl
  rw [he]
  obtain⟨st1,hst1⟩: ∃b:Bool,(((q.f n).getD ent0).st==1)=b:=⟨_,rfl⟩
  rw [hst1] at HS⊢
  clear h h1 he hq hst1
  go_enter Tryz.func12,Tryz.ntmps12
  go_wp2_with (go_at_call 33;refine HS.out.mono ?_;rintro e w3 ⟨rfl,hb3⟩;refine stop_here ?_)
  have X3:=Lib.hid (X.out.below hb3 (by simp))
  have HB3:=Lib.hid (HB.out.trans (hb3.mono HB.out.size))
  have x0:=X3.out.cell 0 rfl
  have x1:=X3.out.cell 1 rfl
  have z0:=X3.out.frozen 0
  have z1:=X3.out.frozen 1
  clear hb3
  refine go_on ?_
  go_wp2_with fail
  refine bodyPost_ret (results_two_cell rfl rfl rfl (bx_two X3.out _ _) Tryz.underlying37 rfl rfl) rfl ⟨rfl,below_two HB3.out (Nat.le_refl _) _ _⟩
structure Grow (x x':WSt) (s:List UInt8):Prop where
 st:x'.σ=x.σ
 ot: ∀y,y≠s→x'.pl y=x.pl y
def LLe (L L':LPos):Prop:=L'.lb=L.lb∧ ∀g∈L.ex,g∈L'.ex
theorem LLe.refl (L:LPos):LLe L L:=⟨rfl,fun _ h=>h⟩
theorem LLe.trans {L L1 L2:LPos} (h:LLe L L1) (k:LLe L1 L2):LLe L L2:=⟨k.1.trans h.1,fun g hg=>k.2 g (h.2 g hg)⟩
theorem LLe.and (L:LPos) (xs:List Nat):LLe L (L.and xs):=⟨rfl,fun _ h=>List.mem_append_right _ h⟩
theorem wentries_any (h:WdK B p L v x k N T W) (s:ByteArray) (hs:s.size≤1048576) (hnm:s.data.toList∈x.σ.ts.map (·.1)) (hT:T<1048576):
  Calls Tryz.prog 26 #[.pointer (some ⟨p.wb,0,none⟩), .string s] W fun e w'=> ∃q L' x',e= .returned (.pointer (some ⟨q.g,0,none⟩))∧LLe L L'∧WdK B p L' v x' k N (T+1) w'∧Grow x x' s.data.toList∧x'.pl s.data.toList=some q∧(∀n,((x'.pl s.data.toList).bind fun q=>q.f n)=(x.pl s.data.toList).bind fun q=>q.f n)∧(∀q0,x.pl s.data.toList=some q0→q0=q)∧WFr B p L v x W L' v x' w':=by
 have hlk:=h.look (s:=s) (by unfold maxLen;omega)
 have c0:=h.bx.cell 0 rfl
 have c2:=h.bx.cell 2 rfl
 have hB:=h.Ble
 rcases hq:x.pl s.data.toList with _|q
 rotate_left
 ·rw [hq] at hlk
  have H:=Lib.hid h
  have HQ:=Lib.hid hq
  clear h hq hnm
  go_enter Tryz.func26,Tryz.ntmps26
  go_wp2_with fail
  go_ret
  have h1:=H.out
  refine⟨q,L,x,rfl,LLe.refl L, ?_,⟨rfl,fun _ _=>rfl⟩,HQ.out,fun n=>by rw [HQ.out],fun q0 h0=>by(injection h0 with h0;exact h0.symm),⟨Below.refl _ _,fun g hg ho=> ⟨ho,rfl⟩⟩⟩
  obtain⟨F,n,t1,t2⟩:=h1.pl
  exact{ h1 with pl:=⟨F,n,by omega,t2⟩,ea:=fun y r hr=> (h1.ea y r hr).more (Nat.le_succ T) }
 ·rw [hq] at hlk
  have hpl:plen x.σ.F s.data.toList≤1024:=by
   unfold plen
   rcases hf:x.σ.F s.data.toList with _|c
   ·simp
   ·exact(h.ok.fok _ c hf).len
  have HP:=Lib.hid (fun W=>pnew_any (plen x.σ.F s.data.toList) hpl W)
  have H:=Lib.hid h
  have HQ:=Lib.hid hq
  have HNM:=Lib.hid hnm
  -- what Raw answers
  have HR:Hid (Calls Tryz.prog 46 #[.pointer (some ⟨L.lb,0,none⟩), .string s] W fun e w'=> ∃(a0 a1 a3 a4 a5 a6 a7 a8:Value) (A:Option Addr) (c:Nat) (b:Bool),e= .returned (.tuple #[.agg #[a0,a1, .slice A (plen x.σ.F s.data.toList) c,a3,a4,a5,a6,a7,a8], .bool b])∧ #[a0,a1, .slice A (plen x.σ.F s.data.toList) c,a3,a4,a5,a6,a7,a8].all (·.oneCell')=true∧Below W.heap.size W w'):=by
   rcases hf:x.σ.F s.data.toList with _|c
   ·have e0:plen x.σ.F s.data.toList=0:=by unfold plen;rw [hf];rfl
    rw [e0]
    refine Lib.hid ((raw_none h.ld s hs hf).mono ?_)
    rintro e w' ⟨rfl,hb⟩
    exact⟨_,_,_,_,_,_,_,_,none,0,false,rfl,by simp [Value.oneCell'],hb⟩
   ·have e0:plen x.σ.F s.data.toList=c.pool.length:=by unfold plen;rw [hf];rfl
    rw [e0]
    refine Lib.hid ((raw_some h.ld s hs hf).mono ?_)
    rintro e w' ⟨pv,iv,fv,mv,rfl,hsl,hone,hb⟩
    obtain⟨A,cp,rfl,_,_⟩:=sl_len hsl
    exact⟨_,_,_,_,_,_,_,_,A,cp,true,rfl,by simp [Value.oneCell'];exact⟨hone.1,hone.2.1,hone.2.2⟩,hb⟩
  obtain⟨pn,hpn⟩: ∃pn,plen x.σ.F s.data.toList=pn:=⟨_,rfl⟩
  rw [hpn] at HP HR hpl
  have HPN:=Lib.hid hpn
  clear h hq hnm hpn
  go_enter Tryz.func26,Tryz.ntmps26
  go_wp2_with (go_at_call 46;refine HR.out.mono ?_;rintro e w3 ⟨a0,a1,a3,a4,a5,a6,a7,a8,A,c,b,rfl,hon,hb3⟩;refine stop_here ?_)
  have Z:=Lib.hid (bx_new w3 zeroClass 104)
  unfold zeroClass at Z
  have HB3:=Lib.hid hb3
  have HON:=Lib.hid hon
  clear hb3 hon
  refine go_on ?_
  go_wp2_with (refine wpList_store_row rfl _ _ _ rfl w3.heap.size _ rfl rfl _ _ Z.out (by kernel_rfl) rfl HON.out ?_;refine stop_here ?_)
  have HB4:=Lib.hid (below_row ((Below.refl w3.heap.size w3).alloc (Nat.le_refl _) (.cells #[.int .i64 0, .int .i64 0, .slice none 0 0, .int .i64 0, .int .i64 0, .int .i64 0, .slice none 0 0, .slice none 0 0, .slice none 0 0] 104)) w3.heap.size #[a0,a1, .slice A pn c,a3,a4,a5,a6,a7,a8] (Nat.le_refl _))
  have Z4:=Lib.hid ((show Bx _ w3.heap.size [.int .i64 0, .int .i64 0, .slice none 0 0, .int .i64 0, .int .i64 0, .int .i64 0, .slice none 0 0, .slice none 0 0, .slice none 0 0] 104 from Z.out).row [a0,a1, .slice A pn c,a3,a4,a5,a6,a7,a8])
  generalize (w3.alloc (.cells #[.int .i64 0, .int .i64 0, .slice none 0 0, .int .i64 0, .int .i64 0, .int .i64 0, .slice none 0 0, .slice none 0 0, .slice none 0 0] 104)).setRow w3.heap.size #[a0,a1, .slice A pn c,a3,a4,a5,a6,a7,a8]=w4 at*
  have y2:=Z4.out.cell 2 rfl
  refine go_on ?_
  go_wp2_with (go_at_call 47;refine(HP.out w4).mono ?_;rintro e w5 ⟨q,rfl,hqn,hqf,hqg,hqm,hE,hb5⟩;refine stop_here ?_)
  have HW5:=Lib.hid (HB3.out.trans ((HB4.out.trans (hb5.mono HB4.out.size)).mono HB3.out.size))
  have hz4:=HB4.out.size
  have hz3:=HB3.out.size
  have h5:=H.out.below HW5.out
  obtain⟨F,n,t1,t2,t3⟩:=h5.pl
  obtain⟨w6,hput,hm6,hg6⟩:=t2.storeK (string_keyed Tryz.underlying9) Tryz.underlying45 (by unfold maxLen;omega) (Go.WideMaps.keyOf_string_mk Tryz.underlying9 (s:=s) (by unfold maxLen;omega)) (.pointer (some ⟨q.g,0,none⟩))
  have hF:F s.data.toList=none:=by rw [t3,HQ.out];rfl
  rw [hF] at hm6
  have hgm:q.g≠q.m:=fun e=>by
   obtain⟨F',c',_,⟨D,⟨es,cl,he,_⟩,_⟩,_⟩:=hE.mp
   have h0:=hE.c0
   rw [e] at h0
   unfold World.cell? at h0
   rw [he] at h0
   cases h0
  have HK:=Lib.hid (H.out.pool (W':=w6) HQ.out HNM.out (hqn.trans HPN.out.symm) hqf (by omega) (by omega) hgm hE HW5.out (F:=putF F s.data.toList (.pointer (some ⟨q.g,0,none⟩))) (n:=n+1) hm6 (by omega) (fun y=>by
   unfold putF putP
   split
   ·rfl
   ·exact t3 y) (but_grown hg6))
  have HFR:=Lib.hid (show WFr B p L v x W (L.and [q.g,q.m]) v ⟨x.σ,putP x.pl s.data.toList q⟩ w6 from⟨HW5.out.mono hB|>.trans ((but_grown hg6).mono (S':= []) (B':=B) (by have:=HW5.out.size;omega) (fun g hg hm=>by simp at hm;have:=H.out.lo.2.1;omega)).below,fun g hg ho=>by
   refine⟨⟨ho.1,ho.2.1,fun y r hr=> ?_⟩, ?_⟩
   ·rcases putP_cases hr with⟨_,rfl⟩ | ⟨_,hr⟩
    ·omega
    ·exact ho.2.2 y r hr
   ·rw [(but_grown hg6).block g (by have:=HW5.out.size;omega) (by simp;exact ho.2.1.2.1)]
    exact HW5.out.block g hg⟩)
  have c2':=h5.bx.cell 2 rfl
  have hz5:=HW5.out.size
  have HQF:=Lib.hid hqf
  clear hE hb5 t2 t3 hm6 hg6 h5 hF hqf hqn y2
  refine go_on ?_
  go_wp2_with fail
  go_ret
  refine⟨q,L.and [q.g,q.m],⟨x.σ,putP x.pl s.data.toList q⟩,rfl,LLe.and L _,HK.out,⟨rfl,fun y hy=> ?_⟩, ?_,fun n=> ?_,fun q0 h0=> (by cases h0),HFR.out⟩
  ·show putP x.pl s.data.toList q y=_
   unfold putP
   rw [if_neg hy]
  ·show putP x.pl s.data.toList q s.data.toList=_
   unfold putP
   rw [if_pos rfl]
  ·show((putP x.pl s.data.toList q s.data.toList).bind fun q=>q.f n)=_
   unfold putP
   rw [if_pos rfl]
   show q.f n=none
   rw [HQF.out]
end
structure VluV where
 ref:Bool
 num:Int
def VluV.cells (x:VluV):List Value:= [.bool x.ref, .int .i64 x.num]
def valC (l:List VluV):List Value:=l.flatMap VluV.cells
theorem valC_snoc (l:List VluV) (x:VluV):valC (l++ [x])=valC l++ [.bool x.ref, .int .i64 x.num]:=by simp [valC,VluV.cells]
theorem info_val:(Tryz.prog.info? 39).map (fun i=> (i.zero,i.size,i.bytes))=some (some (.agg #[.bool false, .int .i64 0]),2,16):=by kernel_rfl
theorem zero_any (s:ByteArray) (w:World):Calls Tryz.prog 44 #[.string s] w fun e w'=> (∃b,e= .returned (.agg #[.bool b, .int .i64 0]))∧Below w.heap.size w w':=by
 go_enter Tryz.func44,Tryz.ntmps44
 go_wp2_with fail
 refine bodyPost_ret (results_row rfl rfl (bx_new w _ _) Tryz.underlying39 rfl rfl) rfl ⟨⟨_,rfl⟩,(Below.refl w.heap.size w).alloc (Nat.le_refl _) _⟩
def St1P (W:World) (e:Ending) (w':World):Prop:= ∃g x y,e= .returned (.slice (some ⟨g,0,none⟩) 1 1)∧w'.cell? ⟨g,0,none⟩=some (.bool x)∧w'.cell? ⟨g,1,none⟩=some (.int .i64 y)∧W.heap.size≤g∧g<w'.heap.size∧Below W.heap.size W w'
theorem st1_new {W w3:World} {g:Nat} {x:Bool} {y:Int} {t:TypeId} (hb:Below W.heap.size W w3) (hg:g=w3.heap.size):St1P W (.returned (.slice (some ⟨g,0,none⟩) 1 1)) (w3.alloc (.cells #[.bool x, .int .i64 y] t)):=by
 subst hg
 exact⟨_,x,y,rfl,(bx_new w3 [.bool x, .int .i64 y] t).cell 0 rfl,(bx_new w3 [.bool x, .int .i64 y] t).cell 1 rfl,hb.size,by simp,hb.alloc hb.size _⟩
theorem st1_any (b:Nat) (t:TyV) (W:World) (h:Bx W b t.cells 75) (hf:SlAt W anyB 5 t.fl.length t.fCells t.flds) (i:Nat) (hi:i<t.fl.length):
  Calls Tryz.prog 43 #[.int .i64 i, .pointer (some ⟨b,0,none⟩)] W (St1P W):=by
 obtain⟨A,cap,hv,hcap,hn⟩:=sl_len hf
 obtain⟨x,hx⟩: ∃x,t.fl[i]?=some x:=⟨_,List.getElem?_eq_getElem hi⟩
 have c4:=h.cell 4 rfl
 rw [hv] at c4 hf
 obtain⟨bb,o,rfl,g1,a0,a1,a2,a3,a4⟩:=mrow_cells hf i x hx
 have hblt:=h.lt
 have X:=Lib.hid (bx_new W [.int .i64 x.acc, .string x.name, .string x.desc, .bool x.has, .int .i64 x.value] 128)
 have HB:=Lib.hid ((Below.refl W.heap.size W).alloc (Nat.le_refl _) (.cells #[.int .i64 x.acc, .string x.name, .string x.desc, .bool x.has, .int .i64 x.value] 128))
 have x0:=X.out.cell 0 rfl
 have x2:=X.out.cell 2 rfl
 have x3:=X.out.cell 3 rfl
 have x4:=X.out.cell 4 rfl
 obtain⟨xa,xn,xd,xh,xv⟩:=x
 obtain⟨p,hp⟩: ∃p,(bits .and .i64 xa 8==0)=p:=⟨_,rfl⟩
 have HZ:=Lib.hid (zero_any xd)
 clear hf hx h hv
 go_enter Tryz.func43,Tryz.ntmps43
 cases p<;>cases xh
 all_goals
  go_wp2_with (go_at_call 44;refine(HZ.out _).mono ?_;rintro e w3 ⟨⟨zb,rfl⟩,hb3⟩)
 all_goals
  go_ret
  refine st1_new ?_ (by first|rfl|simp)
  first|exact HB.out|exact HB.out.trans (hb3.mono HB.out.size)
theorem sput1_any (B n oc g:Nat) (v:Value) (xs:List Value) (a:Bool) (b:Int) (W:World) (hO:W.ownsRow B 39 2 v n xs) (hn:n≤1048576) (hB:B≤W.heap.size) (ho:oc<B) (co:W.cell? ⟨oc,0,none⟩=some v) (fo:W.frozen? ⟨oc,0,none⟩=false) (ca:W.cell? ⟨g,0,none⟩=some (.bool a)) (cb:W.cell? ⟨g,1,none⟩=some (.int .i64 b)):
  Calls Tryz.prog 75 #[.slice (some ⟨g,0,none⟩) 1 1, .pointer (some ⟨oc,0,none⟩)] W fun e w'=>e= .returned (.tuple #[])∧ ∃v',w'.ownsRow B 39 2 v' (n+1) (xs++ [.bool a, .int .i64 b])∧w'.cell? ⟨oc,0,none⟩=some v'∧w'.frozen? ⟨oc,0,none⟩=false∧ ∀B',B'≤oc→Below B' W w':=by
 have HO:=Lib.hid hO
 have hlt:=cells_lt co
 obtain⟨A,q,rfl,hq⟩:=own_cap hO
 clear hO
 go_enter Tryz.func75,Tryz.ntmps75
 go_wp2_with (at_builtin;refine stop_here ?_)
 refine go_on ?_
 have hcs: ∀j u, [Value.bool a, .int .i64 b][j]?=some u→W.cell? ((⟨g,0,none⟩:Addr).add j)=some u:=fun j u hj=>by
  match j,hj with
  |0,hj=>cases hj;exact ca
  |1,hj=>cases hj;exact cb
 refine wpl_append (news:= [.bool a, .int .i64 b]) rfl _ _ 76 rfl Tryz.underlying76 info_val rfl (by omega) B rfl HO.out rfl rfl hcs (by simp [Value.oneCell']) (by simp only [maxLen];omega) (by omega) hB ?_
 intro v' w1 ho1 hg1 hb1
 have c1:=(hb1.cell (p:=⟨oc,0,none⟩) ho).trans co
 have f1:=(hb1.frozen (p:=⟨oc,0,none⟩) ho).trans fo
 have H1:=Lib.hid ho1
 have B1:=Lib.hid hb1
 obtain⟨A',q',rfl,hq'⟩:=own_cap ho1
 clear ho1 hg1 hb1 ca cb
 go_wp2_with fail
 go_end0
 exact⟨rfl,_,own_heap H1.out (fun q hq=>Below.heap_setCell _ _ _ _ (by have:=(H1.out.lt q hq).1;show q≠oc;omega)),World.cell?_setCell_same' _ _ _ (by rw [c1];rfl),by rw [World.frozen?_setCell];exact f1,fun B' hB'=> (B1.out.mono (by omega)).setCell (p:=⟨oc,0,none⟩) hB' _⟩
structure VRow (w w':World) (v:Value) (n:Nat):Prop where
 sl: ∃vs:List VluV,vs.length=n∧SlAt w' (fun g=>w.heap.size≤g) 2 n (valC vs) v
 bel:Below w.heap.size w w'
theorem gathered_any (b:Nat) (t:TyV) (w:World) (h:Bx w b t.cells 75) (hf:SlAt w anyB 5 t.fl.length t.fCells t.flds):
  Calls Tryz.prog 42 #[.int .i64 t.fl.length, .func (.func 43) #[] #[.pointer (some ⟨b,0,none⟩)]] w fun e w'=> ∃v,e= .returned v∧VRow w w' v t.fl.length:=by
 obtain⟨A,cap,hv,hcap,hn⟩:=sl_len hf
 have HS:=Lib.hid (fun W (hb:Below w.heap.size w W) i hi=>st1_any b t W (h.below hb h.lt) (hf.keep (kept_any hb)) i hi)
 have HB0:=Lib.hid ((Below.refl w.heap.size w).alloc (Nat.le_refl _) (.cells #[.slice none 0 0] 76))
 have X0:=Lib.hid (bx_new w [.slice none 0 0] 76)
 have hz0:(w.alloc (.cells #[.slice none 0 0] 76)).heap.size=w.heap.size+1:=by simp
 clear h hf hv
 go_enter Tryz.func42,Tryz.ntmps42
 go_wp2_with fail
 generalize w.alloc (.cells #[.slice none 0 0] 76)=w1 at*
 go_loopw [10] (fun kv wr=> ∃(k:Nat) (v:Value) (vs:List VluV),kv= .int .i64 k∧k≤t.fl.length∧vs.length=k∧Hid (wr.ownsRow (w.heap.size+1) 39 2 v k (valC vs))∧Hid (wr.cell? ⟨w.heap.size,0,none⟩=some v∧wr.frozen? ⟨w.heap.size,0,none⟩=false)∧Hid (Below w.heap.size w wr)∧w.heap.size+1≤wr.heap.size) (fun kv wr=>t.fl.length - (RowKit.intOf kv).toNat)
 case atStart=>exact⟨0,_, [],rfl,by omega,rfl,Lib.hid (World.ownsRow_nil _ _ _ _),Lib.hid ⟨X0.out.cell 0 rfl,X0.out.frozen 0⟩,HB0,by omega⟩
 case round=>
  obtain⟨k,v,vs,rfl,hk,hvs,HO,HC,HB,hzr⟩:=hrel
  by_cases hlt:k<t.fl.length
  ·have HSr:=Lib.hid (HS.out wr HB.out k hlt)
   go_wp2_with (go_at_call 43;refine HSr.out.mono ?_;rintro e w3 ⟨g,x,y,rfl,c0,c1,hg,hgl,hb3⟩;refine stop_here ?_)
   have HP:=Lib.hid (sput1_any (w.heap.size+1) k w.heap.size g v (valC vs) x y w3 (own_heap HO.out fun q hq=>hb3.block q (HO.out.lt q hq).2) (by omega) (Nat.le_trans hzr hb3.size) (by omega) ((hb3.cell (p:=⟨w.heap.size,0,none⟩) (show w.heap.size<wr.heap.size by omega)).trans HC.out.1) ((hb3.frozen (p:=⟨w.heap.size,0,none⟩) (show w.heap.size<wr.heap.size by omega)).trans HC.out.2) c0 c1)
   have HB3:=Lib.hid (HB.out.trans (hb3.mono (by omega)))
   have hz3:=hb3.size
   clear c0 c1 hb3 HSr
   refine go_on ?_
   go_wp2_with (go_at_call 75;refine HP.out.mono ?_;rintro e w4 ⟨rfl,v',ho4,hc4,hf4,hb5⟩;refine stop_here ?_)
   have HO4:=Lib.hid (own_eq ho4 (m:=k+1) rfl (ys:=valC (vs++ [⟨x,y⟩])) (by rw [valC_snoc]))
   have HC4:=Lib.hid (And.intro hc4 hf4)
   have hz5:=(hb5 w.heap.size (Nat.le_refl _)).size
   have HB4:=Lib.hid (HB3.out.trans (hb5 w.heap.size (Nat.le_refl _)))
   have hz4:w.heap.size+1≤w4.heap.size:=by omega
   clear ho4 hc4 hf4 hb5 HP
   refine go_on ?_
   go_wp2_with fail
   go_roundw
   case rel=>exact⟨k+1,v',vs++ [⟨x,y⟩],by go_num,by omega,by simp;omega,HO4,HC4,HB4,hz4⟩
   case measure=>simp [RowKit.intOf];omega
  ·obtain rfl:k=t.fl.length:=by omega
   have c0:=HC.out.1
   obtain⟨A',q',rfl,hq'⟩:=own_cap HO.out
   go_wp2_with fail
   go_ret
   exact⟨_,rfl,⟨vs,hvs,slAt_own HO.out _ (by omega) (by omega) fun g hg=>by have:=(HO.out.lt g hg).1;omega⟩,HB.out⟩
theorem statics_any (t:TyV) (w:World) (hf:SlAt w anyB 5 t.fl.length t.fCells t.flds):
  Calls Tryz.prog 23 #[.agg #[.string ⟨t.name.toArray⟩, .string ⟨t.sup.toArray⟩, .int .i64 t.acc,t.ifs,t.flds,t.mths]] w fun e w'=> ∃v,e= .returned v∧VRow w w' v t.fl.length:=by
 obtain⟨A,cap,hv,hcap,hn⟩:=sl_len hf
 have HB0:=Lib.hid ((Below.refl w.heap.size w).alloc (Nat.le_refl _) (.cells #[.string ⟨t.name.toArray⟩, .string ⟨t.sup.toArray⟩, .int .i64 t.acc,t.ifs,t.flds,t.mths] 75))
 have X0:=Lib.hid (bx_new w [.string ⟨t.name.toArray⟩, .string ⟨t.sup.toArray⟩, .int .i64 t.acc,t.ifs,t.flds,t.mths] 75)
 have HG:=Lib.hid (gathered_any w.heap.size t _ (show Bx _ w.heap.size t.cells 75 from X0.out) (hf.keep (kept_any HB0.out)))
 have c4:=X0.out.cell 4 rfl
 have hvv:t.flds.oneCell'=true:=by rw [hv];rfl
 rw [hv] at c4 HG HB0⊢
 clear hf hv hvv X0
 go_enter Tryz.func23,Tryz.ntmps23
 go_wp2_with (go_at_call 42;refine HG.out.mono ?_;rintro e w3 ⟨v,rfl,hvr⟩;refine stop_here ?_)
 have HV:=Lib.hid hvr
 obtain⟨vs,_,hsl⟩:=hvr.sl
 obtain⟨A3,q3,rfl,_,_⟩:=sl_len hsl
 clear hvr hsl
 refine go_on ?_
 go_wp2_with fail
 go_ret
 obtain⟨vs,hvs,hsl⟩:=HV.out.sl
 exact⟨_,rfl,⟨vs,hvs,hsl.mono fun q _ hq=>by simp at hq;omega⟩,HB0.out.trans (HV.out.bel.mono HB0.out.size)⟩
end Go.Proofs.YtpbnjakeielipaaGreatDoor
