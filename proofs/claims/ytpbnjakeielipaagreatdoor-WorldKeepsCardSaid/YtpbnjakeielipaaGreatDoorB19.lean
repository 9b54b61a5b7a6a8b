/-
  What the laws rest on, part 19: walks of the program's functions and plain laws. Conditions: none but those that each theorem names.
-/
import Derived.Test.YtpbnjakeielipaaGreatDoorB18
import Derived.Test.YtpbnjakeielipaaGreatDoorB06
import Derived.Test.YtpbnjakeielipaaGreatDoorB15
set_option linter.unusedSimpArgs false
set_option linter.unusedVariables false
set_option maxRecDepth 100000
set_option maxHeartbeats 4000000
namespace Go.Proofs.YtpbnjakeielipaaGreatDoor
open Go Go.RowKit Lib Go.Maps
def oomB:ByteArray:=⟨#[106,97,118,97,47,108,97,110,103,47,79,117,116,79,102,77,101,109,111,114,121,69,114,114,111,114]⟩
theorem hnew_any (most:Nat) (hm:most≤1000) (w:World):
  Calls Tryz.prog 17 #[.int .i64 most] w fun e w'=> ∃hb rb rv o,e= .returned (.tuple #[.pointer (some ⟨hb,0,none⟩), .int .i64 0])∧HpAt w.heap.size w' hb rb most rv [(o,oomB)]∧Below w.heap.size w w':=by
 have HH:=Lib.hid (fun(w':World) (h:w'=((w.alloc (.cells #[.slice none 0 0] 111)).alloc (.cells #[.int .i64 most, .iface 108 (.pointer (some ⟨w.heap.size,0,none⟩))] 115)).alloc (.cells #[.string oomB, .slice none 0 0] 121))=> (show HpAt w.heap.size w' (w.heap.size+1) w.heap.size most (.slice none 0 0) []∧Bx w' (w.heap.size+2) [.string oomB, .slice none 0 0] 121∧Below w.heap.size w w'∧w'.heap.size=w.heap.size+3 from by
  subst h
  have X1:=bx_new w [.slice none 0 0] 111
  have X2:=bx_new (w.alloc (.cells #[.slice none 0 0] 111)) [.int .i64 most, .iface 108 (.pointer (some ⟨w.heap.size,0,none⟩))] 115
  have X3:=bx_new ((w.alloc (.cells #[.slice none 0 0] 111)).alloc (.cells #[.int .i64 most, .iface 108 (.pointer (some ⟨w.heap.size,0,none⟩))] 115)) [.string oomB, .slice none 0 0] 121
  have B1:=(Below.refl w.heap.size w).alloc (Nat.le_refl _) (.cells #[.slice none 0 0] 111)
  have B2:=(Below.refl (w.heap.size+1) (w.alloc (.cells #[.slice none 0 0] 111))).alloc (by simp) (.cells #[.int .i64 most, .iface 108 (.pointer (some ⟨w.heap.size,0,none⟩))] 115)
  have B3:=(Below.refl (w.heap.size+2) ((w.alloc (.cells #[.slice none 0 0] 111)).alloc (.cells #[.int .i64 most, .iface 108 (.pointer (some ⟨w.heap.size,0,none⟩))] 115))).alloc (by simp) (.cells #[.string oomB, .slice none 0 0] 121)
  rw [show(w.alloc (.cells #[.slice none 0 0] 111)).heap.size=w.heap.size+1 by simp] at X2
  rw [show((w.alloc (.cells #[.slice none 0 0] 111)).alloc (.cells #[.int .i64 most, .iface 108 (.pointer (some ⟨w.heap.size,0,none⟩))] 115)).heap.size=w.heap.size+2 by simp] at X3
  exact⟨⟨X2.below B3 (by omega),(X1.below B2 (by omega)).below B3 (by omega),⟨rfl, .inl ⟨rfl,rfl⟩⟩,fun o ho=> (by cases ho),⟨by omega,by omega⟩,by simp⟩,X3,(B1.trans (B2.mono (by omega))).trans (B3.mono (by omega)),by simp⟩))
 have HA:=Lib.hid (fun w' (h:HpAt w.heap.size w' (w.heap.size+1) w.heap.size most (.slice none 0 0) []) (ho:Bx w' (w.heap.size+2) [.string oomB, .slice none 0 0] 121)=>add_any h (w.heap.size+2) oomB _ ho (by omega) (by simp))
 go_enter Tryz.func17,Tryz.ntmps17
 go_wp2_with (go_at_call 193;refine stop_here ?_)
 refine go_on ?_
 obtain⟨h1,h2,h3,h4⟩:=HH.out _ rfl
 refine(HA.out _ h1 h2).mono ?_
 rintro e w3 ⟨rfl,rv,hp,hb,_⟩
 have HP:=Lib.hid hp
 have HB:=Lib.hid (h3.trans hb)
 clear hp hb h1 h2 h3 h4 HH HA
 go_wp2_with fail
 go_ret2
 exact⟨_,_,rv,_,rfl,HP.out,HB.out⟩
theorem hmake_any {B:Nat} {W:World} {hb rb most:Nat} {rv:Value} {os:List (Nat×ByteArray)} (h:HpAt B W hb rb most rv os) (cls:ByteArray) (hm:most≤1000) (hl:os.length<1000000):
  Calls Tryz.prog 66 #[.pointer (some ⟨hb,0,none⟩), .string cls, .slice none 0 0] W fun e w'=>
   (((os.length:Int) - 1≥most∧e= .returned (.tuple #[.int .i64 0, .int .i64 42])∧Below W.heap.size W w')∨
   ((os.length:Int) - 1<most∧e= .returned (.tuple #[.int .i64 ((os.length:Int)+1), .int .i64 0])∧ ∃rv' o,HpAt B w' hb rb most rv' (os++ [(o,cls)])∧Below B W w'∧But W.heap.size (rb::rv.ownBlock.toList) W w')):=by
 have hBW:B≤W.heap.size:=Nat.le_trans h.lo.1 (Nat.le_of_lt h.hx.lt)
 have HC:=Lib.hid (fun W' (hb':Below W.heap.size W W')=>hpcount_any (h.below hb'))
 have HA:=Lib.hid (fun W' (hb':Below W.heap.size W W') ob (ho:Bx W' ob [.string cls, .slice none 0 0] 121) hB=>add_any (h.below hb') ob cls _ ho hB hl)
 have CN:=Lib.hid (fun W' (hb':Below W.heap.size W W')=> (⟨(h.below hb').hx.cell 0 rfl,(h.below hb').hx.cell 1 rfl⟩:W'.cell? ⟨hb,0,none⟩=some (.int .i64 most)∧W'.cell? ⟨hb,1,none⟩=some (.iface 108 (.pointer (some ⟨rb,0,none⟩)))))
 have BD:=Lib.hid ((Below.refl W.heap.size W).drew)
 have hhl:=h.hx.lt
 clear h
 go_enter Tryz.func66,Tryz.ntmps66
 go_wp2_with fail
 have c1:=(CN.out W (Below.refl _ _)).2
 go_region_held2 (fun w'=>w'.cell? ⟨hb,0,none⟩=some (.int .i64 most)∧w'.cell? ⟨hb,1,none⟩=some (.iface 108 (.pointer (some ⟨rb,0,none⟩)))) (first|exact CN.out _ BD.out) (first
  | (go_simp;go_at_call 195;refine(HC.out _ BD.out).mono ?_;rintro e w1 ⟨rfl,rfl⟩;dsimp only))
 by_cases hge:(most:Int)≤(os.length:Int) - 1
 ·rw [decide_eq_true hge]
  have HG:=Lib.hid hge
  clear hge c1
  go_wp2_with fail
  go_ret2
  exact .inl ⟨HG.out,rfl,BD.out⟩
 ·rw [decide_eq_false hge]
  have HG:=Lib.hid hge
  clear hge c1
  go_wp2_with fail
  have BDA:=Lib.hid ((((Below.refl W.heap.size W).alloc (Nat.le_refl _) (.cells #[.string cls, .slice none 0 0] 121)).drew).drew)
  have HX:=Lib.hid (show Bx (W.alloc (.cells #[.string cls, .slice none 0 0] 121)).drew.drew W.heap.size [.string cls, .slice none 0 0] 121 from(bx_new W [.string cls, .slice none 0 0] 121).below (((Below.refl (W.heap.size+1) (W.alloc (.cells #[.string cls, .slice none 0 0] 121))).drew).drew) (by omega))
  go_region_held2 (fun w'=>w'.cell? ⟨hb,0,none⟩=some (.int .i64 most)∧w'.cell? ⟨hb,1,none⟩=some (.iface 108 (.pointer (some ⟨rb,0,none⟩)))) (first|exact CE.out|exact CN.out _ BDA.out|exact CN.out _ BD.out|exact CN.out _ BD.out.drew) (first
   | (go_simp;go_at_call 193;refine(HA.out _ BDA.out _ HX.out hBW).mono ?_;rintro e w3 ⟨rfl,rv',hp,hb3,hbt⟩;have HPN:=Lib.hid hp;have CE:=Lib.hid (show w3.cell? ⟨hb,0,none⟩=some (.int .i64 most)∧w3.cell? ⟨hb,1,none⟩=some (.iface 108 (.pointer (some ⟨rb,0,none⟩))) from⟨hp.hx.cell 0 rfl,hp.hx.cell 1 rfl⟩);have HB3:=Lib.hid hb3;have HBT:=Lib.hid hbt;clear hp hb3 hbt;dsimp only))
  go_wp2_with fail
  go_ret2
  exact .inr ⟨by have:=HG.out;omega,rfl,rv',_,HPN.out,(BDA.out.mono hBW).trans HB3.out,(But.of_below BDA.out).trans (HBT.out.mono (by have:=BDA.out.size;omega) (fun _ _ h=>h))⟩
theorem hpat_any {B:Nat} {W:World} {hb rb most:Nat} {rv:Value} {os:List (Nat×ByteArray)} (h:HpAt B W hb rb most rv os) (j:Nat) (o:Nat×ByteArray) (hj:os[j]?=some o):
  Calls Tryz.prog 194 #[.pointer (some ⟨rb,0,none⟩), .int .i64 ((j:Int)+1)] W fun e w'=>e= .returned (.pointer (some ⟨o.1,0,none⟩))∧W=w':=by
 have hlt:j<os.length:=(List.getElem?_eq_some_iff.1 hj).1
 have hle:=h.le
 have hs:=slAt_own h.own anyB (by omega) h.le (fun _ _=>trivial)
 obtain⟨A,c,rfl,hc,_⟩:=sl_len hs
 obtain⟨A',c',e,_,_,_,h5⟩:=hs
 injection e with e1 _ _
 subst e1
 obtain⟨b,off,rfl,hbl,_,hcc⟩:=h5 (by omega)
 have a0:W.cell? ⟨b,off+j,none⟩=some (.pointer (some ⟨o.1,0,none⟩)):=by
  refine hcc j _ ?_
  unfold obsC
  rw [List.getElem?_map,hj]
  rfl
 have r0:=h.rx.cell 0 rfl
 have g1:(decide (((j:Int)+1) <1))=false:=by rw [decide_eq_false_iff_not];omega
 have g2:(decide ((os.length:Int) < (j:Int)+1))=false:=by rw [decide_eq_false_iff_not];omega
 have hlt':(j:Int) <os.length:=by omega
 clear h h5 hcc hj
 go_enter Tryz.func194,Tryz.ntmps194
 go_wp2_with fail
 go_ret
 exact⟨rfl,rfl⟩
theorem hclass_any {B:Nat} {W:World} {hb rb most:Nat} {rv:Value} {os:List (Nat×ByteArray)} (h:HpAt B W hb rb most rv os) (j:Nat) (o:Nat×ByteArray) (hj:os[j]?=some o):
  Calls Tryz.prog 37 #[.pointer (some ⟨hb,0,none⟩), .int .i64 ((j:Int)+1)] W fun e w'=>e= .returned (.string o.2)∧W=w':=by
 have HA:=Lib.hid (hpat_any h j o hj)
 have c1:=h.hx.cell 1 rfl
 obtain⟨_,s,ho⟩:=h.ob o (List.mem_of_getElem? hj)
 have o0:=ho.cell 0 rfl
 obtain⟨ob,oc⟩:=o
 clear h ho hj
 go_enter Tryz.func37,Tryz.ntmps37
 go_wp2_with (go_at_call 194;refine HA.out.mono ?_;rintro e w1 ⟨rfl,rfl⟩)
 go_ret
 exact⟨rfl,rfl⟩
end Go.Proofs.YtpbnjakeielipaaGreatDoor
set_option maxHeartbeats 1000000
namespace Go.Proofs.YtpbnjakeielipaaGreatDoor
open Go Go.RowKit Lib
theorem textAt_le {pool:List Ko} {n:Int} {s:ByteArray} (h:textAt pool n=some s) (ht: ∀k∈pool,k.text.size≤65536):s.size≤65536:=by
 unfold textAt at h
 rcases hk:kindAt pool n 1 with _|k
 ·rw [hk] at h
  cases h
 ·rw [hk] at h
  injection h with h
  subst h
  exact ht k (kindAt_mem hk).1
theorem constant_plain (c:ClassV) (p ifs flds mths:Value) (k:Ko) (hk:k.tag=1∨k.tag=3) (w:World):
  Calls Tryz.prog 127 #[bookV c p ifs flds mths,koV k] w fun e w'=>e= .returned (.int .i64 0)∧Below w.heap.size w w':=by
 obtain⟨tag,tx,nu,a,b⟩:=k
 simp only at hk
 rw [bookV_open]
 simp only [koV]
 have HW:=Lib.hid (((Below.refl w.heap.size w).alloc (Nat.le_refl _) (.cells #[.int .i64 c.minor, .int .i64 c.major,p, .int .i64 c.acc, .int .i64 c.this, .int .i64 c.sup,ifs,flds,mths] 248)).alloc (by simp) (.cells #[.int .i64 tag, .string tx, .int .i64 nu, .int .i64 a, .int .i64 b] 81))
 rcases hk with rfl|rfl
 all_goals
  go_enter Tryz.func127,Tryz.ntmps127
  go_wp2
  go_ret
  exact⟨rfl,HW.out⟩
def classE (pool:List Ko) (a:Int):Int:=match textAt pool a with
 |none=>20
 |some s=>if classB s.data.toList then 0 else 21
theorem constant_seven (c:ClassV) (A:Option Addr) (cap:Nat) (ifs flds mths:Value) (ok:Nat→Prop) (tx:ByteArray) (nu a b:Int) (w:World) (h:BookOk w ok c A cap ifs flds mths) (hn:Fine a) (ht: ∀k∈c.pool,k.text.size≤65536):
  Calls Tryz.prog 127 #[bookV c (.slice A c.pool.length cap) ifs flds mths,koV ⟨7,tx,nu,a,b⟩] w fun e w'=>e= .returned (.int .i64 (classE c.pool a))∧Below w.heap.size w w':=by
 have HW0:=Lib.hid (((Below.refl w.heap.size w).alloc (Nat.le_refl _) (.cells #[.int .i64 c.minor, .int .i64 c.major, .slice A c.pool.length cap, .int .i64 c.acc, .int .i64 c.this, .int .i64 c.sup,ifs,flds,mths] 248)).alloc (by simp) (.cells #[.int .i64 7, .string tx, .int .i64 nu, .int .i64 a, .int .i64 b] 81))
 have H0:=Lib.hid (h.below HW0.out)
 have HN:=Lib.hid hn
 rcases hx:textAt c.pool a with _|s
 ·have HX:=Lib.hid hx
  have HP:=Lib.hid (show classE c.pool a=20 by unfold classE;rw [hx])
  clear h hn hx
  rw [bookV_open]
  simp only [koV]
  go_enter Tryz.func127,Tryz.ntmps127
  go_wp2_with (go_at_call 113;refine(text_book c A cap ifs flds mths a ok _ H0.out HN.out).mono ?_;rw [HX.out];rintro e w1 ⟨rfl,hb⟩;simp only [optV,Option.getD_none,Option.isSome_none];have HB:=Lib.hid hb;clear hb)
  go_ret
  exact⟨by rw [HP.out];rfl,HW0.out.trans (HB.out.mono (by simp;omega))⟩
 ·have hsz:=textAt_le hx ht
  have HX:=Lib.hid hx
  obtain⟨z,hz⟩: ∃z,classB s.data.toList=z:=⟨_,rfl⟩
  have HC:=Lib.hid fun W=>class_any s W (by omega)
  rw [hz] at HC
  have HP:=Lib.hid (show classE c.pool a=if z then 0 else 21 by unfold classE;rw [hx];simp only [hz])
  clear h hn hx hz
  rw [bookV_open]
  simp only [koV]
  cases z
  all_goals
   go_enter Tryz.func127,Tryz.ntmps127
   go_wp2_with (first| (go_at_call 113;refine(text_book c A cap ifs flds mths a ok _ H0.out HN.out).mono ?_;rw [HX.out];rintro e w1 ⟨rfl,hb⟩;simp only [optV,Option.getD_some,Option.isSome_some];have HB:=Lib.hid hb;clear hb) | (go_at_call 19;refine(HC.out _).mono ?_;rintro e w2 ⟨rfl,hb2⟩;have HB2:=Lib.hid hb2;clear hb2))
   go_ret
   exact⟨by rw [HP.out];rfl,(HW0.out.trans (HB.out.mono (by simp;omega))).trans (HB2.out.mono (by have:=HB.out.size;simp at this;omega))⟩
def namedAt (pool:List Ko) (n:Int):Option (ByteArray×ByteArray):=(kindAt pool n 12).bind fun k=> (textAt pool k.a).bind fun x=> (textAt pool k.b).map fun y=> (x,y)
def opt2V (o:Option (ByteArray×ByteArray)):Value:= .tuple #[.string ((o.map (·.1)).getD ⟨#[]⟩), .string ((o.map (·.2)).getD ⟨#[]⟩), .bool o.isSome]
theorem results_t3 {P:Program} {fn:Func} {tmps:Array Value} {a b c:Tmp} {x y z:Value} (hr:fn.results= #[.tmp a, .tmp b, .tmp c]) (ha:tmps.getD a undef=x) (hb:tmps.getD b undef=y) (hc:tmps.getD c undef=z) (w:World):(results fn tmps).run P w= .ok (.tuple #[x,y,z]) w:=by
 unfold results
 rw [hr]
 rw [Array.getD_eq_getD_getElem?] at ha hb hc
 simp [ha,hb,hc,Result.andThen]
theorem named_book (c:ClassV) (A:Option Addr) (cap:Nat) (ifs flds mths:Value) (n:Int) (ok:Nat→Prop) (w:World) (h:BookOk w ok c A cap ifs flds mths) (hn:Fine n) (hf: ∀k∈c.pool,Fine k.a∧Fine k.b):
  Calls Tryz.prog 169 #[bookV c (.slice A c.pool.length cap) ifs flds mths, .int .i64 n] w fun e w'=>e= .returned (opt2V (namedAt c.pool n))∧Below w.heap.size w w':=by
 have H:=Lib.hid (h.below ((Below.refl _ _).alloc (Nat.le_refl _) (.cells #[.int .i64 c.minor, .int .i64 c.major, .slice A c.pool.length cap, .int .i64 c.acc, .int .i64 c.this, .int .i64 c.sup,ifs,flds,mths] 248)))
 have X0:=Lib.hid (bx_new w [.int .i64 c.minor, .int .i64 c.major, .slice A c.pool.length cap, .int .i64 c.acc, .int .i64 c.this, .int .i64 c.sup,ifs,flds,mths] 248)
 have W0:=Lib.hid ((Below.refl w.heap.size w).alloc (Nat.le_refl _) (.cells #[.int .i64 c.minor, .int .i64 c.major, .slice A c.pool.length cap, .int .i64 c.acc, .int .i64 c.this, .int .i64 c.sup,ifs,flds,mths] 248))
 have HN:=Lib.hid hn
 have HF:=Lib.hid hf
 have HT:=Lib.hid (show namedAt c.pool n=(kindAt c.pool n 12).bind fun k=> (textAt c.pool k.a).bind fun x=> (textAt c.pool k.b).map fun y=> (x,y) from rfl)
 rcases hx:kindAt c.pool n 12 with _|x
 ·have HX:=Lib.hid hx
  clear h hn hx hf
  rw [bookV_open]
  go_enter Tryz.func169,Tryz.ntmps169
  go_wp2_with (go_at_call 114;refine(at_book c A cap ifs flds mths n 12 ok _ H.out.hp H.out.h1 H.out.h2 H.out.h3 HN.out.2 HN.out.1).mono ?_;rw [HX.out];rintro e w1 ⟨rfl,hb⟩;simp only [kindV,koV,Option.getD_none,Option.getD_some,Option.isSome_none,Option.isSome_some,koZero];have HB:=Lib.hid hb;clear hb)
  refine bodyPost_ret (results_t3 rfl rfl rfl rfl _) rfl ?_
  refine⟨?_,(W0.out.trans (HB.out.mono (by simp))).alloc (by have:=HB.out.size;simp at this;omega) _⟩
  rw [HT.out,HX.out]
  rfl
 ·have HX:=Lib.hid hx
  have HXF:=Lib.hid (HF.out x (kindAt_mem hx).1)
  clear h hn hx hf
  rcases hxa:textAt c.pool x.a with _|sa<;>rcases hxb:textAt c.pool x.b with _|sb
  all_goals
   have HXA:=Lib.hid hxa
   have HXB:=Lib.hid hxb
   clear hxa hxb
   rw [bookV_open]
   go_enter Tryz.func169,Tryz.ntmps169
   go_wp2_with (go_at_call 114;refine(at_book c A cap ifs flds mths n 12 ok _ H.out.hp H.out.h1 H.out.h2 H.out.h3 HN.out.2 HN.out.1).mono ?_;rw [HX.out];rintro e w1 ⟨rfl,hb⟩;simp only [kindV,koV,Option.getD_none,Option.getD_some,Option.isSome_none,Option.isSome_some,koZero];refine stop_here ?_)
   have hz:=hb.size
   simp at hz
   have X1:=Lib.hid ((X0.out.below hb (by simp)).below ((Below.refl w1.heap.size w1).alloc (Nat.le_refl _) (.cells #[.int .i64 x.tag, .string x.text, .int .i64 x.num, .int .i64 x.a, .int .i64 x.b] 81)) (by omega))
   have H1:=Lib.hid ((H.out.below hb).below ((Below.refl w1.heap.size w1).alloc (Nat.le_refl _) (.cells #[.int .i64 x.tag, .string x.text, .int .i64 x.num, .int .i64 x.a, .int .i64 x.b] 81)))
   have Y1:=Lib.hid (bx_new w1 [.int .i64 x.tag, .string x.text, .int .i64 x.num, .int .i64 x.a, .int .i64 x.b] 81)
   have W1:=Lib.hid ((W0.out.trans (hb.mono (by simp))).alloc (by omega) (.cells #[.int .i64 x.tag, .string x.text, .int .i64 x.num, .int .i64 x.a, .int .i64 x.b] 81))
   clear hb H X0 W0
   refine go_on ?_
   go_wp2_with (first
    | (refine wpList_load_row rfl _ _ rfl w.heap.size rfl _ _ _ _ X1.out Tryz.underlying248 rfl (by kernel_rfl) ?_)
    | (go_at_call 113;refine stop_here ?_))
   refine go_on ?_
   refine(text_book c A cap ifs flds mths x.a ok _ H1.out HXF.out.1).mono ?_
   rw [HXA.out]
   rintro e w2 ⟨rfl,hb2⟩
   simp only [optV,Option.getD_none,Option.getD_some,Option.isSome_none,Option.isSome_some]
   have hz2:=hb2.size
   simp at hz2
   have X2:=Lib.hid (X1.out.below hb2 X1.out.lt)
   have Y2:=Lib.hid (Y1.out.below hb2 Y1.out.lt)
   have H2:=Lib.hid (H1.out.below hb2)
   have W2:=Lib.hid (W1.out.trans (hb2.mono W1.out.size))
   have y4:=Y2.out.cell 4 rfl
   clear hb2 X1 Y1 H1 W1
   go_wp2_with (first
    | (refine wpList_load_row rfl _ _ rfl w.heap.size rfl _ _ _ _ X2.out Tryz.underlying248 rfl (by kernel_rfl) ?_)
    | (go_at_call 113;refine(text_book c A cap ifs flds mths x.b ok _ H2.out HXF.out.2).mono ?_;rw [HXB.out];rintro e w3 ⟨rfl,hb3⟩;simp only [optV,Option.getD_none,Option.getD_some,Option.isSome_none,Option.isSome_some];have W3:=Lib.hid (W2.out.trans (hb3.mono W2.out.size));clear hb3))
   refine bodyPost_ret (results_t3 rfl rfl rfl rfl _) rfl ?_
   refine⟨?_,W3.out⟩
   rw [HT.out,HX.out]
   simp only [Option.bind_some,HXA.out,HXB.out,Option.bind_none]
   rfl
theorem mdesc_any (s:ByteArray) (w:World) (hm:s.size≤9223372036854775807):
  Calls Tryz.prog 140 #[.string s] w fun e w'=>e= .returned (.bool (kindsV s).2.2)∧Below w.heap.size w w':=by
 have HK:=Lib.hid (fun W=>kinds_any s W hm)
 obtain⟨⟨a,r,b⟩,hv⟩: ∃v,kindsV s=v:=⟨_,rfl⟩
 rw [hv] at HK⊢
 clear hv
 go_enter Tryz.func140,Tryz.ntmps140
 go_wp2_with (go_at_call 157;refine(HK.out _).mono ?_;rintro e w1 ⟨rfl,hb1⟩;have HB:=Lib.hid hb1;clear hb1)
 go_ret
 exact⟨rfl,HB.out⟩
def namedE (pool:List Ko) (a b:Int):Int:=match textAt pool a,textAt pool b with
 |some s,some d=>if methodNB s.data.toList=false then 21 else if fieldB d.data.toList=false∧(kindsV d).2.2=false then 22 else 0
 |_,_=>20
theorem constant_twelve (c:ClassV) (A:Option Addr) (cap:Nat) (ifs flds mths:Value) (ok:Nat→Prop) (tx:ByteArray) (nu a b:Int) (w:World) (h:BookOk w ok c A cap ifs flds mths) (hn:Fine a) (hn2:Fine b) (ht: ∀k∈c.pool,k.text.size≤65536):
  Calls Tryz.prog 127 #[bookV c (.slice A c.pool.length cap) ifs flds mths,koV ⟨12,tx,nu,a,b⟩] w fun e w'=>e= .returned (.int .i64 (namedE c.pool a b))∧Below w.heap.size w w':=by
 have HW0:=Lib.hid (((Below.refl w.heap.size w).alloc (Nat.le_refl _) (.cells #[.int .i64 c.minor, .int .i64 c.major, .slice A c.pool.length cap, .int .i64 c.acc, .int .i64 c.this, .int .i64 c.sup,ifs,flds,mths] 248)).alloc (by simp) (.cells #[.int .i64 12, .string tx, .int .i64 nu, .int .i64 a, .int .i64 b] 81))
 have X0:=Lib.hid ((bx_new w [.int .i64 c.minor, .int .i64 c.major, .slice A c.pool.length cap, .int .i64 c.acc, .int .i64 c.this, .int .i64 c.sup,ifs,flds,mths] 248).below ((Below.refl (w.heap.size+1) (w.alloc (.cells #[.int .i64 c.minor, .int .i64 c.major, .slice A c.pool.length cap, .int .i64 c.acc, .int .i64 c.this, .int .i64 c.sup,ifs,flds,mths] 248))).alloc (by simp) (.cells #[.int .i64 12, .string tx, .int .i64 nu, .int .i64 a, .int .i64 b] 81)) (by omega))
 have Y0:=Lib.hid (bx_new (w.alloc (.cells #[.int .i64 c.minor, .int .i64 c.major, .slice A c.pool.length cap, .int .i64 c.acc, .int .i64 c.this, .int .i64 c.sup,ifs,flds,mths] 248)) [.int .i64 12, .string tx, .int .i64 nu, .int .i64 a, .int .i64 b] 81)
 have hz0:((w.alloc (.cells #[.int .i64 c.minor, .int .i64 c.major, .slice A c.pool.length cap, .int .i64 c.acc, .int .i64 c.this, .int .i64 c.sup,ifs,flds,mths] 248)).alloc (.cells #[.int .i64 12, .string tx, .int .i64 nu, .int .i64 a, .int .i64 b] 81)).heap.size=w.heap.size+2:=by simp
 have H0:=Lib.hid (h.below HW0.out)
 simp only [World.size_alloc] at Y0
 have HN:=Lib.hid hn
 have HN2:=Lib.hid hn2
 obtain⟨E,hE⟩: ∃E,namedE c.pool a b=E:=⟨_,rfl⟩
 have HE:=Lib.hid hE
 rw [hE]
 clear hE
 rcases hxa:textAt c.pool a with _|sa<;>rcases hxb:textAt c.pool b with _|sb
 ·have HP:=Lib.hid (show E=20 by rw [←HE.out];unfold namedE;rw [hxa,hxb])
  clear h hn hn2
  have HXA:=Lib.hid hxa
  have HXB:=Lib.hid hxb
  clear hxa hxb
  rw [bookV_open]
  simp only [koV]
  go_enter Tryz.func127,Tryz.ntmps127
  go_wp2_with (go_at_call 113;refine stop_here ?_)
  refine go_on ?_
  refine(text_book c A cap ifs flds mths a ok _ H0.out HN.out).mono ?_
  rw [HXA.out]
  rintro e w1 ⟨rfl,hb⟩
  simp only [optV,Option.getD_none,Option.getD_some,Option.isSome_none,Option.isSome_some]
  have hz1:=hb.size
  rw [hz0] at hz1
  have X1:=Lib.hid (X0.out.below hb (by omega))
  have Y1:=Lib.hid (Y0.out.below hb (by omega))
  have H1:=Lib.hid (H0.out.below hb)
  have W1:=Lib.hid (HW0.out.trans (hb.mono (by omega)))
  have y4:=Y1.out.cell 4 rfl
  clear hb X0 Y0 H0 HW0 hz0
  go_wp2_with (first
   | (refine wpList_load_row rfl _ _ rfl w.heap.size rfl _ _ _ _ X1.out Tryz.underlying248 rfl (by kernel_rfl) ?_)
   | (go_at_call 113;refine(text_book c A cap ifs flds mths b ok _ H1.out HN2.out).mono ?_;rw [HXB.out];rintro e w2 ⟨rfl,hb2⟩;simp only [optV,Option.getD_none,Option.getD_some,Option.isSome_none,Option.isSome_some];have W2:=Lib.hid (W1.out.trans (hb2.mono W1.out.size));clear hb2))
  go_ret
  exact⟨by rw [HP.out];rfl,W2.out⟩
 ·have HP:=Lib.hid (show E=20 by rw [←HE.out];unfold namedE;rw [hxa,hxb])
  clear h hn hn2
  have HXA:=Lib.hid hxa
  have HXB:=Lib.hid hxb
  clear hxa hxb
  rw [bookV_open]
  simp only [koV]
  go_enter Tryz.func127,Tryz.ntmps127
  go_wp2_with (go_at_call 113;refine stop_here ?_)
  refine go_on ?_
  refine(text_book c A cap ifs flds mths a ok _ H0.out HN.out).mono ?_
  rw [HXA.out]
  rintro e w1 ⟨rfl,hb⟩
  simp only [optV,Option.getD_none,Option.getD_some,Option.isSome_none,Option.isSome_some]
  have hz1:=hb.size
  rw [hz0] at hz1
  have X1:=Lib.hid (X0.out.below hb (by omega))
  have Y1:=Lib.hid (Y0.out.below hb (by omega))
  have H1:=Lib.hid (H0.out.below hb)
  have W1:=Lib.hid (HW0.out.trans (hb.mono (by omega)))
  have y4:=Y1.out.cell 4 rfl
  clear hb X0 Y0 H0 HW0 hz0
  go_wp2_with (first
   | (refine wpList_load_row rfl _ _ rfl w.heap.size rfl _ _ _ _ X1.out Tryz.underlying248 rfl (by kernel_rfl) ?_)
   | (go_at_call 113;refine(text_book c A cap ifs flds mths b ok _ H1.out HN2.out).mono ?_;rw [HXB.out];rintro e w2 ⟨rfl,hb2⟩;simp only [optV,Option.getD_none,Option.getD_some,Option.isSome_none,Option.isSome_some];have W2:=Lib.hid (W1.out.trans (hb2.mono W1.out.size));clear hb2))
  go_ret
  exact⟨by rw [HP.out];rfl,W2.out⟩
 ·have HP:=Lib.hid (show E=20 by rw [←HE.out];unfold namedE;rw [hxa,hxb])
  clear h hn hn2
  have HXA:=Lib.hid hxa
  have HXB:=Lib.hid hxb
  clear hxa hxb
  rw [bookV_open]
  simp only [koV]
  go_enter Tryz.func127,Tryz.ntmps127
  go_wp2_with (go_at_call 113;refine stop_here ?_)
  refine go_on ?_
  refine(text_book c A cap ifs flds mths a ok _ H0.out HN.out).mono ?_
  rw [HXA.out]
  rintro e w1 ⟨rfl,hb⟩
  simp only [optV,Option.getD_none,Option.getD_some,Option.isSome_none,Option.isSome_some]
  have hz1:=hb.size
  rw [hz0] at hz1
  have X1:=Lib.hid (X0.out.below hb (by omega))
  have Y1:=Lib.hid (Y0.out.below hb (by omega))
  have H1:=Lib.hid (H0.out.below hb)
  have W1:=Lib.hid (HW0.out.trans (hb.mono (by omega)))
  have y4:=Y1.out.cell 4 rfl
  clear hb X0 Y0 H0 HW0 hz0
  go_wp2_with (first
   | (refine wpList_load_row rfl _ _ rfl w.heap.size rfl _ _ _ _ X1.out Tryz.underlying248 rfl (by kernel_rfl) ?_)
   | (go_at_call 113;refine(text_book c A cap ifs flds mths b ok _ H1.out HN2.out).mono ?_;rw [HXB.out];rintro e w2 ⟨rfl,hb2⟩;simp only [optV,Option.getD_none,Option.getD_some,Option.isSome_none,Option.isSome_some];have W2:=Lib.hid (W1.out.trans (hb2.mono W1.out.size));clear hb2))
  go_ret
  exact⟨by rw [HP.out];rfl,W2.out⟩
 ·have hsa:=textAt_le hxa ht
  have hsb:=textAt_le hxb ht
  obtain⟨m1,h1⟩: ∃m,methodNB sa.data.toList=m:=⟨_,rfl⟩
  obtain⟨m2,h2⟩: ∃m,fieldB sb.data.toList=m:=⟨_,rfl⟩
  obtain⟨m3,h3⟩: ∃m,(kindsV sb).2.2=m:=⟨_,rfl⟩
  have HP:=Lib.hid (show E=if m1=false then 21 else if m2=false∧m3=false then 22 else 0 by rw [←HE.out];unfold namedE;rw [hxa,hxb];simp only [h1,h2,h3])
  have C1:=Lib.hid (fun W=>dmethod_any sa W (by omega))
  have C2:=Lib.hid (fun W=>dfield_any sb W (by omega))
  have C3:=Lib.hid (fun W=>mdesc_any sb W (by omega))
  rw [h1] at C1
  rw [h2] at C2
  rw [h3] at C3
  clear h hn hn2 h1 h2 h3
  cases m1<;>cases m2<;>cases m3
  all_goals
   have HXA:=Lib.hid hxa
   have HXB:=Lib.hid hxb
   clear hxa hxb
   rw [bookV_open]
   simp only [koV]
   go_enter Tryz.func127,Tryz.ntmps127
   go_wp2_with (go_at_call 113;refine stop_here ?_)
   refine go_on ?_
   refine(text_book c A cap ifs flds mths a ok _ H0.out HN.out).mono ?_
   rw [HXA.out]
   rintro e w1 ⟨rfl,hb⟩
   simp only [optV,Option.getD_none,Option.getD_some,Option.isSome_none,Option.isSome_some]
   have hz1:=hb.size
   rw [hz0] at hz1
   have X1:=Lib.hid (X0.out.below hb (by omega))
   have Y1:=Lib.hid (Y0.out.below hb (by omega))
   have H1:=Lib.hid (H0.out.below hb)
   have W1:=Lib.hid (HW0.out.trans (hb.mono (by omega)))
   have y4:=Y1.out.cell 4 rfl
   clear hb X0 Y0 H0 HW0 hz0
   go_wp2_with (first
    | (refine wpList_load_row rfl _ _ rfl w.heap.size rfl _ _ _ _ X1.out Tryz.underlying248 rfl (by kernel_rfl) ?_)
    | (go_at_call 113;refine(text_book c A cap ifs flds mths b ok _ H1.out HN2.out).mono ?_;rw [HXB.out];rintro e w2 ⟨rfl,hb2⟩;simp only [optV,Option.getD_none,Option.getD_some,Option.isSome_none,Option.isSome_some];have W2:=Lib.hid (W1.out.trans (hb2.mono W1.out.size));clear hb2)
    | (go_at_call 138;refine(C1.out _).mono ?_;rintro e w3 ⟨rfl,hb3⟩;have W3:=Lib.hid (W2.out.trans (hb3.mono W2.out.size));clear hb3)
    | (go_at_call 139;refine(C2.out _).mono ?_;rintro e w4 ⟨rfl,hb4⟩;have W4:=Lib.hid (W3.out.trans (hb4.mono W3.out.size));clear hb4)
    | (go_at_call 140;refine(C3.out _).mono ?_;rintro e w5 ⟨rfl,hb5⟩;have W5:=Lib.hid (W4.out.trans (hb5.mono W4.out.size));clear hb5))
   go_ret
   exact⟨by rw [HP.out];rfl,by first|exact W5.out|exact W4.out|exact W3.out⟩
set_option maxHeartbeats 4000000
def memberE (pool:List Ko) (tag a b:Int):Int:=match kindAt pool a 7,namedAt pool b with
 |some _,some (nm,d)=>if tag=9 then(if fieldB d.data.toList=false then 22 else if memberB nm.data.toList=false then 21 else 0)
  else if(kindsV d).2.2=false then 22 else if nm.data.toList=clinitL∨(nm.data.toList=initL∧(tag=11∨(kindsV d).2.1.data.toList≠ [86])) then 21 else 0
 |_,_=>20
theorem namedAt_le {pool:List Ko} {n:Int} {x y:ByteArray} (h:namedAt pool n=some (x,y)) (ht: ∀k∈pool,k.text.size≤65536):x.size≤65536∧y.size≤65536:=by
 unfold namedAt at h
 rcases hk:kindAt pool n 12 with _|k
 ·rw [hk] at h;cases h
 ·rw [hk] at h
  simp only [Option.bind_some] at h
  rcases hx:textAt pool k.a with _|sx
  ·rw [hx] at h;cases h
  ·rw [hx] at h
   simp only [Option.bind_some] at h
   rcases hy:textAt pool k.b with _|sy
   ·rw [hy] at h;cases h
   ·rw [hy] at h
    simp only [Option.map_some,Option.some.injEq,Prod.mk.injEq] at h
    obtain⟨rfl,rfl⟩:=h
    exact⟨textAt_le hx ht,textAt_le hy ht⟩
theorem member_book (c:ClassV) (A:Option Addr) (cap:Nat) (ifs flds mths:Value) (ok:Nat→Prop) (tag:Int) (tx:ByteArray) (nu a b:Int) (w:World) (h:BookOk w ok c A cap ifs flds mths) (hn:Fine a) (hn2:Fine b) (hf: ∀k∈c.pool,Fine k.a∧Fine k.b) (ht: ∀k∈c.pool,k.text.size≤65536) (htag:tag=9∨tag=10∨tag=11):
  Calls Tryz.prog 141 #[bookV c (.slice A c.pool.length cap) ifs flds mths,koV ⟨tag,tx,nu,a,b⟩] w fun e w'=>e= .returned (.int .i64 (memberE c.pool tag a b))∧Below w.heap.size w w':=by
 have HW0:=Lib.hid (((Below.refl w.heap.size w).alloc (Nat.le_refl _) (.cells #[.int .i64 c.minor, .int .i64 c.major, .slice A c.pool.length cap, .int .i64 c.acc, .int .i64 c.this, .int .i64 c.sup,ifs,flds,mths] 248)).alloc (by simp) (.cells #[.int .i64 tag, .string tx, .int .i64 nu, .int .i64 a, .int .i64 b] 81))
 have X0:=Lib.hid ((bx_new w [.int .i64 c.minor, .int .i64 c.major, .slice A c.pool.length cap, .int .i64 c.acc, .int .i64 c.this, .int .i64 c.sup,ifs,flds,mths] 248).below ((Below.refl (w.heap.size+1) (w.alloc (.cells #[.int .i64 c.minor, .int .i64 c.major, .slice A c.pool.length cap, .int .i64 c.acc, .int .i64 c.this, .int .i64 c.sup,ifs,flds,mths] 248))).alloc (by simp) (.cells #[.int .i64 tag, .string tx, .int .i64 nu, .int .i64 a, .int .i64 b] 81)) (by omega))
 have Y0:=Lib.hid (bx_new (w.alloc (.cells #[.int .i64 c.minor, .int .i64 c.major, .slice A c.pool.length cap, .int .i64 c.acc, .int .i64 c.this, .int .i64 c.sup,ifs,flds,mths] 248)) [.int .i64 tag, .string tx, .int .i64 nu, .int .i64 a, .int .i64 b] 81)
 have hz0:((w.alloc (.cells #[.int .i64 c.minor, .int .i64 c.major, .slice A c.pool.length cap, .int .i64 c.acc, .int .i64 c.this, .int .i64 c.sup,ifs,flds,mths] 248)).alloc (.cells #[.int .i64 tag, .string tx, .int .i64 nu, .int .i64 a, .int .i64 b] 81)).heap.size=w.heap.size+2:=by simp
 have H0:=Lib.hid (h.below HW0.out)
 simp only [World.size_alloc] at Y0
 have HN:=Lib.hid hn
 have HN2:=Lib.hid hn2
 have HF:=Lib.hid hf
 obtain⟨E,hE⟩: ∃E,memberE c.pool tag a b=E:=⟨_,rfl⟩
 rw [hE]
 rcases hka:kindAt c.pool a 7 with _|ka
 ·rcases hnb:namedAt c.pool b with _|nb
  ·have HP:=Lib.hid (show E=20 by rw [←hE];unfold memberE;rw [hka,hnb])
   have HKA:=Lib.hid hka
   have HNB:=Lib.hid hnb
   have HK:=Lib.hid (fun W=>kinds_any ⟨#[]⟩ W (by decide))
   clear h hn hn2 hf hka hnb hE
   rw [bookV_open]
   simp only [koV]
   go_enter Tryz.func141,Tryz.ntmps141
   go_wp2_with (go_at_call 114;refine(at_book c A cap ifs flds mths a 7 ok _ H0.out.hp H0.out.h1 H0.out.h2 H0.out.h3 HN.out.2 HN.out.1).mono ?_;rw [HKA.out];rintro e w1 ⟨rfl,hb⟩;simp only [kindV,koV,Option.getD_none,Option.getD_some,Option.isSome_none,Option.isSome_some,koZero];refine stop_here ?_)
   have hz1:=hb.size
   rw [hz0] at hz1
   have hba:=hb.trans ((Below.refl w1.heap.size w1).alloc (Nat.le_refl _) (.cells #[.int .i64 0, .string ⟨#[]⟩, .int .i64 0, .int .i64 0, .int .i64 0] 81) |>.mono hb.size)
   have X1:=Lib.hid (X0.out.below hba (by omega))
   have Y1:=Lib.hid (Y0.out.below hba (by omega))
   have H1:=Lib.hid (H0.out.below hba)
   have W1:=Lib.hid (HW0.out.trans (hba.mono (by omega)))
   have hz1':(w1.alloc (.cells #[.int .i64 0, .string ⟨#[]⟩, .int .i64 0, .int .i64 0, .int .i64 0] 81)).heap.size=w1.heap.size+1:=by simp
   have y4:=Y1.out.cell 4 rfl
   clear hb hba X0 Y0 H0 HW0 hz0
   refine go_on ?_
   go_wp2_with (first
    | (refine wpList_load_row rfl _ _ rfl w.heap.size rfl _ _ _ _ X1.out Tryz.underlying248 rfl (by kernel_rfl) ?_)
    | (go_at_call 169;refine stop_here ?_))
   refine go_on ?_
   refine(named_book c A cap ifs flds mths b ok _ H1.out HN2.out HF.out).mono ?_
   rw [HNB.out]
   rintro e w2 ⟨rfl,hb2⟩
   simp only [opt2V,Option.map_none,Option.map_some,Option.getD_none,Option.getD_some,Option.isSome_none,Option.isSome_some]
   have hz2:=hb2.size
   rw [hz1'] at hz2
   have Y2:=Lib.hid (Y1.out.below hb2 Y1.out.lt)
   have W2:=Lib.hid (W1.out.trans (hb2.mono W1.out.size))
   have y0:=Y2.out.cell 0 rfl
   clear hb2 X1 Y1 H1 W1
   rcases htag with rfl|rfl|rfl
   all_goals
    go_wp2_with (go_at_call 157;refine(HK.out _).mono ?_;rintro e w3 ⟨rfl,hb3⟩;have W3:=Lib.hid (W2.out.trans (hb3.mono W2.out.size));have Y3:=Lib.hid (Y2.out.below hb3 Y2.out.lt);have y03:=Y3.out.cell 0 rfl;clear hb3)
    go_ret
    exact⟨by rw [HP.out];rfl,W3.out⟩
  ·obtain⟨nm,d⟩:=nb
   obtain⟨l1,l2⟩:=namedAt_le hnb ht
   have HP:=Lib.hid (show E=20 by rw [←hE];unfold memberE;rw [hka,hnb])
   have HKA:=Lib.hid hka
   have HNB:=Lib.hid hnb
   have HK:=Lib.hid (fun W=>kinds_any d W (by omega))
   clear h hn hn2 hf hka hnb hE
   rw [bookV_open]
   simp only [koV]
   go_enter Tryz.func141,Tryz.ntmps141
   go_wp2_with (go_at_call 114;refine(at_book c A cap ifs flds mths a 7 ok _ H0.out.hp H0.out.h1 H0.out.h2 H0.out.h3 HN.out.2 HN.out.1).mono ?_;rw [HKA.out];rintro e w1 ⟨rfl,hb⟩;simp only [kindV,koV,Option.getD_none,Option.getD_some,Option.isSome_none,Option.isSome_some,koZero];refine stop_here ?_)
   have hz1:=hb.size
   rw [hz0] at hz1
   have hba:=hb.trans ((Below.refl w1.heap.size w1).alloc (Nat.le_refl _) (.cells #[.int .i64 0, .string ⟨#[]⟩, .int .i64 0, .int .i64 0, .int .i64 0] 81) |>.mono hb.size)
   have X1:=Lib.hid (X0.out.below hba (by omega))
   have Y1:=Lib.hid (Y0.out.below hba (by omega))
   have H1:=Lib.hid (H0.out.below hba)
   have W1:=Lib.hid (HW0.out.trans (hba.mono (by omega)))
   have hz1':(w1.alloc (.cells #[.int .i64 0, .string ⟨#[]⟩, .int .i64 0, .int .i64 0, .int .i64 0] 81)).heap.size=w1.heap.size+1:=by simp
   have y4:=Y1.out.cell 4 rfl
   clear hb hba X0 Y0 H0 HW0 hz0
   refine go_on ?_
   go_wp2_with (first
    | (refine wpList_load_row rfl _ _ rfl w.heap.size rfl _ _ _ _ X1.out Tryz.underlying248 rfl (by kernel_rfl) ?_)
    | (go_at_call 169;refine stop_here ?_))
   refine go_on ?_
   refine(named_book c A cap ifs flds mths b ok _ H1.out HN2.out HF.out).mono ?_
   rw [HNB.out]
   rintro e w2 ⟨rfl,hb2⟩
   simp only [opt2V,Option.map_none,Option.map_some,Option.getD_none,Option.getD_some,Option.isSome_none,Option.isSome_some]
   have hz2:=hb2.size
   rw [hz1'] at hz2
   have Y2:=Lib.hid (Y1.out.below hb2 Y1.out.lt)
   have W2:=Lib.hid (W1.out.trans (hb2.mono W1.out.size))
   have y0:=Y2.out.cell 0 rfl
   clear hb2 X1 Y1 H1 W1
   rcases htag with rfl|rfl|rfl
   all_goals
    go_wp2_with (go_at_call 157;refine(HK.out _).mono ?_;rintro e w3 ⟨rfl,hb3⟩;have W3:=Lib.hid (W2.out.trans (hb3.mono W2.out.size));have Y3:=Lib.hid (Y2.out.below hb3 Y2.out.lt);have y03:=Y3.out.cell 0 rfl;clear hb3)
    go_ret
    exact⟨by rw [HP.out];rfl,W3.out⟩
 ·rcases hnb:namedAt c.pool b with _|nb
  ·have HP:=Lib.hid (show E=20 by rw [←hE];unfold memberE;rw [hka,hnb])
   have HKA:=Lib.hid hka
   have HNB:=Lib.hid hnb
   have HK:=Lib.hid (fun W=>kinds_any ⟨#[]⟩ W (by decide))
   clear h hn hn2 hf hka hnb hE
   rw [bookV_open]
   simp only [koV]
   go_enter Tryz.func141,Tryz.ntmps141
   go_wp2_with (go_at_call 114;refine(at_book c A cap ifs flds mths a 7 ok _ H0.out.hp H0.out.h1 H0.out.h2 H0.out.h3 HN.out.2 HN.out.1).mono ?_;rw [HKA.out];rintro e w1 ⟨rfl,hb⟩;simp only [kindV,koV,Option.getD_none,Option.getD_some,Option.isSome_none,Option.isSome_some,koZero];refine stop_here ?_)
   have hz1:=hb.size
   rw [hz0] at hz1
   have hba:=hb.trans ((Below.refl w1.heap.size w1).alloc (Nat.le_refl _) (.cells #[.int .i64 ka.tag, .string ka.text, .int .i64 ka.num, .int .i64 ka.a, .int .i64 ka.b] 81) |>.mono hb.size)
   have X1:=Lib.hid (X0.out.below hba (by omega))
   have Y1:=Lib.hid (Y0.out.below hba (by omega))
   have H1:=Lib.hid (H0.out.below hba)
   have W1:=Lib.hid (HW0.out.trans (hba.mono (by omega)))
   have hz1':(w1.alloc (.cells #[.int .i64 ka.tag, .string ka.text, .int .i64 ka.num, .int .i64 ka.a, .int .i64 ka.b] 81)).heap.size=w1.heap.size+1:=by simp
   have y4:=Y1.out.cell 4 rfl
   clear hb hba X0 Y0 H0 HW0 hz0
   refine go_on ?_
   go_wp2_with (first
    | (refine wpList_load_row rfl _ _ rfl w.heap.size rfl _ _ _ _ X1.out Tryz.underlying248 rfl (by kernel_rfl) ?_)
    | (go_at_call 169;refine stop_here ?_))
   refine go_on ?_
   refine(named_book c A cap ifs flds mths b ok _ H1.out HN2.out HF.out).mono ?_
   rw [HNB.out]
   rintro e w2 ⟨rfl,hb2⟩
   simp only [opt2V,Option.map_none,Option.map_some,Option.getD_none,Option.getD_some,Option.isSome_none,Option.isSome_some]
   have hz2:=hb2.size
   rw [hz1'] at hz2
   have Y2:=Lib.hid (Y1.out.below hb2 Y1.out.lt)
   have W2:=Lib.hid (W1.out.trans (hb2.mono W1.out.size))
   have y0:=Y2.out.cell 0 rfl
   clear hb2 X1 Y1 H1 W1
   rcases htag with rfl|rfl|rfl
   all_goals
    go_wp2_with (go_at_call 157;refine(HK.out _).mono ?_;rintro e w3 ⟨rfl,hb3⟩;have W3:=Lib.hid (W2.out.trans (hb3.mono W2.out.size));have Y3:=Lib.hid (Y2.out.below hb3 Y2.out.lt);have y03:=Y3.out.cell 0 rfl;clear hb3)
    go_ret
    exact⟨by rw [HP.out];rfl,W3.out⟩
  ·obtain⟨nm,d⟩:=nb
   obtain⟨l1,l2⟩:=namedAt_le hnb ht
   obtain⟨m1,h1⟩: ∃m,memberB nm.data.toList=m:=⟨_,rfl⟩
   obtain⟨m2,h2⟩: ∃m,fieldB d.data.toList=m:=⟨_,rfl⟩
   obtain⟨⟨ka1,ret,is⟩,h3⟩: ∃v,kindsV d=v:=⟨_,rfl⟩
   have C1:=Lib.hid (fun W=>member_any nm W (by omega))
   have C2:=Lib.hid (fun W=>dfield_any d W (by omega))
   rw [h1] at C1
   rw [h2] at C2
   obtain⟨b1,hb1⟩: ∃m,m=(nm.data.toList==clinitL):=⟨_,rfl⟩
   obtain⟨b2,hb2'⟩: ∃m,m=(nm.data.toList==initL):=⟨_,rfl⟩
   obtain⟨b3,hb3'⟩: ∃m,m=(ret.data.toList== [86]):=⟨_,rfl⟩
   have e1:(nm.toList== [60,99,108,105,110,105,116,62])=b1:=by rw [ByteArray.toList_eq,hb1];rfl
   have e2:(nm.toList== [60,105,110,105,116,62])=b2:=by rw [ByteArray.toList_eq,hb2'];rfl
   have e3:(ret.toList== [86])=b3:=by rw [ByteArray.toList_eq,hb3']
   have HP:=Lib.hid (show E=if tag=9 then(if m2=false then 22 else if m1=false then 21 else 0) else if is=false then 22 else if b1=true∨(b2=true∧(tag=11∨b3=false)) then 21 else 0 by
    rw [←hE]
    unfold memberE
    rw [hka,hnb]
    simp only [h1,h2,h3]
    have k1:(nm.data.toList=clinitL)↔b1=true:=by rw [hb1];simp
    have k2:(nm.data.toList=initL)↔b2=true:=by rw [hb2'];simp
    have k3:(ret.data.toList≠ [86])↔b3=false:=by rw [hb3'];simp
    simp only [k1,k2,k3])
   clear hb1 hb2' hb3' h1 h2
   have HKA:=Lib.hid hka
   have HNB:=Lib.hid hnb
   have HK:=Lib.hid (fun W=>kinds_any d W (by omega))
   rw [h3] at HK
   clear h hn hn2 hf hka hnb hE h3
   rw [bookV_open]
   simp only [koV]
   go_enter Tryz.func141,Tryz.ntmps141
   go_wp2_with (go_at_call 114;refine(at_book c A cap ifs flds mths a 7 ok _ H0.out.hp H0.out.h1 H0.out.h2 H0.out.h3 HN.out.2 HN.out.1).mono ?_;rw [HKA.out];rintro e w1 ⟨rfl,hb⟩;simp only [kindV,koV,Option.getD_none,Option.getD_some,Option.isSome_none,Option.isSome_some,koZero];refine stop_here ?_)
   have hz1:=hb.size
   rw [hz0] at hz1
   have hba:=hb.trans ((Below.refl w1.heap.size w1).alloc (Nat.le_refl _) (.cells #[.int .i64 ka.tag, .string ka.text, .int .i64 ka.num, .int .i64 ka.a, .int .i64 ka.b] 81) |>.mono hb.size)
   have X1:=Lib.hid (X0.out.below hba (by omega))
   have Y1:=Lib.hid (Y0.out.below hba (by omega))
   have H1:=Lib.hid (H0.out.below hba)
   have W1:=Lib.hid (HW0.out.trans (hba.mono (by omega)))
   have hz1':(w1.alloc (.cells #[.int .i64 ka.tag, .string ka.text, .int .i64 ka.num, .int .i64 ka.a, .int .i64 ka.b] 81)).heap.size=w1.heap.size+1:=by simp
   have y4:=Y1.out.cell 4 rfl
   clear hb hba X0 Y0 H0 HW0 hz0
   refine go_on ?_
   go_wp2_with (first
    | (refine wpList_load_row rfl _ _ rfl w.heap.size rfl _ _ _ _ X1.out Tryz.underlying248 rfl (by kernel_rfl) ?_)
    | (go_at_call 169;refine stop_here ?_))
   refine go_on ?_
   refine(named_book c A cap ifs flds mths b ok _ H1.out HN2.out HF.out).mono ?_
   rw [HNB.out]
   rintro e w2 ⟨rfl,hb2⟩
   simp only [opt2V,Option.map_none,Option.map_some,Option.getD_none,Option.getD_some,Option.isSome_none,Option.isSome_some]
   have hz2:=hb2.size
   rw [hz1'] at hz2
   have Y2:=Lib.hid (Y1.out.below hb2 Y1.out.lt)
   have W2:=Lib.hid (W1.out.trans (hb2.mono W1.out.size))
   have y0:=Y2.out.cell 0 rfl
   clear hb2 X1 Y1 H1 W1
   rcases htag with rfl|rfl|rfl
   ·rw [if_pos rfl] at HP
    cases m2<;>cases m1
    all_goals
     go_wp2_with (first
      | (go_at_call 157;refine(HK.out _).mono ?_;rintro e w3 ⟨rfl,hb3⟩;have W3:=Lib.hid (W2.out.trans (hb3.mono W2.out.size));have Y3:=Lib.hid (Y2.out.below hb3 Y2.out.lt);have y03:=Y3.out.cell 0 rfl;clear hb3)
      | (go_at_call 139;refine(C2.out _).mono ?_;rintro e w4 ⟨rfl,hb4⟩;have W4:=Lib.hid (W3.out.trans (hb4.mono W3.out.size));clear hb4)
      | (go_at_call 151;refine(C1.out _).mono ?_;rintro e w5 ⟨rfl,hb5⟩;have W5:=Lib.hid (W4.out.trans (hb5.mono W4.out.size));clear hb5))
     go_ret
     exact⟨by rw [HP.out];rfl,by first|exact W5.out|exact W4.out⟩
   ·cases is
    ·go_wp2_with (go_at_call 157;refine(HK.out _).mono ?_;rintro e w3 ⟨rfl,hb3⟩;have W3:=Lib.hid (W2.out.trans (hb3.mono W2.out.size));have Y3:=Lib.hid (Y2.out.below hb3 Y2.out.lt);have y03:=Y3.out.cell 0 rfl;clear hb3)
     go_ret
     exact⟨by rw [HP.out];rfl,W3.out⟩
    ·cases b1<;>cases b2<;>cases b3
     all_goals
      go_wp2_with (go_at_call 157;refine(HK.out _).mono ?_;rintro e w3 ⟨rfl,hb3⟩;have W3:=Lib.hid (W2.out.trans (hb3.mono W2.out.size));have Y3:=Lib.hid (Y2.out.below hb3 Y2.out.lt);have y03:=Y3.out.cell 0 rfl;clear hb3)
      go_ret
      exact⟨by rw [HP.out];rfl,W3.out⟩
   ·cases is
    ·go_wp2_with (go_at_call 157;refine(HK.out _).mono ?_;rintro e w3 ⟨rfl,hb3⟩;have W3:=Lib.hid (W2.out.trans (hb3.mono W2.out.size));have Y3:=Lib.hid (Y2.out.below hb3 Y2.out.lt);have y03:=Y3.out.cell 0 rfl;clear hb3)
     go_ret
     exact⟨by rw [HP.out];rfl,W3.out⟩
    ·cases b1<;>cases b2<;>cases b3
     all_goals
      go_wp2_with (go_at_call 157;refine(HK.out _).mono ?_;rintro e w3 ⟨rfl,hb3⟩;have W3:=Lib.hid (W2.out.trans (hb3.mono W2.out.size));have Y3:=Lib.hid (Y2.out.below hb3 Y2.out.lt);have y03:=Y3.out.cell 0 rfl;clear hb3)
      go_ret
      exact⟨by rw [HP.out];rfl,W3.out⟩
theorem constant_ref (c:ClassV) (A:Option Addr) (cap:Nat) (ifs flds mths:Value) (ok:Nat→Prop) (tag:Int) (tx:ByteArray) (nu a b:Int) (w:World) (h:BookOk w ok c A cap ifs flds mths) (hn:Fine a) (hn2:Fine b) (hf: ∀k∈c.pool,Fine k.a∧Fine k.b) (ht: ∀k∈c.pool,k.text.size≤65536) (htag:tag=9∨tag=10∨tag=11):
  Calls Tryz.prog 127 #[bookV c (.slice A c.pool.length cap) ifs flds mths,koV ⟨tag,tx,nu,a,b⟩] w fun e w'=>e= .returned (.int .i64 (memberE c.pool tag a b))∧Below w.heap.size w w':=by
 have HW0:=Lib.hid (((Below.refl w.heap.size w).alloc (Nat.le_refl _) (.cells #[.int .i64 c.minor, .int .i64 c.major, .slice A c.pool.length cap, .int .i64 c.acc, .int .i64 c.this, .int .i64 c.sup,ifs,flds,mths] 248)).alloc (by simp) (.cells #[.int .i64 tag, .string tx, .int .i64 nu, .int .i64 a, .int .i64 b] 81))
 have HM:=Lib.hid (fun W (hW:BookOk W ok c A cap ifs flds mths)=>member_book c A cap ifs flds mths ok tag tx nu a b W hW hn hn2 hf ht htag)
 have H0:=Lib.hid (h.below HW0.out)
 have X0:=Lib.hid ((bx_new w [.int .i64 c.minor, .int .i64 c.major, .slice A c.pool.length cap, .int .i64 c.acc, .int .i64 c.this, .int .i64 c.sup,ifs,flds,mths] 248).below ((Below.refl (w.heap.size+1) (w.alloc (.cells #[.int .i64 c.minor, .int .i64 c.major, .slice A c.pool.length cap, .int .i64 c.acc, .int .i64 c.this, .int .i64 c.sup,ifs,flds,mths] 248))).alloc (by simp) (.cells #[.int .i64 tag, .string tx, .int .i64 nu, .int .i64 a, .int .i64 b] 81)) (by omega))
 clear h hn hn2 hf ht
 rw [bookV_open] at HM⊢
 simp only [koV] at HM⊢
 rcases htag with rfl|rfl|rfl
 all_goals
  go_enter Tryz.func127,Tryz.ntmps127
  go_wp2_with (first
   | (refine wpList_load_row rfl _ _ rfl w.heap.size rfl _ _ _ _ X0.out Tryz.underlying248 rfl (by kernel_rfl) ?_)
   | (go_at_call 141;refine(HM.out _ H0.out).mono ?_;rintro e w1 ⟨rfl,hb⟩;have HB:=Lib.hid (HW0.out.trans (hb.mono (by simp;omega)));clear hb))
  go_ret
  exact⟨rfl,HB.out⟩
end Go.Proofs.YtpbnjakeielipaaGreatDoor
