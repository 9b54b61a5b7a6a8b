/-
  What the laws rest on, part 20: walks of the program's functions and plain laws. Conditions: none but those that each theorem names.
-/
import Derived.Test.YtpbnjakeielipaaGreatDoorB19
import Derived.Test.YtpbnjakeielipaaGreatDoorB06
import Derived.Test.YtpbnjakeielipaaGreatDoorB00
import Derived.DeepKeys3
import Derived.Maps.Keyed
set_option linter.unusedSimpArgs false
set_option linter.unusedVariables false
set_option maxRecDepth 100000
set_option maxHeartbeats 2000000
namespace Go.Proofs.YtpbnjakeielipaaGreatDoor
open Go Go.RowKit Lib
def bitN (acc f:Int):Nat:=if someB acc f=true then 1 else 0
def kindsN (acc:Int):Nat:=bitN acc 1+bitN acc 2+bitN acc 4
def flagAt:Nat→Int
 |0=>1
 |1=>2
 |_=>4
def uptoN (acc:Int):Nat→Nat
 |0=>0
 |k+1=>uptoN acc k+bitN acc (flagAt k)
theorem upto_three (acc:Int):uptoN acc 3=kindsN acc:=by simp [uptoN,kindsN,flagAt]
theorem upto_le (acc:Int): ∀k,uptoN acc k≤k
 |0=>Nat.le_refl _
 |k+1=>by
  have:=upto_le acc k
  unfold uptoN bitN
  split<;>omega
theorem kinds_cnt (acc:Int) (w:World):Calls Tryz.prog 154 #[.int .i64 acc] w fun e w'=>e= .returned (.int .i64 (kindsN acc))∧Below w.heap.size w w':=by
 have X0:=Lib.hid (bx_new w [.int .i64 1, .int .i64 2, .int .i64 4] 3)
 have HW:=Lib.hid ((Below.refl w.heap.size w).alloc (Nat.le_refl _) (.cells #[.int .i64 1, .int .i64 2, .int .i64 4] 3))
 go_enter Tryz.func154,Tryz.ntmps154
 go_wp2_with fail
 go_loop [3,8] (fun n i=> ∃k:Nat,k≤3∧i= .int .i64 k∧n= .int .i64 (uptoN acc k)) (fun _ i=>3 - (RowKit.intOf i).toNat)
 case atStart=>exact⟨0,by omega,rfl,rfl⟩
 case round=>
  obtain⟨k,hk,rfl,rfl⟩:=hrel
  have hu:=upto_le acc k
  by_cases h3:k=3
  ·subst h3
   go_wp2_with fail
   go_ret
   exact⟨by rw [upto_three];rfl,HW.out⟩
  ·have hlt:((k:Int) <3)=True:=by simp;omega
   have cc:(w.alloc (.cells #[.int .i64 1, .int .i64 2, .int .i64 4] 3)).cell? ⟨w.heap.size,k,none⟩=some (.int .i64 (flagAt k)):=by
    have:k=0∨k=1∨k=2:=by omega
    rcases this with rfl|rfl|rfl
    ·exact X0.out.cell 0 rfl
    ·exact X0.out.cell 1 rfl
    ·exact X0.out.cell 2 rfl
   have HU:=Lib.hid (show uptoN acc (k+1)=uptoN acc k+bitN acc (flagAt k) from rfl)
   obtain⟨F,hF⟩: ∃F,flagAt k=F:=⟨_,rfl⟩
   rw [hF] at cc HU
   clear hF
   by_cases hb:someB acc F=true
   ·have hb':(bits .and .i64 acc F !=0)=true:=hb
    have HN:=Lib.hid (show bitN acc F=1 by unfold bitN;rw [if_pos hb])
    go_wp2_with fail
    go_round
    case rel=>exact⟨k+1,by omega,by go_num,by rw [HU.out,HN.out];go_num⟩
    case measure=>simp [RowKit.intOf];omega
   ·have hb':(bits .and .i64 acc F !=0)=false:=by simpa [someB] using hb
    have HN:=Lib.hid (show bitN acc F=0 by unfold bitN;rw [if_neg hb])
    go_wp2_with fail
    go_round
    case rel=>exact⟨k+1,by omega,by go_num,by rw [HU.out,HN.out];rfl⟩
    case measure=>simp [RowKit.intOf];omega
abbrev CapB (W:World) (p:Nat) (v:Value):Prop:=W.cell? ⟨p,0,none⟩=some v
theorem CapB.alloc {W:World} {p:Nat} {v:Value} (h:CapB W p v) (hp:p<W.heap.size) (o:Obj):CapB (W.alloc o) p v:=(World.cell?_alloc_lt W o ⟨p,0,none⟩ hp).trans h
theorem field1_any' (x:FieldV) (p1 p2:Nat) (b1 b2:Bool) (w:World) (h1:CapB w p1 (.bool b1)) (h2:CapB w p2 (.bool b2)) (l1:p1<w.heap.size) (l2:p2<w.heap.size):
  Calls Tryz.prog 149 #[fieldV x, .pointer (some ⟨p1,0,none⟩), .pointer (some ⟨p2,0,none⟩)] w fun e w'=>e= .returned (.bool (!b1|| !b2))∧Below w.heap.size w w':=by
 have k1:=h1.alloc l1 (.cells #[.int .i64 x.acc, .int .i64 x.name, .int .i64 x.desc, .int .i64 x.value] 168)
 have k2:=h2.alloc l2 (.cells #[.int .i64 x.acc, .int .i64 x.name, .int .i64 x.desc, .int .i64 x.value] 168)
 have HW:=Lib.hid ((Below.refl w.heap.size w).alloc (Nat.le_refl _) (.cells #[.int .i64 x.acc, .int .i64 x.name, .int .i64 x.desc, .int .i64 x.value] 168))
 unfold fieldV
 cases b1<;>cases b2
 all_goals
  go_enter Tryz.func149,Tryz.ntmps149
  go_wp2_with fail
  go_ret
  exact⟨rfl,HW.out⟩
theorem field2_any' (x:FieldV) (p1:Nat) (s:ByteArray) (w:World) (h1:CapB w p1 (.string s)) (l1:p1<w.heap.size) (hs:s.size≤65536):
  Calls Tryz.prog 150 #[fieldV x, .pointer (some ⟨p1,0,none⟩)] w fun e w'=>e= .returned (.bool (!memberB s.data.toList))∧Below w.heap.size w w':=by
 have k1:=h1.alloc l1 (.cells #[.int .i64 x.acc, .int .i64 x.name, .int .i64 x.desc, .int .i64 x.value] 168)
 have HW:=Lib.hid ((Below.refl w.heap.size w).alloc (Nat.le_refl _) (.cells #[.int .i64 x.acc, .int .i64 x.name, .int .i64 x.desc, .int .i64 x.value] 168))
 have C:=Lib.hid (fun W=>member_any s W (by omega))
 unfold fieldV
 go_enter Tryz.func150,Tryz.ntmps150
 go_wp2_with (go_at_call 151;refine(C.out _).mono ?_;rintro e w1 ⟨rfl,hb⟩;have HB:=Lib.hid (HW.out.trans (hb.mono (by simp)));clear hb)
 go_ret
 exact⟨rfl,HB.out⟩
theorem field3_any' (x:FieldV) (p1:Nat) (s:ByteArray) (w:World) (h1:CapB w p1 (.string s)) (l1:p1<w.heap.size) (hs:s.size≤65536):
  Calls Tryz.prog 152 #[fieldV x, .pointer (some ⟨p1,0,none⟩)] w fun e w'=>e= .returned (.bool (!fieldB s.data.toList))∧Below w.heap.size w w':=by
 have k1:=h1.alloc l1 (.cells #[.int .i64 x.acc, .int .i64 x.name, .int .i64 x.desc, .int .i64 x.value] 168)
 have HW:=Lib.hid ((Below.refl w.heap.size w).alloc (Nat.le_refl _) (.cells #[.int .i64 x.acc, .int .i64 x.name, .int .i64 x.desc, .int .i64 x.value] 168))
 have C:=Lib.hid (fun W=>dfield_any s W (by omega))
 unfold fieldV
 go_enter Tryz.func152,Tryz.ntmps152
 go_wp2_with (go_at_call 139;refine(C.out _).mono ?_;rintro e w1 ⟨rfl,hb⟩;have HB:=Lib.hid (HW.out.trans (hb.mono (by simp)));clear hb)
 go_ret
 exact⟨rfl,HB.out⟩
def fldFlags (cacc facc:Int):Bool:=decide (1<kindsN facc) || (someB cacc 512&& !allB facc 25)
theorem field4_any' (x:FieldV) (bk:Nat) (c:ClassV) (pool ifs flds mths:Value) (w:World) (h1:Bx w bk [.int .i64 c.minor, .int .i64 c.major,pool, .int .i64 c.acc, .int .i64 c.this, .int .i64 c.sup,ifs,flds,mths] 248):
  Calls Tryz.prog 153 #[fieldV x, .pointer (some ⟨bk,0,none⟩)] w fun e w'=>e= .returned (.bool (fldFlags c.acc x.acc))∧Below w.heap.size w w':=by
 have HW:=Lib.hid ((Below.refl w.heap.size w).alloc (Nat.le_refl _) (.cells #[.int .i64 x.acc, .int .i64 x.name, .int .i64 x.desc, .int .i64 x.value] 168))
 have HX:=Lib.hid (h1.below HW.out h1.lt)
 have F0:=Lib.hid (bx_new w [.int .i64 x.acc, .int .i64 x.name, .int .i64 x.desc, .int .i64 x.value] 168)
 obtain⟨n,hn⟩: ∃n,kindsN x.acc=n:=⟨_,rfl⟩
 obtain⟨b2,hb2⟩: ∃b,someB c.acc 512=b:=⟨_,rfl⟩
 obtain⟨b3,hb3⟩: ∃b,allB x.acc 25=b:=⟨_,rfl⟩
 have C1:=Lib.hid (kinds_cnt x.acc)
 have C2:=Lib.hid (fun W=>some_any c.acc 512 W)
 have C3:=Lib.hid (fun W=>all_any x.acc 25 W)
 rw [hn] at C1
 rw [hb2] at C2
 rw [hb3] at C3
 have HP:=Lib.hid (show fldFlags c.acc x.acc=(decide (1<n) || (b2&& !b3)) by unfold fldFlags;rw [hn,hb2,hb3])
 rw [HP.out]
 clear h1 hn hb2 hb3
 unfold fieldV
 by_cases h1n:1<n
 ·have d1:decide ((n:Int) >1)=true:=by simp;omega
  rw [decide_eq_true h1n]
  go_enter Tryz.func153,Tryz.ntmps153
  go_wp2_with (go_at_call 154;refine(C1.out _).mono ?_;rintro e w1 ⟨rfl,hb⟩;have HB:=Lib.hid (HW.out.trans (hb.mono (by simp)));clear hb)
  go_ret
  exact⟨by simp,HB.out⟩
 ·have d1:decide ((n:Int) >1)=false:=by simp;omega
  rw [decide_eq_false h1n]
  cases b2<;>cases b3
  all_goals
   go_enter Tryz.func153,Tryz.ntmps153
   go_wp2_with (first
    | (go_at_call 154;refine(C1.out _).mono ?_;rintro e w1 ⟨rfl,hb⟩;have HB:=Lib.hid (HW.out.trans (hb.mono (by simp)));have hx3:=(HX.out.below hb HX.out.lt).cell 3 rfl;have hf0:=(F0.out.below hb (by simp)).cell 0 rfl;clear hb)
    | (go_at_call 146;refine(C2.out _).mono ?_;rintro e w2 ⟨rfl,rfl⟩)
    | (go_at_call 147;refine(C3.out _).mono ?_;rintro e w2 ⟨rfl,rfl⟩))
   go_ret
   exact⟨by simp,HB.out⟩
set_option maxHeartbeats 4000000
def fldValue (pool:List Ko) (x:FieldV) (d:List UInt8):Bool:=((x.value:Int) !=0)&&(!someB x.acc 8|| !(d== [73]) || !(kindAt pool x.value 3).isSome)
theorem field6_any' (x:FieldV) (bk p2:Nat) (d:ByteArray) (c:ClassV) (A:Option Addr) (cap:Nat) (ifs flds mths:Value) (ok:Nat→Prop) (w:World) (h:BookOk w ok c A cap ifs flds mths) (h1:Bx w bk [.int .i64 c.minor, .int .i64 c.major, .slice A c.pool.length cap, .int .i64 c.acc, .int .i64 c.this, .int .i64 c.sup,ifs,flds,mths] 248) (h2:CapB w p2 (.string d)) (l2:p2<w.heap.size) (hn:Fine x.value):
  Calls Tryz.prog 156 #[fieldV x, .pointer (some ⟨bk,0,none⟩), .pointer (some ⟨p2,0,none⟩)] w fun e w'=>e= .returned (.bool (fldValue c.pool x d.data.toList))∧Below w.heap.size w w':=by
 have HW:=Lib.hid ((Below.refl w.heap.size w).alloc (Nat.le_refl _) (.cells #[.int .i64 x.acc, .int .i64 x.name, .int .i64 x.desc, .int .i64 x.value] 168))
 have HX:=Lib.hid (h1.below HW.out h1.lt)
 have F0:=Lib.hid (bx_new w [.int .i64 x.acc, .int .i64 x.name, .int .i64 x.desc, .int .i64 x.value] 168)
 have H0:=Lib.hid (h.below HW.out)
 have K2:=Lib.hid (h2.alloc l2 (.cells #[.int .i64 x.acc, .int .i64 x.name, .int .i64 x.desc, .int .i64 x.value] 168))
 have hz0:(w.alloc (.cells #[.int .i64 x.acc, .int .i64 x.name, .int .i64 x.desc, .int .i64 x.value] 168)).heap.size=w.heap.size+1:=by simp
 have HN:=Lib.hid hn
 obtain⟨b1,hb1⟩: ∃b,((x.value:Int) !=0)=b:=⟨_,rfl⟩
 obtain⟨b2,hb2⟩: ∃b,someB x.acc 8=b:=⟨_,rfl⟩
 obtain⟨b3,hb3⟩: ∃b,b=(d.data.toList== [73]):=⟨_,rfl⟩
 have e3:(d.toList== [73])=b3:=by rw [ByteArray.toList_eq,hb3]
 have C2:=Lib.hid (fun W=>some_any x.acc 8 W)
 rw [hb2] at C2
 rcases hk:kindAt c.pool x.value 3 with _|k
 ·have HK:=Lib.hid hk
  have HP:=Lib.hid (show fldValue c.pool x d.data.toList=(b1&&(!b2|| !b3|| !(kindAt c.pool x.value 3).isSome)) by unfold fldValue;rw [hb1,hb2,hb3])
  rw [HP.out,hk]
  clear h h1 h2 hk hb2 hb3 hn
  unfold fieldV
  cases b1<;>cases b2<;>cases b3
  all_goals
   go_enter Tryz.func156,Tryz.ntmps156
   go_wp2_with (first
    | (refine wpList_load_row rfl _ _ rfl bk rfl _ _ _ _ HX.out Tryz.underlying248 rfl (by kernel_rfl) ?_)
    | (go_at_call 114;refine(at_book c A cap ifs flds mths x.value 3 ok _ H0.out.hp H0.out.h1 H0.out.h2 H0.out.h3 HN.out.2 HN.out.1).mono ?_;rw [HK.out];rintro e w1 ⟨rfl,hb⟩;simp only [kindV,koV,Option.getD_none,Option.getD_some,Option.isSome_none,Option.isSome_some,koZero];refine stop_here ?_))
   have hz1:=hb.size
   rw [hz0] at hz1
   have hba:=hb.trans ((Below.refl w1.heap.size w1).alloc (Nat.le_refl _) (.cells #[.int .i64 0, .string ⟨#[]⟩, .int .i64 0, .int .i64 0, .int .i64 0] 81) |>.mono hb.size)
   have HB:=Lib.hid (HW.out.trans (hba.mono (by omega)))
   have f0:=(F0.out.below hba (by omega)).cell 0 rfl
   have f3:=(F0.out.below hba (by omega)).cell 3 rfl
   have d0:=(hba.cell (p:=⟨p2,0,none⟩) (show p2<_ by omega)).trans K2.out
   clear hba
   clear hb
   refine go_on ?_
   go_wp2_with (go_at_call 146;refine(C2.out _).mono ?_;rintro e w2 ⟨rfl,rfl⟩)
   go_ret
   exact⟨by simp,HB.out⟩
 ·have HK:=Lib.hid hk
  have HP:=Lib.hid (show fldValue c.pool x d.data.toList=(b1&&(!b2|| !b3|| !(kindAt c.pool x.value 3).isSome)) by unfold fldValue;rw [hb1,hb2,hb3])
  rw [HP.out,hk]
  clear h h1 h2 hk hb2 hb3 hn
  unfold fieldV
  cases b1<;>cases b2<;>cases b3
  all_goals
   go_enter Tryz.func156,Tryz.ntmps156
   go_wp2_with (first
    | (refine wpList_load_row rfl _ _ rfl bk rfl _ _ _ _ HX.out Tryz.underlying248 rfl (by kernel_rfl) ?_)
    | (go_at_call 114;refine(at_book c A cap ifs flds mths x.value 3 ok _ H0.out.hp H0.out.h1 H0.out.h2 H0.out.h3 HN.out.2 HN.out.1).mono ?_;rw [HK.out];rintro e w1 ⟨rfl,hb⟩;simp only [kindV,koV,Option.getD_none,Option.getD_some,Option.isSome_none,Option.isSome_some,koZero];refine stop_here ?_))
   have hz1:=hb.size
   rw [hz0] at hz1
   have hba:=hb.trans ((Below.refl w1.heap.size w1).alloc (Nat.le_refl _) (.cells #[.int .i64 k.tag, .string k.text, .int .i64 k.num, .int .i64 k.a, .int .i64 k.b] 81) |>.mono hb.size)
   have HB:=Lib.hid (HW.out.trans (hba.mono (by omega)))
   have f0:=(F0.out.below hba (by omega)).cell 0 rfl
   have f3:=(F0.out.below hba (by omega)).cell 3 rfl
   have d0:=(hba.cell (p:=⟨p2,0,none⟩) (show p2<_ by omega)).trans K2.out
   clear hba
   clear hb
   refine go_on ?_
   go_wp2_with (go_at_call 146;refine(C2.out _).mono ?_;rintro e w2 ⟨rfl,rfl⟩)
   go_ret
   exact⟨by simp,HB.out⟩
end Go.Proofs.YtpbnjakeielipaaGreatDoor
set_option maxHeartbeats 1000000
namespace Go.Proofs.YtpbnjakeielipaaGreatDoor
open Go Go.RowKit Lib Go.Maps
theorem keyed_key:Keyed Tryz.prog 283:=Keyed.of_law (deep_law (m:=5) (by omega) (by kernel_rfl) (by kernel_rfl) (by rw [Tryz.underlying283]))
abbrev NmD:=List UInt8×List UInt8
def keyV (p:NmD):Value:= .agg #[.string ⟨p.1.toArray⟩, .string ⟨p.2.toArray⟩]
theorem cells_key:Tryz.prog.cellsOf 283=2:=by kernel_rfl
theorem cells_str:Tryz.prog.cellsOf 9=1:=by kernel_rfl
theorem keytype_key:Tryz.prog.keyType 283=true:=by kernel_rfl
theorem types_size: ∃m,Tryz.prog.types.size+1=m+1+1:=⟨Tryz.prog.types.size - 1,by have:0<Tryz.prog.types.size:=of_decide_eq_true (by kernel_rfl);omega⟩
theorem keyLits_two (m:Nat) (a b:ByteArray) (h1:a.size≤maxLen) (h2:b.size≤maxLen):Tryz.prog.keyLits (m+1+1) 283 [.string a, .string b]=some [.string a.data.toList, .string b.data.toList]:=by
 unfold Program.keyLits
 simp only [Tryz.underlying283]
 rw [if_pos ⟨by rw [cells_key];rfl,by simp⟩]
 simp only [List.mapM_cons,List.mapM_nil,cells_str]
 unfold Program.keyLits
 simp [Tryz.underlying9,h1,h2]
theorem key_of (p:NmD) (h1:p.1.length≤65536) (h2:p.2.length≤65536): ∃l,keyOf Tryz.prog 283 (keyV p)=some l:=by
 obtain⟨m,hm⟩:=types_size
 unfold keyV keyOf
 simp only [Tryz.underlying283]
 rw [if_pos]
 ·rw [hm]
  show∃l,Option.map _ (Tryz.prog.keyLits (m+1+1) 283 [.string ⟨p.1.toArray⟩, .string ⟨p.2.toArray⟩])=some l
  rw [keyLits_two m _ _ (by simp [ByteArray.size,maxLen];omega) (by simp [ByteArray.size,maxLen];omega)]
  exact⟨_,rfl⟩
 ·rw [keytype_key]
  simp [Value.formed,Tryz.underlying283,cells_key]
theorem keyV_inj {p q:NmD} (h:keyV p=keyV q):p=q:=by
 unfold keyV at h
 simp only [Value.agg.injEq,Array.mk.injEq,List.cons.injEq,Value.string.injEq,ByteArray.mk.injEq,and_true] at h
 exact Prod.ext h.1 h.2
def SmallK (p:NmD):Prop:=p.1.length≤65536∧p.2.length≤65536
structure SeenG (es:Array MapEntry) (clock:Nat) (ks:List NmD) (cnt:NmD→Nat):Prop where
 small: ∀p∈ks,SmallK p
 key: ∀(j:Nat) e,es[j]?=some e→ ∃p,p∈ks∧e.key=keyV p∧e.val= .int .i64 (cnt p)
 has: ∀p∈ks, ∃(j:Nat) (e:MapEntry),es[j]?=some e∧e.key=keyV p
 born: ∀(j:Nat) e,es[j]?=some e→e.born<clock
 uniq: ∀(i j:Nat) e e',es[i]?=some e→es[j]?=some e'→e.key=e'.key∨e.born=e'.born→i=j
theorem SeenG.keys {es:Array MapEntry} {clock:Nat} {ks:List NmD} {cnt:NmD→Nat} (h:SeenG es clock ks cnt): ∀e∈es.toList, ∃l,keyOf Tryz.prog 283 e.key=some l:=fun e he=>by
 obtain⟨j,hj⟩:=List.mem_iff_getElem?.1 he
 obtain⟨p,hp,hk,_⟩:=h.key j e (by simpa using hj)
 rw [hk]
 exact key_of p (h.small p hp).1 (h.small p hp).2
theorem look_seen {w:World} {b:Nat} {es:Array MapEntry} {clock:Nat} {ks:List NmD} {cnt:NmD→Nat} (hb:w.heap[b]?=some (.map es clock)) (h:SeenG es clock ks cnt) (p:NmD) (hp:SmallK p) (h0:p∉ks→cnt p=0):
  (Instr.lookup 261 (.map (some b)) (keyV p) false).run Tryz.prog w= .ok (.int .i64 (cnt p)) w:=by
 obtain⟨l,hl⟩:=key_of p hp.1 hp.2
 have hz:(zeroValue 3).run Tryz.prog w= .ok (.int .i64 0) w:=by kernel_rfl
 rcases keyed_key.find w hl es.toList h.keys with⟨hf,hno⟩ | ⟨j,e,hf,hj,hk⟩
 ·have hc:cnt p=0:=h0 fun hm=>by
   obtain⟨j,e,he,hk⟩:=h.has p hm
   exact hno e (List.mem_of_getElem? (by simpa using he)) hk
  rw [hc]
  simp [Instr.lookup,Sem.run_bind,run_underlying Tryz.underlying261,Result.andThen,MapKept.run_getObj_map hb,keyed_key.check w es.isEmpty hl,hf,hz]
 ·obtain⟨q,hq,hk2,hv⟩:=h.key j e (by simpa using hj)
  have hqp:q=p:=keyV_inj (hk2.symm.trans hk)
  subst hqp
  simp [Instr.lookup,Sem.run_bind,run_underlying Tryz.underlying261,Result.andThen,MapKept.run_getObj_map hb,keyed_key.check w es.isEmpty hl,hf,hv]
theorem entry_seen {w:World} {b:Nat} {es:Array MapEntry} {clock:Nat} {ks:List NmD} {cnt:NmD→Nat} (hb:w.heap[b]?=some (.map es clock)) (h:SeenG es clock ks cnt) (p:NmD) (hp:SmallK p) (h0:p∉ks→cnt p=0):
  ∃es1 clock1 born,(Instr.mapEntry 261 (.map (some b)) (keyV p)).run Tryz.prog w= .ok (.tuple #[.int .i64 (cnt p), .int .i64 (born:Nat)]) (w.putObj b (.map es1 clock1))∧SeenG es1 clock1 (p::ks) cnt∧ ∃(j:Nat) (e:MapEntry),es1[j]?=some e∧e.key=keyV p∧e.born=born:=by
 obtain⟨l,hl⟩:=key_of p hp.1 hp.2
 have hz:(zeroValue 3).run Tryz.prog w= .ok (.int .i64 0) w:=by kernel_rfl
 rcases keyed_key.find w hl es.toList h.keys with⟨hf,hno⟩ | ⟨j,e,hf,hj,hk⟩
 ·have hnp:p∉ks:=fun hm=>by
   obtain⟨j,e,he,hk⟩:=h.has p hm
   exact hno e (List.mem_of_getElem? (by simpa using he)) hk
  refine⟨es.push { key:=keyV p,val:= .int .i64 0,born:=clock },clock+1,clock, ?_, ?_,es.size,_,Array.getElem?_push_size,rfl,rfl⟩
  ·rw [h0 hnp]
   simp [Instr.mapEntry,Sem.run_bind,run_underlying Tryz.underlying261,Result.andThen,MapKept.run_getObj_map hb,keyed_key.check w false hl,hf,hz,goInt,MapKept.run_setObj_map _ hb,World.putObj]
  ·have hget: ∀(i:Nat) x,(es.push { key:=keyV p,val:= .int .i64 0,born:=clock })[i]?=some x→es[i]?=some x∨(i=es.size∧x={ key:=keyV p,val:= .int .i64 0,born:=clock }):=by
    intro i x hx
    rw [Array.getElem?_push] at hx
    split at hx
    ·exact .inr ⟨by assumption,by injection hx with hx;exact hx.symm⟩
    ·exact .inl hx
   refine⟨fun q hq=> ?_,fun i x hx=> ?_,fun q hq=> ?_,fun i x hx=> ?_,fun i i' x x' hx hx' hor=> ?_⟩
   ·rcases List.mem_cons.1 hq with rfl|hq
    ·exact hp
    ·exact h.small q hq
   ·rcases hget i x hx with hx| ⟨rfl,rfl⟩
    ·obtain⟨q,hq,r⟩:=h.key i x hx
     exact⟨q,List.mem_cons_of_mem _ hq,r⟩
    ·exact⟨p,by simp,rfl,by rw [h0 hnp];rfl⟩
   ·rcases List.mem_cons.1 hq with rfl|hq
    ·exact⟨es.size,_,Array.getElem?_push_size,rfl⟩
    ·obtain⟨i,x,hx,hk⟩:=h.has q hq
     refine⟨i,x, ?_,hk⟩
     rw [Array.getElem?_push,if_neg (by have:=(Array.getElem?_eq_some_iff.1 hx).1;omega)]
     exact hx
   ·rcases hget i x hx with hx| ⟨rfl,rfl⟩
    ·have:=h.born i x hx
     omega
    ·show clock<clock+1
     omega
   ·rcases hget i x hx with hx| ⟨rfl,rfl⟩ <;>rcases hget i' x' hx' with hx'| ⟨rfl,rfl⟩
    ·exact h.uniq i i' x x' hx hx' hor
    ·exfalso
     rcases hor with hor|hor
     ·exact hno x (List.mem_of_getElem? (by simpa using hx)) hor
     ·have:=h.born i x hx
      have h2:x.born=clock:=hor
      omega
    ·exfalso
     rcases hor with hor|hor
     ·exact hno x' (List.mem_of_getElem? (by simpa using hx')) hor.symm
     ·have:=h.born i' x' hx'
      have h2:clock=x'.born:=hor
      omega
    ·rfl
 ·obtain⟨q,hq,hk2,hv⟩:=h.key j e (by simpa using hj)
  have hqp:q=p:=keyV_inj (hk2.symm.trans hk)
  subst hqp
  have hje:es[j]?=some e:=by simpa using hj
  have hsame:es.modify j (fun e=> { e with key:=keyV q })=es:=by
   apply Array.ext_getElem?
   intro i
   rw [Array.getElem?_modify]
   split
   ·rename_i hij
    subst hij
    rw [hje]
    simp [←hk]
   ·rfl
  refine⟨es,clock,e.born, ?_,⟨fun x hx=> ?_,fun i x hx=> ?_,fun x hx=> ?_,h.born,h.uniq⟩,j,e,hje,hk,rfl⟩
  ·simp [Instr.mapEntry,Sem.run_bind,run_underlying Tryz.underlying261,Result.andThen,MapKept.run_getObj_map hb,keyed_key.check w false hl,hf,hje,hk,keyed_key.stays w hl,hv,goInt,MapKept.run_setObj_map _ hb,World.putObj,hsame]
  ·rcases List.mem_cons.1 hx with rfl|hx
   ·exact hp
   ·exact h.small x hx
  ·obtain⟨q',hq',r⟩:=h.key i x hx
   exact⟨q',List.mem_cons_of_mem _ hq',r⟩
  ·rcases List.mem_cons.1 hx with rfl|hx
   ·exact⟨j,e,hje,hk⟩
   ·exact h.has x hx
theorem store_seen {w:World} {b:Nat} {es:Array MapEntry} {clock:Nat} {ks:List NmD} {cnt:NmD→Nat} (hb:w.heap[b]?=some (.map es clock)) (h:SeenG es clock ks cnt) (p:NmD) (born v:Nat) (hp:p∈ks) (he: ∃(j:Nat) (e:MapEntry),es[j]?=some e∧e.key=keyV p∧e.born=born) (cnt':NmD→Nat) (hv:cnt' p=v) (hc: ∀q,q≠p→cnt' q=cnt q):
  ∃es1,(Instr.entryStore 261 (.map (some b)) (.int .i64 (born:Nat)) (.int .i64 (v:Nat))).run Tryz.prog w= .ok () (w.putObj b (.map es1 clock))∧SeenG es1 clock ks cnt':=by
 obtain⟨j,e,hj,hk,rfl⟩:=he
 have hfind:es.findIdx? (fun x=> (x.born:Int)==(e.born:Int))=some j:=by
  rw [Array.findIdx?_eq_some_iff_getElem]
  obtain⟨hlt,hej⟩:=Array.getElem?_eq_some_iff.1 hj
  refine⟨hlt,by rw [hej];simp,fun i hi=> ?_⟩
  intro hx
  have hb2:es[i].born=e.born:=by have h3:=eq_of_beq hx;omega
  have:=h.uniq i j _ _ (Array.getElem?_eq_getElem (by omega)) hj (.inr hb2)
  omega
 have hget: ∀(i:Nat) x,(es.modify j fun e=> { e with val:= .int .i64 (v:Nat) })[i]?=some x→(i=j∧x={ e with val:= .int .i64 (v:Nat) })∨(i≠j∧es[i]?=some x):=by
  intro i x hx
  rw [Array.getElem?_modify] at hx
  split at hx
  ·rename_i hij
   subst hij
   rw [hj] at hx
   simp only [Option.map_some,Option.some.injEq] at hx
   exact .inl ⟨rfl,hx.symm⟩
  ·rename_i hij
   exact .inr ⟨fun e=>hij e.symm,hx⟩
 have hback: ∀(i:Nat) x,es[i]?=some x→ ∃y,(es.modify j fun e=> { e with val:= .int .i64 (v:Nat) })[i]?=some y∧y.key=x.key∧y.born=x.born:=by
  intro i x hx
  rw [Array.getElem?_modify]
  split
  ·rw [hx]
   exact⟨_,rfl,rfl,rfl⟩
  ·exact⟨x,hx,rfl,rfl⟩
 have hold: ∀(i:Nat) x,(es.modify j fun e=> { e with val:= .int .i64 (v:Nat) })[i]?=some x→ ∃y,es[i]?=some y∧x.key=y.key∧x.born=y.born:=by
  intro i x hx
  rcases hget i x hx with⟨rfl,rfl⟩ | ⟨_,hx⟩
  ·exact⟨e,hj,rfl,rfl⟩
  ·exact⟨x,hx,rfl,rfl⟩
 refine⟨es.modify j fun e=> { e with val:= .int .i64 (v:Nat) }, ?_,h.small,fun i x hx=> ?_,fun q hq=> ?_,fun i x hx=> ?_,fun i i' x x' hx hx' hor=> ?_⟩
 ·simp [Instr.entryStore,Sem.run_bind,Result.andThen,MapKept.run_getObj_map hb,asInt,asIntOf,hfind,MapKept.run_setObj_map _ hb,World.putObj]
 ·rcases hget i x hx with⟨rfl,rfl⟩ | ⟨hne,hx⟩
  ·exact⟨p,hp,hk,by rw [hv]⟩
  ·obtain⟨q,hq,hk2,hv2⟩:=h.key i x hx
   refine⟨q,hq,hk2, ?_⟩
   rw [hc q,hv2]
   intro hqp
   subst hqp
   exact hne (h.uniq i j x e hx hj (.inl (hk2.trans hk.symm)))
 ·obtain⟨i,x,hx,hkx⟩:=h.has q hq
  obtain⟨y,hy,hy1,_⟩:=hback i x hx
  exact⟨i,y,hy,hy1.trans hkx⟩
 ·obtain⟨y,hy,_,hy2⟩:=hold i x hx
  rw [hy2]
  exact h.born i y hy
 ·obtain⟨y,hy,hy1,hy2⟩:=hold i x hx
  obtain⟨y',hy',hy1',hy2'⟩:=hold i' x' hx'
  refine h.uniq i i' y y' hy hy' ?_
  rw [←hy1, ←hy1', ←hy2, ←hy2']
  exact hor
theorem wrap_small (n:Nat) (h:n≤1048576):IntKind.i64.wrap ((n:Int)+1)=(n:Int)+1:=by
 have e1:((n:Int)+1)%2^IntKind.i64.bits=(n:Int)+1:=by
  show((n:Int)+1)%18446744073709551616=(n:Int)+1
  omega
 have e2: ¬((2:Int)^(IntKind.i64.bits - 1)≤(n:Int)+1):=by
  show¬((9223372036854775808:Int)≤(n:Int)+1)
  omega
 simp only [IntKind.wrap]
 rw [e1,if_neg (fun h=>e2 (by simp only [Bool.and_eq_true,decide_eq_true_eq] at h;exact h.2))]
def SeenM (w:World) (b:Nat) (seen:List NmD):Prop:= ∃es clock,w.heap[b]?=some (.map es clock)∧SeenG es clock seen (fun p=>seen.count p)
theorem field5_any' (x:FieldV) (p1 p2 p3 b:Nat) (nm d:ByteArray) (seen:List NmD) (w:World) (h1:CapB w p1 (.map (some b))) (h2:CapB w p2 (.string nm)) (h3:CapB w p3 (.string d)) (l1:p1<w.heap.size) (l2:p2<w.heap.size) (l3:p3<w.heap.size) (hs2:nm.size≤65536) (hs3:d.size≤65536) (hlen:seen.length≤1048576) (hS:SeenM w b seen):
  Calls Tryz.prog 155 #[fieldV x, .pointer (some ⟨p1,0,none⟩), .pointer (some ⟨p2,0,none⟩), .pointer (some ⟨p3,0,none⟩)] w fun e w'=>e= .returned (.bool (decide ((nm.data.toList,d.data.toList)∈seen)))∧But w.heap.size [b] w w'∧SeenM w' b ((nm.data.toList,d.data.toList)::seen):=by
 obtain⟨es,clock,hm,hg⟩:=hS
 have lb:b<w.heap.size:=(Array.getElem?_eq_some_iff.1 hm).1
 have HW:=Lib.hid ((Below.refl w.heap.size w).alloc (Nat.le_refl _) (.cells #[.int .i64 x.acc, .int .i64 x.name, .int .i64 x.desc, .int .i64 x.value] 168))
 have k1:=(h1.alloc l1 (.cells #[.int .i64 x.acc, .int .i64 x.name, .int .i64 x.desc, .int .i64 x.value] 168))
 have k2:=(h2.alloc l2 (.cells #[.int .i64 x.acc, .int .i64 x.name, .int .i64 x.desc, .int .i64 x.value] 168))
 have k3:=(h3.alloc l3 (.cells #[.int .i64 x.acc, .int .i64 x.name, .int .i64 x.desc, .int .i64 x.value] 168))
 have hm0:(w.alloc (.cells #[.int .i64 x.acc, .int .i64 x.name, .int .i64 x.desc, .int .i64 x.value] 168)).heap[b]?=some (.map es clock):=(Below.heap_alloc _ _ _ lb).trans hm
 obtain⟨q,hq⟩: ∃q:NmD,q=(nm.data.toList,d.data.toList):=⟨_,rfl⟩
 have hkv:keyV q= .agg #[.string nm, .string d]:=by rw [hq];rfl
 have hsq:SmallK q:=by rw [hq];exact⟨Nat.le_trans (Nat.le_of_eq Array.length_toList) hs2,Nat.le_trans (Nat.le_of_eq Array.length_toList) hs3⟩
 rw [←hq]
 obtain⟨n,hn⟩: ∃n,seen.count q=n:=⟨_,rfl⟩
 have hn0:q∉seen→n=0:=fun h=>by rw [←hn];exact List.count_eq_zero.2 h
 have hnl:n≤1048576:=by rw [←hn];exact Nat.le_trans List.count_le_length hlen
 have hdec:decide (q∈seen)=decide (1<n+1):=by
  by_cases hin:q∈seen
  ·have:0<seen.count q:=List.count_pos_iff.2 hin
   rw [decide_eq_true hin,decide_eq_true (by omega)]
  ·have:=hn0 hin
   rw [decide_eq_false hin,decide_eq_false (by omega)]
 have HG:=Lib.hid hg
 have HD:=Lib.hid hdec
 have HKV:=Lib.hid hkv
 clear hg h1 h2 h3 hm hdec
 unfold fieldV
 go_enter Tryz.func155,Tryz.ntmps155
 go_wp2_with fail
 have hbx:=HW.out.size
 have hld:Below (w.alloc (.cells #[.int .i64 x.acc, .int .i64 x.name, .int .i64 x.desc, .int .i64 x.value] 168)).heap.size (w.alloc (.cells #[.int .i64 x.acc, .int .i64 x.name, .int .i64 x.desc, .int .i64 x.value] 168)) (w.alloc (.cells #[.int .i64 x.acc, .int .i64 x.name, .int .i64 x.desc, .int .i64 x.value] 168)).drew:=(Below.refl _ _).drew
 refine wp_region_held_drew (S:=fun w'=>w'.cell? ⟨p1,0,none⟩=some (.map (some b))∧w'.cell? ⟨p2,0,none⟩=some (.string nm)∧w'.cell? ⟨p3,0,none⟩=some (.string d)) rfl ⟨k1,k2,k3⟩ (fun hS=> ?_)
 have HWD:=Lib.hid (HW.out.trans (hld.mono (by simp)))
 have hmd:(w.alloc (.cells #[.int .i64 x.acc, .int .i64 x.name, .int .i64 x.desc, .int .i64 x.value] 168)).drew.heap[b]?=some (.map es clock):=hm0
 have hzd:(w.alloc (.cells #[.int .i64 x.acc, .int .i64 x.name, .int .i64 x.desc, .int .i64 x.value] 168)).drew.heap.size=w.heap.size+1:=by show(w.alloc _).heap.size=_;simp
 clear hm0 hld hbx HW k1 k2 k3
 generalize (w.alloc (.cells #[.int .i64 x.acc, .int .i64 x.name, .int .i64 x.desc, .int .i64 x.value] 168)).drew=wa at*
 have hlk:=look_seen hmd HG.out q hsq (fun h=>by show seen.count q=0;exact List.count_eq_zero.2 h)
 obtain⟨es1,clock1,born,hen,hg1,hat⟩:=entry_seen hmd HG.out q hsq (fun h=>by show seen.count q=0;exact List.count_eq_zero.2 h)
 simp only [hn] at hlk hen
 have hm1:(wa.putObj b (.map es1 clock1)).heap[b]?=some (.map es1 clock1):=World.putObj_heap_same (by omega)
 have hlk1:=look_seen hm1 hg1 q hsq (fun h=>absurd (by simp) h)
 simp only [hn] at hlk1
 obtain⟨es2,hst,hg2⟩:=store_seen hm1 hg1 q born (n+1) (by simp) hat (fun x=> (q::seen).count x) (by simp [hn]) (fun x hx=>by rw [List.count_cons_of_ne (fun e=>hx e.symm)])
 have hm2:((wa.putObj b (.map es1 clock1)).putObj b (.map es2 clock1)).heap[b]?=some (.map es2 clock1):=World.putObj_heap_same (by simp;omega)
 have hlk2:=look_seen hm2 hg2 q hsq (fun h=>absurd (by simp) h)
 simp only [List.count_cons_self,hn] at hlk2
 rw [show((n+1:Nat):Int)=(n:Int)+1 from rfl] at hlk2 hst
 have gr1:=grownBy_putObj' wa b (.map es1 clock1)
 have gr2:=grownBy_putObj' (wa.putObj b (.map es1 clock1)) b (.map es2 clock1)
 have nc1: ∀r,some b=some r→ ∃o:Obj,wa.heap[r]?=some o∧o.isCells=false:=fun r e=>by cases e;exact⟨_,hmd,rfl⟩
 have nc2: ∀r,some b=some r→ ∃o:Obj,(wa.putObj b (.map es1 clock1)).heap[r]?=some o∧o.isCells=false:=fun r e=>by cases e;exact⟨_,hm1,rfl⟩
 have hS1:=And.intro (cell_kept hS.1 gr1 nc1) (And.intro (cell_kept hS.2.1 gr1 nc1) (cell_kept hS.2.2 gr1 nc1))
 have hS2:=And.intro (cell_kept hS1.1 gr2 nc2) (And.intro (cell_kept hS1.2.1 gr2 nc2) (cell_kept hS1.2.2 gr2 nc2))
 have HB2:=Lib.hid (show But w.heap.size [b] w ((wa.putObj b (.map es1 clock1)).putObj b (.map es2 clock1)) from((But.of_below (S:= [b]) HWD.out).grown gr1 (by omega) (fun k hk=> .inl (by injection hk with hk;simp [hk]))).grown gr2 (by simp;omega) (fun k hk=> .inl (by injection hk with hk;simp [hk])))
 have HM2:=Lib.hid (show SeenM ((wa.putObj b (.map es1 clock1)).putObj b (.map es2 clock1)) b (q::seen) from⟨es2,clock1,hm2,hg2⟩)
 rw [hkv] at hlk hen hlk1 hlk2
 clear hm1 hm2 gr1 gr2 nc1 nc2 hg1 hg2 hat hmd
 generalize wa.putObj b (.map es1 clock1)=wb at*
 generalize wb.putObj b (.map es2 clock1)=wc at*
 refine wpAnyH_take (i:=0) (oi:={ dst:=some 6,op:=Op.load 261 (Operand.tmp 1),type:=261,pos:= "check.go:184",after:= #[],guard:=none }) (v:= .map (some b)) rfl (by kernel_rfl) (by kernel_rfl) (by kernel_rfl) (fun _ _ _ h=>h) (Or.inl ⟨by rfl,fun w' hw'=> ?_⟩) hS ?_
 ·obtain⟨z1,z2,z3⟩:=hw'
  go_simp
 try simp only [Act.put,List.setIfInBounds_toArray,List.set_cons_zero,List.set_cons_succ]
 refine wpAnyH_take (i:=1) (oi:={ dst:=some 7,op:=Op.load 9 (Operand.tmp 2),type:=9,pos:= "check.go:184",after:= #[],guard:=none }) (v:= .string nm) rfl (by kernel_rfl) (by kernel_rfl) (by kernel_rfl) (fun _ _ _ h=>h) (Or.inl ⟨by rfl,fun w' hw'=> ?_⟩) hS ?_
 ·obtain⟨z1,z2,z3⟩:=hw'
  go_simp
 try simp only [Act.put,List.setIfInBounds_toArray,List.set_cons_zero,List.set_cons_succ]
 refine wpAnyH_take (i:=2) (oi:={ dst:=some 8,op:=Op.load 9 (Operand.tmp 3),type:=9,pos:= "check.go:184",after:= #[],guard:=none }) (v:= .string d) rfl (by kernel_rfl) (by kernel_rfl) (by kernel_rfl) (fun _ _ _ h=>h) (Or.inl ⟨by rfl,fun w' hw'=> ?_⟩) hS ?_
 ·obtain⟨z1,z2,z3⟩:=hw'
  go_simp
 try simp only [Act.put,List.setIfInBounds_toArray,List.set_cons_zero,List.set_cons_succ]
 refine wpAnyH_take (i:=3) (v:= .agg #[.string nm, .string d]) rfl (by kernel_rfl) (by kernel_rfl) (by kernel_rfl) (fun _ _ _ h=>h) (Or.inl ⟨by rfl,fun w' hw'=> ?_⟩) hS ?_
 ·go_simp
 try simp only [Act.put,List.setIfInBounds_toArray,List.set_cons_zero,List.set_cons_succ]
 refine wpAnyH_ready (rs:= [4,6]) (by kernel_rfl) (by simp) ?_
 refine AllReadyH.cons rfl (fun K hK=> ?_) (AllReadyH.cons rfl (fun K hK=> ?_) AllReadyH.nil)
 ·refine if_yes (by rfl) ?_
  go_wp2
  refine hK.out _ _ hS (fun _=> ?_)
  clear hK K
  try simp only [Act.put,List.setIfInBounds_toArray,List.set_cons_zero,List.set_cons_succ]
  refine wpAnyH_take (i:=5) (v:= .int .i64 ((n:Int)+1)) rfl (by kernel_rfl) (by kernel_rfl) (by kernel_rfl) (fun _ _ _ h=>h) (Or.inl ⟨by rfl,fun w' hw'=> ?_⟩) hS ?_
  ·go_simp
   try exact wrap_small n hnl
  try simp only [Act.put,List.setIfInBounds_toArray,List.set_cons_zero,List.set_cons_succ]
  refine wpAnyH_ready (rs:= [6]) (by kernel_rfl) (by simp) ?_
  refine AllReadyH.cons rfl (fun K hK=> ?_) AllReadyH.nil
  refine if_yes (by rfl) ?_
  go_wp2
  refine hK.out _ _ hS1 (fun _=> ?_)
  clear hK K
  try simp only [Act.put,List.setIfInBounds_toArray,List.set_cons_zero,List.set_cons_succ]
  refine wpAnyH_take (i:=7) (v:= .int .i64 (born:Nat)) rfl (by kernel_rfl) (by kernel_rfl) (by kernel_rfl) (fun _ _ _ h=>h) (Or.inl ⟨by rfl,fun w' hw'=> ?_⟩) hS1 ?_
  ·go_simp
  try simp only [Act.put,List.setIfInBounds_toArray,List.set_cons_zero,List.set_cons_succ]
  refine wpAnyH_ready (rs:= [8]) (by kernel_rfl) (by simp) ?_
  refine AllReadyH.cons rfl (fun K hK=> ?_) AllReadyH.nil
  refine if_yes (by rfl) ?_
  go_wp2
  refine hK.out _ _ hS2 (fun _=> ?_)
  clear hK K
  try simp only [Act.put,List.setIfInBounds_toArray,List.set_cons_zero,List.set_cons_succ]
  refine wpAnyH_done (by kernel_rfl) ?_ _
  obtain⟨z1,z2,z3⟩:=hS2
  have hgt:decide ((n:Int)+1>1)=decide (1<n+1):=by
   by_cases h:1<n+1
   ·rw [decide_eq_true h,decide_eq_true (by omega)]
   ·rw [decide_eq_false h,decide_eq_false (by omega)]
  go_wp2
  go_ret
  exact⟨by rw [HD.out];simp,HB2.out,HM2.out⟩
 ·refine if_yes (by rfl) ?_
  go_wp2
  refine hK.out _ _ hS1 (fun _=> ?_)
  clear hK K
  try simp only [Act.put,List.setIfInBounds_toArray,List.set_cons_zero,List.set_cons_succ]
  refine wpAnyH_take (i:=7) (v:= .int .i64 (born:Nat)) rfl (by kernel_rfl) (by kernel_rfl) (by kernel_rfl) (fun _ _ _ h=>h) (Or.inl ⟨by rfl,fun w' hw'=> ?_⟩) hS1 ?_
  ·go_simp
  try simp only [Act.put,List.setIfInBounds_toArray,List.set_cons_zero,List.set_cons_succ]
  refine wpAnyH_ready (rs:= [4]) (by kernel_rfl) (by simp) ?_
  refine AllReadyH.cons rfl (fun K hK=> ?_) AllReadyH.nil
  refine if_yes (by rfl) ?_
  go_wp2
  refine hK.out _ _ hS1 (fun _=> ?_)
  clear hK K
  try simp only [Act.put,List.setIfInBounds_toArray,List.set_cons_zero,List.set_cons_succ]
  refine wpAnyH_take (i:=5) (v:= .int .i64 ((n:Int)+1)) rfl (by kernel_rfl) (by kernel_rfl) (by kernel_rfl) (fun _ _ _ h=>h) (Or.inl ⟨by rfl,fun w' hw'=> ?_⟩) hS1 ?_
  ·go_simp
   try exact wrap_small n hnl
  try simp only [Act.put,List.setIfInBounds_toArray,List.set_cons_zero,List.set_cons_succ]
  refine wpAnyH_ready (rs:= [8]) (by kernel_rfl) (by simp) ?_
  refine AllReadyH.cons rfl (fun K hK=> ?_) AllReadyH.nil
  refine if_yes (by rfl) ?_
  go_wp2
  refine hK.out _ _ hS2 (fun _=> ?_)
  clear hK K
  try simp only [Act.put,List.setIfInBounds_toArray,List.set_cons_zero,List.set_cons_succ]
  refine wpAnyH_done (by kernel_rfl) ?_ _
  obtain⟨z1,z2,z3⟩:=hS2
  have hgt:decide ((n:Int)+1>1)=decide (1<n+1):=by
   by_cases h:1<n+1
   ·rw [decide_eq_true h,decide_eq_true (by omega)]
   ·rw [decide_eq_false h,decide_eq_false (by omega)]
  go_wp2
  go_ret
  exact⟨by rw [HD.out];simp,HB2.out,HM2.out⟩
end Go.Proofs.YtpbnjakeielipaaGreatDoor
