/-
  What the laws rest on, part 9: walks of the program's functions and plain laws. Conditions: none but those that each theorem names.
-/
import Derived.Test.YtlcidkiplidamaaGreatDoorR08
import Derived.Test.YtlcidkiplidamaaGreatDoorR06
set_option linter.unusedSimpArgs false
set_option linter.unusedVariables false
set_option maxRecDepth 100000
set_option maxHeartbeats 4000000
namespace Go.Proofs.YtlcidkiplidamaaGreatDoor
open Go Go.RowKit Lib
def memberE (pool:List Ko) (tag a b:Int):Int:=match kindAt pool a 7,namedAt pool b with
 |some _,some (nm,d)=>if tag=9 then(if fieldB d.data.toList=false then 22 else if memberB nm.data.toList=false then 21 else 0)
  else if(kindsV d).2.2=false then 22 else if nm.data.toList=clinitL∨(nm.data.toList=initL∧(tag=11∨(kindsV d).2.1.data.toList≠ [86])) then 21 else 0
 |_,_=>20
theorem namedAt_le {pool:List Ko} {n:Int} {x y:ByteArray} (h:namedAt pool n=some (x,y)) (ht: ∀k∈pool,k.text.size≤65536):x.size≤65536∧y.size≤65536:=by
 unfold namedAt at h
 rcases hk:kindAt pool n 12 with _|k
 ·rw [hk] at h;cases h
 ·rw [hk] at h
  simp only [Option.bind_some] at h
  rcases hx:textAt pool k.a with _|sx
  ·rw [hx] at h;cases h
  ·rw [hx] at h
   simp only [Option.bind_some] at h
   rcases hy:textAt pool k.b with _|sy
   ·rw [hy] at h;cases h
   ·rw [hy] at h
    simp only [Option.map_some,Option.some.injEq,Prod.mk.injEq] at h
    obtain⟨rfl,rfl⟩:=h
    exact⟨textAt_le hx ht,textAt_le hy ht⟩
theorem member_book (c:ClassV) (A:Option Addr) (cap:Nat) (ifs flds mths:Value) (ok:Nat→Prop) (tag:Int) (tx:ByteArray) (nu a b:Int) (w:World) (h:BookOk w ok c A cap ifs flds mths) (hn:Fine a) (hn2:Fine b) (hf: ∀k∈c.pool,Fine k.a∧Fine k.b) (ht: ∀k∈c.pool,k.text.size≤65536) (htag:tag=9∨tag=10∨tag=11):
  Calls Tryz.prog 81 #[bookV c (.slice A c.pool.length cap) ifs flds mths,koV ⟨tag,tx,nu,a,b⟩] w fun e w'=>e= .returned (.int .i64 (memberE c.pool tag a b))∧Below w.heap.size w w':=by
 have HW0:=Lib.hid (((Below.refl w.heap.size w).alloc (Nat.le_refl _) (.cells #[.int .i64 c.minor, .int .i64 c.major, .slice A c.pool.length cap, .int .i64 c.acc, .int .i64 c.this, .int .i64 c.sup,ifs,flds,mths] 94)).alloc (by simp) (.cells #[.int .i64 tag, .string tx, .int .i64 nu, .int .i64 a, .int .i64 b] 33))
 have X0:=Lib.hid ((bx_new w [.int .i64 c.minor, .int .i64 c.major, .slice A c.pool.length cap, .int .i64 c.acc, .int .i64 c.this, .int .i64 c.sup,ifs,flds,mths] 94).below ((Below.refl (w.heap.size+1) (w.alloc (.cells #[.int .i64 c.minor, .int .i64 c.major, .slice A c.pool.length cap, .int .i64 c.acc, .int .i64 c.this, .int .i64 c.sup,ifs,flds,mths] 94))).alloc (by simp) (.cells #[.int .i64 tag, .string tx, .int .i64 nu, .int .i64 a, .int .i64 b] 33)) (by omega))
 have Y0:=Lib.hid (bx_new (w.alloc (.cells #[.int .i64 c.minor, .int .i64 c.major, .slice A c.pool.length cap, .int .i64 c.acc, .int .i64 c.this, .int .i64 c.sup,ifs,flds,mths] 94)) [.int .i64 tag, .string tx, .int .i64 nu, .int .i64 a, .int .i64 b] 33)
 have hz0:((w.alloc (.cells #[.int .i64 c.minor, .int .i64 c.major, .slice A c.pool.length cap, .int .i64 c.acc, .int .i64 c.this, .int .i64 c.sup,ifs,flds,mths] 94)).alloc (.cells #[.int .i64 tag, .string tx, .int .i64 nu, .int .i64 a, .int .i64 b] 33)).heap.size=w.heap.size+2:=by simp
 have H0:=Lib.hid (h.below HW0.out)
 simp only [World.size_alloc] at Y0
 have HN:=Lib.hid hn
 have HN2:=Lib.hid hn2
 have HF:=Lib.hid hf
 obtain⟨E,hE⟩: ∃E,memberE c.pool tag a b=E:=⟨_,rfl⟩
 rw [hE]
 rcases hka:kindAt c.pool a 7 with _|ka
 ·rcases hnb:namedAt c.pool b with _|nb
  ·have HP:=Lib.hid (show E=20 by rw [←hE];unfold memberE;rw [hka,hnb])
   have HKA:=Lib.hid hka
   have HNB:=Lib.hid hnb
   have HK:=Lib.hid (fun W=>kinds_any ⟨#[]⟩ W (by decide))
   clear h hn hn2 hf hka hnb hE
   rw [bookV_open]
   simp only [koV]
   go_enter Tryz.func81,Tryz.ntmps81
   go_wp2_with (go_at_call 85;refine(at_book c A cap ifs flds mths a 7 ok _ H0.out.hp H0.out.h1 H0.out.h2 H0.out.h3 HN.out.2 HN.out.1).mono ?_;rw [HKA.out];rintro e w1 ⟨rfl,hb⟩;simp only [kindV,koV,Option.getD_none,Option.getD_some,Option.isSome_none,Option.isSome_some,koZero];refine stop_here ?_)
   have hz1:=hb.size
   rw [hz0] at hz1
   have hba:=hb.trans ((Below.refl w1.heap.size w1).alloc (Nat.le_refl _) (.cells #[.int .i64 0, .string ⟨#[]⟩, .int .i64 0, .int .i64 0, .int .i64 0] 33) |>.mono hb.size)
   have X1:=Lib.hid (X0.out.below hba (by omega))
   have Y1:=Lib.hid (Y0.out.below hba (by omega))
   have H1:=Lib.hid (H0.out.below hba)
   have W1:=Lib.hid (HW0.out.trans (hba.mono (by omega)))
   have hz1':(w1.alloc (.cells #[.int .i64 0, .string ⟨#[]⟩, .int .i64 0, .int .i64 0, .int .i64 0] 33)).heap.size=w1.heap.size+1:=by simp
   have y4:=Y1.out.cell 4 rfl
   clear hb hba X0 Y0 H0 HW0 hz0
   refine go_on ?_
   go_wp2_with (first
    | (refine wpList_load_row rfl _ _ rfl w.heap.size rfl _ _ _ _ X1.out Tryz.underlying94 rfl (by kernel_rfl) ?_)
    | (go_at_call 156;refine stop_here ?_))
   refine go_on ?_
   refine(named_book c A cap ifs flds mths b ok _ H1.out HN2.out HF.out).mono ?_
   rw [HNB.out]
   rintro e w2 ⟨rfl,hb2⟩
   simp only [opt2V,Option.map_none,Option.map_some,Option.getD_none,Option.getD_some,Option.isSome_none,Option.isSome_some]
   have hz2:=hb2.size
   rw [hz1'] at hz2
   have Y2:=Lib.hid (Y1.out.below hb2 Y1.out.lt)
   have W2:=Lib.hid (W1.out.trans (hb2.mono W1.out.size))
   have y0:=Y2.out.cell 0 rfl
   clear hb2 X1 Y1 H1 W1
   rcases htag with rfl|rfl|rfl
   all_goals
    go_wp2_with (go_at_call 99;refine(HK.out _).mono ?_;rintro e w3 ⟨rfl,hb3⟩;have W3:=Lib.hid (W2.out.trans (hb3.mono W2.out.size));have Y3:=Lib.hid (Y2.out.below hb3 Y2.out.lt);have y03:=Y3.out.cell 0 rfl;clear hb3)
    go_ret
    exact⟨by rw [HP.out];rfl,W3.out⟩
  ·obtain⟨nm,d⟩:=nb
   obtain⟨l1,l2⟩:=namedAt_le hnb ht
   have HP:=Lib.hid (show E=20 by rw [←hE];unfold memberE;rw [hka,hnb])
   have HKA:=Lib.hid hka
   have HNB:=Lib.hid hnb
   have HK:=Lib.hid (fun W=>kinds_any d W (by omega))
   clear h hn hn2 hf hka hnb hE
   rw [bookV_open]
   simp only [koV]
   go_enter Tryz.func81,Tryz.ntmps81
   go_wp2_with (go_at_call 85;refine(at_book c A cap ifs flds mths a 7 ok _ H0.out.hp H0.out.h1 H0.out.h2 H0.out.h3 HN.out.2 HN.out.1).mono ?_;rw [HKA.out];rintro e w1 ⟨rfl,hb⟩;simp only [kindV,koV,Option.getD_none,Option.getD_some,Option.isSome_none,Option.isSome_some,koZero];refine stop_here ?_)
   have hz1:=hb.size
   rw [hz0] at hz1
   have hba:=hb.trans ((Below.refl w1.heap.size w1).alloc (Nat.le_refl _) (.cells #[.int .i64 0, .string ⟨#[]⟩, .int .i64 0, .int .i64 0, .int .i64 0] 33) |>.mono hb.size)
   have X1:=Lib.hid (X0.out.below hba (by omega))
   have Y1:=Lib.hid (Y0.out.below hba (by omega))
   have H1:=Lib.hid (H0.out.below hba)
   have W1:=Lib.hid (HW0.out.trans (hba.mono (by omega)))
   have hz1':(w1.alloc (.cells #[.int .i64 0, .string ⟨#[]⟩, .int .i64 0, .int .i64 0, .int .i64 0] 33)).heap.size=w1.heap.size+1:=by simp
   have y4:=Y1.out.cell 4 rfl
   clear hb hba X0 Y0 H0 HW0 hz0
   refine go_on ?_
   go_wp2_with (first
    | (refine wpList_load_row rfl _ _ rfl w.heap.size rfl _ _ _ _ X1.out Tryz.underlying94 rfl (by kernel_rfl) ?_)
    | (go_at_call 156;refine stop_here ?_))
   refine go_on ?_
   refine(named_book c A cap ifs flds mths b ok _ H1.out HN2.out HF.out).mono ?_
   rw [HNB.out]
   rintro e w2 ⟨rfl,hb2⟩
   simp only [opt2V,Option.map_none,Option.map_some,Option.getD_none,Option.getD_some,Option.isSome_none,Option.isSome_some]
   have hz2:=hb2.size
   rw [hz1'] at hz2
   have Y2:=Lib.hid (Y1.out.below hb2 Y1.out.lt)
   have W2:=Lib.hid (W1.out.trans (hb2.mono W1.out.size))
   have y0:=Y2.out.cell 0 rfl
   clear hb2 X1 Y1 H1 W1
   rcases htag with rfl|rfl|rfl
   all_goals
    go_wp2_with (go_at_call 99;refine(HK.out _).mono ?_;rintro e w3 ⟨rfl,hb3⟩;have W3:=Lib.hid (W2.out.trans (hb3.mono W2.out.size));have Y3:=Lib.hid (Y2.out.below hb3 Y2.out.lt);have y03:=Y3.out.cell 0 rfl;clear hb3)
    go_ret
    exact⟨by rw [HP.out];rfl,W3.out⟩
 ·rcases hnb:namedAt c.pool b with _|nb
  ·have HP:=Lib.hid (show E=20 by rw [←hE];unfold memberE;rw [hka,hnb])
   have HKA:=Lib.hid hka
   have HNB:=Lib.hid hnb
   have HK:=Lib.hid (fun W=>kinds_any ⟨#[]⟩ W (by decide))
   clear h hn hn2 hf hka hnb hE
   rw [bookV_open]
   simp only [koV]
   go_enter Tryz.func81,Tryz.ntmps81
   go_wp2_with (go_at_call 85;refine(at_book c A cap ifs flds mths a 7 ok _ H0.out.hp H0.out.h1 H0.out.h2 H0.out.h3 HN.out.2 HN.out.1).mono ?_;rw [HKA.out];rintro e w1 ⟨rfl,hb⟩;simp only [kindV,koV,Option.getD_none,Option.getD_some,Option.isSome_none,Option.isSome_some,koZero];refine stop_here ?_)
   have hz1:=hb.size
   rw [hz0] at hz1
   have hba:=hb.trans ((Below.refl w1.heap.size w1).alloc (Nat.le_refl _) (.cells #[.int .i64 ka.tag, .string ka.text, .int .i64 ka.num, .int .i64 ka.a, .int .i64 ka.b] 33) |>.mono hb.size)
   have X1:=Lib.hid (X0.out.below hba (by omega))
   have Y1:=Lib.hid (Y0.out.below hba (by omega))
   have H1:=Lib.hid (H0.out.below hba)
   have W1:=Lib.hid (HW0.out.trans (hba.mono (by omega)))
   have hz1':(w1.alloc (.cells #[.int .i64 ka.tag, .string ka.text, .int .i64 ka.num, .int .i64 ka.a, .int .i64 ka.b] 33)).heap.size=w1.heap.size+1:=by simp
   have y4:=Y1.out.cell 4 rfl
   clear hb hba X0 Y0 H0 HW0 hz0
   refine go_on ?_
   go_wp2_with (first
    | (refine wpList_load_row rfl _ _ rfl w.heap.size rfl _ _ _ _ X1.out Tryz.underlying94 rfl (by kernel_rfl) ?_)
    | (go_at_call 156;refine stop_here ?_))
   refine go_on ?_
   refine(named_book c A cap ifs flds mths b ok _ H1.out HN2.out HF.out).mono ?_
   rw [HNB.out]
   rintro e w2 ⟨rfl,hb2⟩
   simp only [opt2V,Option.map_none,Option.map_some,Option.getD_none,Option.getD_some,Option.isSome_none,Option.isSome_some]
   have hz2:=hb2.size
   rw [hz1'] at hz2
   have Y2:=Lib.hid (Y1.out.below hb2 Y1.out.lt)
   have W2:=Lib.hid (W1.out.trans (hb2.mono W1.out.size))
   have y0:=Y2.out.cell 0 rfl
   clear hb2 X1 Y1 H1 W1
   rcases htag with rfl|rfl|rfl
   all_goals
    go_wp2_with (go_at_call 99;refine(HK.out _).mono ?_;rintro e w3 ⟨rfl,hb3⟩;have W3:=Lib.hid (W2.out.trans (hb3.mono W2.out.size));have Y3:=Lib.hid (Y2.out.below hb3 Y2.out.lt);have y03:=Y3.out.cell 0 rfl;clear hb3)
    go_ret
    exact⟨by rw [HP.out];rfl,W3.out⟩
  ·obtain⟨nm,d⟩:=nb
   obtain⟨l1,l2⟩:=namedAt_le hnb ht
   obtain⟨m1,h1⟩: ∃m,memberB nm.data.toList=m:=⟨_,rfl⟩
   obtain⟨m2,h2⟩: ∃m,fieldB d.data.toList=m:=⟨_,rfl⟩
   obtain⟨⟨ka1,ret,is⟩,h3⟩: ∃v,kindsV d=v:=⟨_,rfl⟩
   have C1:=Lib.hid (fun W=>member_any nm W (by omega))
   have C2:=Lib.hid (fun W=>dfield_any d W (by omega))
   rw [h1] at C1
   rw [h2] at C2
   obtain⟨b1,hb1⟩: ∃m,m=(nm.data.toList==clinitL):=⟨_,rfl⟩
   obtain⟨b2,hb2'⟩: ∃m,m=(nm.data.toList==initL):=⟨_,rfl⟩
   obtain⟨b3,hb3'⟩: ∃m,m=(ret.data.toList== [86]):=⟨_,rfl⟩
   have e1:(nm.toList== [60,99,108,105,110,105,116,62])=b1:=by rw [ByteArray.toList_eq,hb1];rfl
   have e2:(nm.toList== [60,105,110,105,116,62])=b2:=by rw [ByteArray.toList_eq,hb2'];rfl
   have e3:(ret.toList== [86])=b3:=by rw [ByteArray.toList_eq,hb3']
   have HP:=Lib.hid (show E=if tag=9 then(if m2=false then 22 else if m1=false then 21 else 0) else if is=false then 22 else if b1=true∨(b2=true∧(tag=11∨b3=false)) then 21 else 0 by
    rw [←hE]
    unfold memberE
    rw [hka,hnb]
    simp only [h1,h2,h3]
    have k1:(nm.data.toList=clinitL)↔b1=true:=by rw [hb1];simp
    have k2:(nm.data.toList=initL)↔b2=true:=by rw [hb2'];simp
    have k3:(ret.data.toList≠ [86])↔b3=false:=by rw [hb3'];simp
    simp only [k1,k2,k3])
   clear hb1 hb2' hb3' h1 h2
   have HKA:=Lib.hid hka
   have HNB:=Lib.hid hnb
   have HK:=Lib.hid (fun W=>kinds_any d W (by omega))
   rw [h3] at HK
   clear h hn hn2 hf hka hnb hE h3
   rw [bookV_open]
   simp only [koV]
   go_enter Tryz.func81,Tryz.ntmps81
   go_wp2_with (go_at_call 85;refine(at_book c A cap ifs flds mths a 7 ok _ H0.out.hp H0.out.h1 H0.out.h2 H0.out.h3 HN.out.2 HN.out.1).mono ?_;rw [HKA.out];rintro e w1 ⟨rfl,hb⟩;simp only [kindV,koV,Option.getD_none,Option.getD_some,Option.isSome_none,Option.isSome_some,koZero];refine stop_here ?_)
   have hz1:=hb.size
   rw [hz0] at hz1
   have hba:=hb.trans ((Below.refl w1.heap.size w1).alloc (Nat.le_refl _) (.cells #[.int .i64 ka.tag, .string ka.text, .int .i64 ka.num, .int .i64 ka.a, .int .i64 ka.b] 33) |>.mono hb.size)
   have X1:=Lib.hid (X0.out.below hba (by omega))
   have Y1:=Lib.hid (Y0.out.below hba (by omega))
   have H1:=Lib.hid (H0.out.below hba)
   have W1:=Lib.hid (HW0.out.trans (hba.mono (by omega)))
   have hz1':(w1.alloc (.cells #[.int .i64 ka.tag, .string ka.text, .int .i64 ka.num, .int .i64 ka.a, .int .i64 ka.b] 33)).heap.size=w1.heap.size+1:=by simp
   have y4:=Y1.out.cell 4 rfl
   clear hb hba X0 Y0 H0 HW0 hz0
   refine go_on ?_
   go_wp2_with (first
    | (refine wpList_load_row rfl _ _ rfl w.heap.size rfl _ _ _ _ X1.out Tryz.underlying94 rfl (by kernel_rfl) ?_)
    | (go_at_call 156;refine stop_here ?_))
   refine go_on ?_
   refine(named_book c A cap ifs flds mths b ok _ H1.out HN2.out HF.out).mono ?_
   rw [HNB.out]
   rintro e w2 ⟨rfl,hb2⟩
   simp only [opt2V,Option.map_none,Option.map_some,Option.getD_none,Option.getD_some,Option.isSome_none,Option.isSome_some]
   have hz2:=hb2.size
   rw [hz1'] at hz2
   have Y2:=Lib.hid (Y1.out.below hb2 Y1.out.lt)
   have W2:=Lib.hid (W1.out.trans (hb2.mono W1.out.size))
   have y0:=Y2.out.cell 0 rfl
   clear hb2 X1 Y1 H1 W1
   rcases htag with rfl|rfl|rfl
   ·rw [if_pos rfl] at HP
    cases m2<;>cases m1
    all_goals
     go_wp2_with (first
      | (go_at_call 99;refine(HK.out _).mono ?_;rintro e w3 ⟨rfl,hb3⟩;have W3:=Lib.hid (W2.out.trans (hb3.mono W2.out.size));have Y3:=Lib.hid (Y2.out.below hb3 Y2.out.lt);have y03:=Y3.out.cell 0 rfl;clear hb3)
      | (go_at_call 79;refine(C2.out _).mono ?_;rintro e w4 ⟨rfl,hb4⟩;have W4:=Lib.hid (W3.out.trans (hb4.mono W3.out.size));clear hb4)
      | (go_at_call 93;refine(C1.out _).mono ?_;rintro e w5 ⟨rfl,hb5⟩;have W5:=Lib.hid (W4.out.trans (hb5.mono W4.out.size));clear hb5))
     go_ret
     exact⟨by rw [HP.out];rfl,by first|exact W5.out|exact W4.out⟩
   ·cases is
    ·go_wp2_with (go_at_call 99;refine(HK.out _).mono ?_;rintro e w3 ⟨rfl,hb3⟩;have W3:=Lib.hid (W2.out.trans (hb3.mono W2.out.size));have Y3:=Lib.hid (Y2.out.below hb3 Y2.out.lt);have y03:=Y3.out.cell 0 rfl;clear hb3)
     go_ret
     exact⟨by rw [HP.out];rfl,W3.out⟩
    ·cases b1<;>cases b2<;>cases b3
     all_goals
      go_wp2_with (go_at_call 99;refine(HK.out _).mono ?_;rintro e w3 ⟨rfl,hb3⟩;have W3:=Lib.hid (W2.out.trans (hb3.mono W2.out.size));have Y3:=Lib.hid (Y2.out.below hb3 Y2.out.lt);have y03:=Y3.out.cell 0 rfl;clear hb3)
      go_ret
      exact⟨by rw [HP.out];rfl,W3.out⟩
   ·cases is
    ·go_wp2_with (go_at_call 99;refine(HK.out _).mono ?_;rintro e w3 ⟨rfl,hb3⟩;have W3:=Lib.hid (W2.out.trans (hb3.mono W2.out.size));have Y3:=Lib.hid (Y2.out.below hb3 Y2.out.lt);have y03:=Y3.out.cell 0 rfl;clear hb3)
     go_ret
     exact⟨by rw [HP.out];rfl,W3.out⟩
    ·cases b1<;>cases b2<;>cases b3
     all_goals
      go_wp2_with (go_at_call 99;refine(HK.out _).mono ?_;rintro e w3 ⟨rfl,hb3⟩;have W3:=Lib.hid (W2.out.trans (hb3.mono W2.out.size));have Y3:=Lib.hid (Y2.out.below hb3 Y2.out.lt);have y03:=Y3.out.cell 0 rfl;clear hb3)
      go_ret
      exact⟨by rw [HP.out];rfl,W3.out⟩
theorem constant_ref (c:ClassV) (A:Option Addr) (cap:Nat) (ifs flds mths:Value) (ok:Nat→Prop) (tag:Int) (tx:ByteArray) (nu a b:Int) (w:World) (h:BookOk w ok c A cap ifs flds mths) (hn:Fine a) (hn2:Fine b) (hf: ∀k∈c.pool,Fine k.a∧Fine k.b) (ht: ∀k∈c.pool,k.text.size≤65536) (htag:tag=9∨tag=10∨tag=11):
  Calls Tryz.prog 36 #[bookV c (.slice A c.pool.length cap) ifs flds mths,koV ⟨tag,tx,nu,a,b⟩] w fun e w'=>e= .returned (.int .i64 (memberE c.pool tag a b))∧Below w.heap.size w w':=by
 have HW0:=Lib.hid (((Below.refl w.heap.size w).alloc (Nat.le_refl _) (.cells #[.int .i64 c.minor, .int .i64 c.major, .slice A c.pool.length cap, .int .i64 c.acc, .int .i64 c.this, .int .i64 c.sup,ifs,flds,mths] 94)).alloc (by simp) (.cells #[.int .i64 tag, .string tx, .int .i64 nu, .int .i64 a, .int .i64 b] 33))
 have HM:=Lib.hid (fun W (hW:BookOk W ok c A cap ifs flds mths)=>member_book c A cap ifs flds mths ok tag tx nu a b W hW hn hn2 hf ht htag)
 have H0:=Lib.hid (h.below HW0.out)
 have X0:=Lib.hid ((bx_new w [.int .i64 c.minor, .int .i64 c.major, .slice A c.pool.length cap, .int .i64 c.acc, .int .i64 c.this, .int .i64 c.sup,ifs,flds,mths] 94).below ((Below.refl (w.heap.size+1) (w.alloc (.cells #[.int .i64 c.minor, .int .i64 c.major, .slice A c.pool.length cap, .int .i64 c.acc, .int .i64 c.this, .int .i64 c.sup,ifs,flds,mths] 94))).alloc (by simp) (.cells #[.int .i64 tag, .string tx, .int .i64 nu, .int .i64 a, .int .i64 b] 33)) (by omega))
 clear h hn hn2 hf ht
 rw [bookV_open] at HM⊢
 simp only [koV] at HM⊢
 rcases htag with rfl|rfl|rfl
 all_goals
  go_enter Tryz.func36,Tryz.ntmps36
  go_wp2_with (first
   | (refine wpList_load_row rfl _ _ rfl w.heap.size rfl _ _ _ _ X0.out Tryz.underlying94 rfl (by kernel_rfl) ?_)
   | (go_at_call 81;refine(HM.out _ H0.out).mono ?_;rintro e w1 ⟨rfl,hb⟩;have HB:=Lib.hid (HW0.out.trans (hb.mono (by simp;omega)));clear hb))
  go_ret
  exact⟨rfl,HB.out⟩
set_option maxHeartbeats 2000000
def bitN (acc f:Int):Nat:=if someB acc f=true then 1 else 0
def kindsN (acc:Int):Nat:=bitN acc 1+bitN acc 2+bitN acc 4
def flagAt:Nat→Int
 |0=>1
 |1=>2
 |_=>4
def uptoN (acc:Int):Nat→Nat
 |0=>0
 |k+1=>uptoN acc k+bitN acc (flagAt k)
theorem upto_three (acc:Int):uptoN acc 3=kindsN acc:=by simp [uptoN,kindsN,flagAt]
theorem upto_le (acc:Int): ∀k,uptoN acc k≤k
 |0=>Nat.le_refl _
 |k+1=>by
  have:=upto_le acc k
  unfold uptoN bitN
  split<;>omega
theorem kinds_cnt (acc:Int) (w:World):Calls Tryz.prog 96 #[.int .i64 acc] w fun e w'=>e= .returned (.int .i64 (kindsN acc))∧Below w.heap.size w w':=by
 have X0:=Lib.hid (bx_new w [.int .i64 1, .int .i64 2, .int .i64 4] 3)
 have HW:=Lib.hid ((Below.refl w.heap.size w).alloc (Nat.le_refl _) (.cells #[.int .i64 1, .int .i64 2, .int .i64 4] 3))
 go_enter Tryz.func96,Tryz.ntmps96
 go_wp2_with fail
 go_loop [3,8] (fun n i=> ∃k:Nat,k≤3∧i= .int .i64 k∧n= .int .i64 (uptoN acc k)) (fun _ i=>3 - (RowKit.intOf i).toNat)
 case atStart=>exact⟨0,by omega,rfl,rfl⟩
 case round=>
  obtain⟨k,hk,rfl,rfl⟩:=hrel
  have hu:=upto_le acc k
  by_cases h3:k=3
  ·subst h3
   go_wp2_with fail
   go_ret
   exact⟨by rw [upto_three];rfl,HW.out⟩
  ·have hlt:((k:Int) <3)=True:=by simp;omega
   have cc:(w.alloc (.cells #[.int .i64 1, .int .i64 2, .int .i64 4] 3)).cell? ⟨w.heap.size,k,none⟩=some (.int .i64 (flagAt k)):=by
    have:k=0∨k=1∨k=2:=by omega
    rcases this with rfl|rfl|rfl
    ·exact X0.out.cell 0 rfl
    ·exact X0.out.cell 1 rfl
    ·exact X0.out.cell 2 rfl
   have HU:=Lib.hid (show uptoN acc (k+1)=uptoN acc k+bitN acc (flagAt k) from rfl)
   obtain⟨F,hF⟩: ∃F,flagAt k=F:=⟨_,rfl⟩
   rw [hF] at cc HU
   clear hF
   by_cases hb:someB acc F=true
   ·have hb':(bits .and .i64 acc F !=0)=true:=hb
    have HN:=Lib.hid (show bitN acc F=1 by unfold bitN;rw [if_pos hb])
    go_wp2_with fail
    go_round
    case rel=>exact⟨k+1,by omega,by go_num,by rw [HU.out,HN.out];go_num⟩
    case measure=>simp [RowKit.intOf];omega
   ·have hb':(bits .and .i64 acc F !=0)=false:=by simpa [someB] using hb
    have HN:=Lib.hid (show bitN acc F=0 by unfold bitN;rw [if_neg hb])
    go_wp2_with fail
    go_round
    case rel=>exact⟨k+1,by omega,by go_num,by rw [HU.out,HN.out];rfl⟩
    case measure=>simp [RowKit.intOf];omega
abbrev CapB (W:World) (p:Nat) (v:Value):Prop:=W.cell? ⟨p,0,none⟩=some v
theorem CapB.alloc {W:World} {p:Nat} {v:Value} (h:CapB W p v) (hp:p<W.heap.size) (o:Obj):CapB (W.alloc o) p v:=(World.cell?_alloc_lt W o ⟨p,0,none⟩ hp).trans h
theorem field1_any' (x:FieldV) (p1 p2:Nat) (b1 b2:Bool) (w:World) (h1:CapB w p1 (.bool b1)) (h2:CapB w p2 (.bool b2)) (l1:p1<w.heap.size) (l2:p2<w.heap.size):
  Calls Tryz.prog 91 #[fieldV x, .pointer (some ⟨p1,0,none⟩), .pointer (some ⟨p2,0,none⟩)] w fun e w'=>e= .returned (.bool (!b1|| !b2))∧Below w.heap.size w w':=by
 have k1:=h1.alloc l1 (.cells #[.int .i64 x.acc, .int .i64 x.name, .int .i64 x.desc, .int .i64 x.value] 83)
 have k2:=h2.alloc l2 (.cells #[.int .i64 x.acc, .int .i64 x.name, .int .i64 x.desc, .int .i64 x.value] 83)
 have HW:=Lib.hid ((Below.refl w.heap.size w).alloc (Nat.le_refl _) (.cells #[.int .i64 x.acc, .int .i64 x.name, .int .i64 x.desc, .int .i64 x.value] 83))
 unfold fieldV
 cases b1<;>cases b2
 all_goals
  go_enter Tryz.func91,Tryz.ntmps91
  go_wp2_with fail
  go_ret
  exact⟨rfl,HW.out⟩
theorem field2_any' (x:FieldV) (p1:Nat) (s:ByteArray) (w:World) (h1:CapB w p1 (.string s)) (l1:p1<w.heap.size) (hs:s.size≤65536):
  Calls Tryz.prog 92 #[fieldV x, .pointer (some ⟨p1,0,none⟩)] w fun e w'=>e= .returned (.bool (!memberB s.data.toList))∧Below w.heap.size w w':=by
 have k1:=h1.alloc l1 (.cells #[.int .i64 x.acc, .int .i64 x.name, .int .i64 x.desc, .int .i64 x.value] 83)
 have HW:=Lib.hid ((Below.refl w.heap.size w).alloc (Nat.le_refl _) (.cells #[.int .i64 x.acc, .int .i64 x.name, .int .i64 x.desc, .int .i64 x.value] 83))
 have C:=Lib.hid (fun W=>member_any s W (by omega))
 unfold fieldV
 go_enter Tryz.func92,Tryz.ntmps92
 go_wp2_with (go_at_call 93;refine(C.out _).mono ?_;rintro e w1 ⟨rfl,hb⟩;have HB:=Lib.hid (HW.out.trans (hb.mono (by simp)));clear hb)
 go_ret
 exact⟨rfl,HB.out⟩
theorem field3_any' (x:FieldV) (p1:Nat) (s:ByteArray) (w:World) (h1:CapB w p1 (.string s)) (l1:p1<w.heap.size) (hs:s.size≤65536):
  Calls Tryz.prog 94 #[fieldV x, .pointer (some ⟨p1,0,none⟩)] w fun e w'=>e= .returned (.bool (!fieldB s.data.toList))∧Below w.heap.size w w':=by
 have k1:=h1.alloc l1 (.cells #[.int .i64 x.acc, .int .i64 x.name, .int .i64 x.desc, .int .i64 x.value] 83)
 have HW:=Lib.hid ((Below.refl w.heap.size w).alloc (Nat.le_refl _) (.cells #[.int .i64 x.acc, .int .i64 x.name, .int .i64 x.desc, .int .i64 x.value] 83))
 have C:=Lib.hid (fun W=>dfield_any s W (by omega))
 unfold fieldV
 go_enter Tryz.func94,Tryz.ntmps94
 go_wp2_with (go_at_call 79;refine(C.out _).mono ?_;rintro e w1 ⟨rfl,hb⟩;have HB:=Lib.hid (HW.out.trans (hb.mono (by simp)));clear hb)
 go_ret
 exact⟨rfl,HB.out⟩
def fldFlags (cacc facc:Int):Bool:=decide (1<kindsN facc) || (someB cacc 512&& !allB facc 25)
theorem field4_any' (x:FieldV) (bk:Nat) (c:ClassV) (pool ifs flds mths:Value) (w:World) (h1:Bx w bk [.int .i64 c.minor, .int .i64 c.major,pool, .int .i64 c.acc, .int .i64 c.this, .int .i64 c.sup,ifs,flds,mths] 94):
  Calls Tryz.prog 95 #[fieldV x, .pointer (some ⟨bk,0,none⟩)] w fun e w'=>e= .returned (.bool (fldFlags c.acc x.acc))∧Below w.heap.size w w':=by
 have HW:=Lib.hid ((Below.refl w.heap.size w).alloc (Nat.le_refl _) (.cells #[.int .i64 x.acc, .int .i64 x.name, .int .i64 x.desc, .int .i64 x.value] 83))
 have HX:=Lib.hid (h1.below HW.out h1.lt)
 have F0:=Lib.hid (bx_new w [.int .i64 x.acc, .int .i64 x.name, .int .i64 x.desc, .int .i64 x.value] 83)
 obtain⟨n,hn⟩: ∃n,kindsN x.acc=n:=⟨_,rfl⟩
 obtain⟨b2,hb2⟩: ∃b,someB c.acc 512=b:=⟨_,rfl⟩
 obtain⟨b3,hb3⟩: ∃b,allB x.acc 25=b:=⟨_,rfl⟩
 have C1:=Lib.hid (kinds_cnt x.acc)
 have C2:=Lib.hid (fun W=>some_any c.acc 512 W)
 have C3:=Lib.hid (fun W=>all_any x.acc 25 W)
 rw [hn] at C1
 rw [hb2] at C2
 rw [hb3] at C3
 have HP:=Lib.hid (show fldFlags c.acc x.acc=(decide (1<n) || (b2&& !b3)) by unfold fldFlags;rw [hn,hb2,hb3])
 rw [HP.out]
 clear h1 hn hb2 hb3
 unfold fieldV
 by_cases h1n:1<n
 ·have d1:decide ((n:Int) >1)=true:=by simp;omega
  rw [decide_eq_true h1n]
  go_enter Tryz.func95,Tryz.ntmps95
  go_wp2_with (go_at_call 96;refine(C1.out _).mono ?_;rintro e w1 ⟨rfl,hb⟩;have HB:=Lib.hid (HW.out.trans (hb.mono (by simp)));clear hb)
  go_ret
  exact⟨by simp,HB.out⟩
 ·have d1:decide ((n:Int) >1)=false:=by simp;omega
  rw [decide_eq_false h1n]
  cases b2<;>cases b3
  all_goals
   go_enter Tryz.func95,Tryz.ntmps95
   go_wp2_with (first
    | (go_at_call 96;refine(C1.out _).mono ?_;rintro e w1 ⟨rfl,hb⟩;have HB:=Lib.hid (HW.out.trans (hb.mono (by simp)));have hx3:=(HX.out.below hb HX.out.lt).cell 3 rfl;have hf0:=(F0.out.below hb (by simp)).cell 0 rfl;clear hb)
    | (go_at_call 88;refine(C2.out _).mono ?_;rintro e w2 ⟨rfl,rfl⟩)
    | (go_at_call 89;refine(C3.out _).mono ?_;rintro e w2 ⟨rfl,rfl⟩))
   go_ret
   exact⟨by simp,HB.out⟩
set_option maxHeartbeats 4000000
def fldValue (pool:List Ko) (x:FieldV) (d:List UInt8):Bool:=((x.value:Int) !=0)&&(!someB x.acc 8|| !(d== [73]) || !(kindAt pool x.value 3).isSome)
theorem field6_any' (x:FieldV) (bk p2:Nat) (d:ByteArray) (c:ClassV) (A:Option Addr) (cap:Nat) (ifs flds mths:Value) (ok:Nat→Prop) (w:World) (h:BookOk w ok c A cap ifs flds mths) (h1:Bx w bk [.int .i64 c.minor, .int .i64 c.major, .slice A c.pool.length cap, .int .i64 c.acc, .int .i64 c.this, .int .i64 c.sup,ifs,flds,mths] 94) (h2:CapB w p2 (.string d)) (l2:p2<w.heap.size) (hn:Fine x.value):
  Calls Tryz.prog 98 #[fieldV x, .pointer (some ⟨bk,0,none⟩), .pointer (some ⟨p2,0,none⟩)] w fun e w'=>e= .returned (.bool (fldValue c.pool x d.data.toList))∧Below w.heap.size w w':=by
 have HW:=Lib.hid ((Below.refl w.heap.size w).alloc (Nat.le_refl _) (.cells #[.int .i64 x.acc, .int .i64 x.name, .int .i64 x.desc, .int .i64 x.value] 83))
 have HX:=Lib.hid (h1.below HW.out h1.lt)
 have F0:=Lib.hid (bx_new w [.int .i64 x.acc, .int .i64 x.name, .int .i64 x.desc, .int .i64 x.value] 83)
 have H0:=Lib.hid (h.below HW.out)
 have K2:=Lib.hid (h2.alloc l2 (.cells #[.int .i64 x.acc, .int .i64 x.name, .int .i64 x.desc, .int .i64 x.value] 83))
 have hz0:(w.alloc (.cells #[.int .i64 x.acc, .int .i64 x.name, .int .i64 x.desc, .int .i64 x.value] 83)).heap.size=w.heap.size+1:=by simp
 have HN:=Lib.hid hn
 obtain⟨b1,hb1⟩: ∃b,((x.value:Int) !=0)=b:=⟨_,rfl⟩
 obtain⟨b2,hb2⟩: ∃b,someB x.acc 8=b:=⟨_,rfl⟩
 obtain⟨b3,hb3⟩: ∃b,b=(d.data.toList== [73]):=⟨_,rfl⟩
 have e3:(d.toList== [73])=b3:=by rw [ByteArray.toList_eq,hb3]
 have C2:=Lib.hid (fun W=>some_any x.acc 8 W)
 rw [hb2] at C2
 rcases hk:kindAt c.pool x.value 3 with _|k
 ·have HK:=Lib.hid hk
  have HP:=Lib.hid (show fldValue c.pool x d.data.toList=(b1&&(!b2|| !b3|| !(kindAt c.pool x.value 3).isSome)) by unfold fldValue;rw [hb1,hb2,hb3])
  rw [HP.out,hk]
  clear h h1 h2 hk hb2 hb3 hn
  unfold fieldV
  cases b1<;>cases b2<;>cases b3
  all_goals
   go_enter Tryz.func98,Tryz.ntmps98
   go_wp2_with (first
    | (refine wpList_load_row rfl _ _ rfl bk rfl _ _ _ _ HX.out Tryz.underlying94 rfl (by kernel_rfl) ?_)
    | (go_at_call 85;refine(at_book c A cap ifs flds mths x.value 3 ok _ H0.out.hp H0.out.h1 H0.out.h2 H0.out.h3 HN.out.2 HN.out.1).mono ?_;rw [HK.out];rintro e w1 ⟨rfl,hb⟩;simp only [kindV,koV,Option.getD_none,Option.getD_some,Option.isSome_none,Option.isSome_some,koZero];refine stop_here ?_))
   have hz1:=hb.size
   rw [hz0] at hz1
   have hba:=hb.trans ((Below.refl w1.heap.size w1).alloc (Nat.le_refl _) (.cells #[.int .i64 0, .string ⟨#[]⟩, .int .i64 0, .int .i64 0, .int .i64 0] 33) |>.mono hb.size)
   have HB:=Lib.hid (HW.out.trans (hba.mono (by omega)))
   have f0:=(F0.out.below hba (by omega)).cell 0 rfl
   have f3:=(F0.out.below hba (by omega)).cell 3 rfl
   have d0:=(hba.cell (p:=⟨p2,0,none⟩) (show p2<_ by omega)).trans K2.out
   clear hba
   clear hb
   refine go_on ?_
   go_wp2_with (go_at_call 88;refine(C2.out _).mono ?_;rintro e w2 ⟨rfl,rfl⟩)
   go_ret
   exact⟨by simp,HB.out⟩
 ·have HK:=Lib.hid hk
  have HP:=Lib.hid (show fldValue c.pool x d.data.toList=(b1&&(!b2|| !b3|| !(kindAt c.pool x.value 3).isSome)) by unfold fldValue;rw [hb1,hb2,hb3])
  rw [HP.out,hk]
  clear h h1 h2 hk hb2 hb3 hn
  unfold fieldV
  cases b1<;>cases b2<;>cases b3
  all_goals
   go_enter Tryz.func98,Tryz.ntmps98
   go_wp2_with (first
    | (refine wpList_load_row rfl _ _ rfl bk rfl _ _ _ _ HX.out Tryz.underlying94 rfl (by kernel_rfl) ?_)
    | (go_at_call 85;refine(at_book c A cap ifs flds mths x.value 3 ok _ H0.out.hp H0.out.h1 H0.out.h2 H0.out.h3 HN.out.2 HN.out.1).mono ?_;rw [HK.out];rintro e w1 ⟨rfl,hb⟩;simp only [kindV,koV,Option.getD_none,Option.getD_some,Option.isSome_none,Option.isSome_some,koZero];refine stop_here ?_))
   have hz1:=hb.size
   rw [hz0] at hz1
   have hba:=hb.trans ((Below.refl w1.heap.size w1).alloc (Nat.le_refl _) (.cells #[.int .i64 k.tag, .string k.text, .int .i64 k.num, .int .i64 k.a, .int .i64 k.b] 33) |>.mono hb.size)
   have HB:=Lib.hid (HW.out.trans (hba.mono (by omega)))
   have f0:=(F0.out.below hba (by omega)).cell 0 rfl
   have f3:=(F0.out.below hba (by omega)).cell 3 rfl
   have d0:=(hba.cell (p:=⟨p2,0,none⟩) (show p2<_ by omega)).trans K2.out
   clear hba
   clear hb
   refine go_on ?_
   go_wp2_with (go_at_call 88;refine(C2.out _).mono ?_;rintro e w2 ⟨rfl,rfl⟩)
   go_ret
   exact⟨by simp,HB.out⟩
end Go.Proofs.YtlcidkiplidamaaGreatDoor
