/-
  What the laws rest on, part 4: walks of the program's functions and plain laws. Conditions: none but those that each theorem names.
-/
import Derived.Test.YtlcidkiplidamaaGreatDoorB03
import Derived.Laws.EntriesVeiled
import Derived.Test.YtlcidkiplidamaaGreatDoorB00
set_option linter.unusedSimpArgs false
set_option linter.unusedVariables false
set_option maxRecDepth 100000
set_option maxHeartbeats 1000000
namespace Go.Proofs.YtlcidkiplidamaaGreatDoor
open Go Go.RowKit Lib
def aqD (a f:Int):Bool:=bits .and .i64 a f !=0
def lq5 (a f:Int):Bool:=bits .and .i64 a f==f
theorem bqU (a f:Int) (w:World):Calls Tryz.prog 88 #[.int .i64 a, .int .i64 f] w fun e w'=>e= .returned (.bool (aqD a f))∧w=w':=by
 go_enter Tryz.func88,Tryz.ntmps88
 go_wp2
 go_ret
 exact⟨rfl,rfl⟩
theorem dqA (a f:Int) (w:World):Calls Tryz.prog 89 #[.int .i64 a, .int .i64 f] w fun e w'=>e= .returned (.bool (lq5 a f))∧w=w':=by
 go_enter Tryz.func89,Tryz.ntmps89
 go_wp2
 go_ret
 exact⟨rfl,rfl⟩
def eqW (pool:List Ko) (n:Int):Bool:= !(aqq pool n 7).isSome
def cqx:List UInt8:= [106,97,118,97,47,108,97,110,103,47,79,98,106,101,99,116]
theorem kqC (c:aqj) (A:Option Addr) (cap:Nat) (ifs flds mths:Value) (ok:Nat→Prop) (w:World) (h:aqQ w ok c A cap ifs flds mths) (hn:bqF c.this):
  Calls Tryz.prog 84 #[bqp c (.slice A c.pool.length cap) ifs flds mths] w fun e w'=>e= .returned (.bool (eqW c.pool c.this))∧Below w.heap.size w w':=by
 have H:=Hq (h.below ((Below.refl _ _).alloc (Nat.le_refl _) (.cells #[.int .i64 c.minor, .int .i64 c.major, .slice A c.pool.length cap, .int .i64 c.acc, .int .i64 c.this, .int .i64 c.sup,ifs,flds,mths] 94)))
 have HN:=Hq hn
 rcases hx:aqq c.pool c.this 7 with _|x
 all_goals
  have HX:=Hq hx
  clear h hn hx
  rw [aqe]
  go_enter Tryz.func84,Tryz.ntmps84
  go_wp2_with (go_at_call 85;refine(cqc c A cap ifs flds mths c.this 7 ok _ H.out.hp H.out.h1 H.out.h2 H.out.h3 HN.out.2 HN.out.1).mono ?_;rw [HX.out];rintro e w1 ⟨rfl,hb⟩;simp only [bqm,koV,Option.getD_none,Option.getD_some,Option.isSome_none,Option.isSome_some,bqa];have HB:=Hq hb;clear hb)
  go_ret
  exact⟨by unfold eqW;rw [HX.out];rfl,(((Below.refl _ _).alloc (Nat.le_refl _) _).trans (HB.out.mono (by simp))).alloc (by have:=HB.out.size;simp at this;omega) _⟩
theorem kqD (c:aqj) (A:Option Addr) (cap:Nat) (ifs flds mths:Value) (ok:Nat→Prop) (w:World) (h:aqQ w ok c A cap ifs flds mths) (hn:bqF c.sup):
  Calls Tryz.prog 86 #[bqp c (.slice A c.pool.length cap) ifs flds mths] w fun e w'=>e= .returned (.bool (eqW c.pool c.sup))∧Below w.heap.size w w':=by
 have H:=Hq (h.below ((Below.refl _ _).alloc (Nat.le_refl _) (.cells #[.int .i64 c.minor, .int .i64 c.major, .slice A c.pool.length cap, .int .i64 c.acc, .int .i64 c.this, .int .i64 c.sup,ifs,flds,mths] 94)))
 have HN:=Hq hn
 rcases hx:aqq c.pool c.sup 7 with _|x
 all_goals
  have HX:=Hq hx
  clear h hn hx
  rw [aqe]
  go_enter Tryz.func86,Tryz.ntmps86
  go_wp2_with (go_at_call 85;refine(cqc c A cap ifs flds mths c.sup 7 ok _ H.out.hp H.out.h1 H.out.h2 H.out.h3 HN.out.2 HN.out.1).mono ?_;rw [HX.out];rintro e w1 ⟨rfl,hb⟩;simp only [bqm,koV,Option.getD_none,Option.getD_some,Option.isSome_none,Option.isSome_some,bqa];have HB:=Hq hb;clear hb)
  go_ret
  exact⟨by unfold eqW;rw [HX.out];rfl,(((Below.refl _ _).alloc (Nat.le_refl _) _).trans (HB.out.mono (by simp))).alloc (by have:=HB.out.size;simp at this;omega) _⟩
def bqP (acc:Int) (sup:Option ByteArray):Bool:=(aqD acc 512&&(!aqD acc 1024||aqD acc 16)) ||lq5 acc 1040|| (aqD acc 512&&(!sup.isSome|| (sup.getD ⟨#[]⟩).toList !=cqx))
theorem kqE (c:aqj) (A:Option Addr) (cap:Nat) (ifs flds mths:Value) (ok:Nat→Prop) (w:World) (h:aqQ w ok c A cap ifs flds mths) (bk bs:Nat) (sup:Option ByteArray) (hk:w.cell? ⟨bk,0,none⟩=some (.bool sup.isSome)) (hs:w.cell? ⟨bs,0,none⟩=some (.string (sup.getD ⟨#[]⟩))) (hbk:bk<w.heap.size) (hbs:bs<w.heap.size):
  Calls Tryz.prog 87 #[bqp c (.slice A c.pool.length cap) ifs flds mths, .pointer (some ⟨bk,0,none⟩), .pointer (some ⟨bs,0,none⟩)] w fun e w'=>e= .returned (.bool (bqP c.acc sup))∧Below w.heap.size w w':=by
 have HW:=Hq ((Below.refl w.heap.size w).alloc (Nat.le_refl _) (.cells #[.int .i64 c.minor, .int .i64 c.major, .slice A c.pool.length cap, .int .i64 c.acc, .int .i64 c.this, .int .i64 c.sup,ifs,flds,mths] 94))
 obtain⟨x1,x2,x3,x4,x5,x6,x7,x8,x9,x10,x11,x12⟩:=far bk w.heap.size hbk
 obtain⟨y1,y2,y3,y4,y5,y6,y7,y8,y9,y10,y11,y12⟩:=far bs w.heap.size hbs
 obtain⟨kn,hkn⟩: ∃b,sup.isSome=b:=⟨_,rfl⟩
 obtain⟨sp,hsp⟩: ∃b,sup.getD ⟨#[]⟩=b:=⟨_,rfl⟩
 rw [hkn] at hk
 rw [hsp] at hs
 have HB0:Hid (∀acc,bqP acc sup=((aqD acc 512&&(!aqD acc 1024||aqD acc 16)) ||lq5 acc 1040|| (aqD acc 512&&(!kn||sp.toList !=cqx)))):=Hq (fun acc=>by unfold bqP;rw [hkn,hsp])
 clear h hkn hsp
 cases h_f:aqD c.acc 512 with
 |false=>
  cases h_l:lq5 c.acc 1040 with
  |false=>
   have HR:Hid (bqP c.acc sup=false):=Hq (by rw [HB0.out];simp [h_f,h_l])
   have K0:=Hq h_f
   have K1:=Hq h_l
   clear h_f h_l
   rw [aqe]
   go_enter Tryz.func87,Tryz.ntmps87
   go_wp2_with (first| (go_at_call 88;refine(bqU _ _ _).mono ?_;rintro e w1 ⟨rfl,rfl⟩;(try rw [K0.out]);(try rw [K1.out])) | (go_at_call 89;refine(dqA _ _ _).mono ?_;rintro e w1 ⟨rfl,rfl⟩;(try rw [K0.out]);(try rw [K1.out])))
   go_ret
   exact⟨by rw [HR.out];rfl,HW.out⟩
  |true=>
   have HR:Hid (bqP c.acc sup=true):=Hq (by rw [HB0.out];simp [h_f,h_l])
   have K0:=Hq h_f
   have K1:=Hq h_l
   clear h_f h_l
   rw [aqe]
   go_enter Tryz.func87,Tryz.ntmps87
   go_wp2_with (first| (go_at_call 88;refine(bqU _ _ _).mono ?_;rintro e w1 ⟨rfl,rfl⟩;(try rw [K0.out]);(try rw [K1.out])) | (go_at_call 89;refine(dqA _ _ _).mono ?_;rintro e w1 ⟨rfl,rfl⟩;(try rw [K0.out]);(try rw [K1.out])))
   go_ret
   exact⟨by rw [HR.out];rfl,HW.out⟩
 |true=>
  cases h_a:aqD c.acc 1024 with
  |false=>
   have HR:Hid (bqP c.acc sup=true):=Hq (by rw [HB0.out];simp [h_f,h_a])
   have K0:=Hq h_f
   have K1:=Hq h_a
   clear h_f h_a
   rw [aqe]
   go_enter Tryz.func87,Tryz.ntmps87
   go_wp2_with (first| (go_at_call 88;refine(bqU _ _ _).mono ?_;rintro e w1 ⟨rfl,rfl⟩;(try rw [K0.out]);(try rw [K1.out])) | (go_at_call 89;refine(dqA _ _ _).mono ?_;rintro e w1 ⟨rfl,rfl⟩;(try rw [K0.out]);(try rw [K1.out])))
   go_ret
   exact⟨by rw [HR.out];rfl,HW.out⟩
  |true=>
   cases h_i:aqD c.acc 16 with
   |true=>
    have HR:Hid (bqP c.acc sup=true):=Hq (by rw [HB0.out];simp [h_f,h_a,h_i])
    have K0:=Hq h_f
    have K1:=Hq h_a
    have K2:=Hq h_i
    clear h_f h_a h_i
    rw [aqe]
    go_enter Tryz.func87,Tryz.ntmps87
    go_wp2_with (first| (go_at_call 88;refine(bqU _ _ _).mono ?_;rintro e w1 ⟨rfl,rfl⟩;(try rw [K0.out]);(try rw [K1.out]);(try rw [K2.out])) | (go_at_call 89;refine(dqA _ _ _).mono ?_;rintro e w1 ⟨rfl,rfl⟩;(try rw [K0.out]);(try rw [K1.out]);(try rw [K2.out])))
    go_ret
    exact⟨by rw [HR.out];rfl,HW.out⟩
   |false=>
    cases h_l:lq5 c.acc 1040 with
    |true=>
     have HR:Hid (bqP c.acc sup=true):=Hq (by rw [HB0.out];simp [h_f,h_a,h_i,h_l])
     have K0:=Hq h_f
     have K1:=Hq h_a
     have K2:=Hq h_i
     have K3:=Hq h_l
     clear h_f h_a h_i h_l
     rw [aqe]
     go_enter Tryz.func87,Tryz.ntmps87
     go_wp2_with (first| (go_at_call 88;refine(bqU _ _ _).mono ?_;rintro e w1 ⟨rfl,rfl⟩;(try rw [K0.out]);(try rw [K1.out]);(try rw [K2.out]);(try rw [K3.out])) | (go_at_call 89;refine(dqA _ _ _).mono ?_;rintro e w1 ⟨rfl,rfl⟩;(try rw [K0.out]);(try rw [K1.out]);(try rw [K2.out]);(try rw [K3.out])))
     go_ret
     exact⟨by rw [HR.out];rfl,HW.out⟩
    |false=>
     cases kn with
     |false=>
      have HR:Hid (bqP c.acc sup=true):=Hq (by rw [HB0.out];simp [h_f,h_a,h_i,h_l])
      have K0:=Hq h_f
      have K1:=Hq h_a
      have K2:=Hq h_i
      have K3:=Hq h_l
      clear h_f h_a h_i h_l
      rw [aqe]
      go_enter Tryz.func87,Tryz.ntmps87
      go_wp2_with (first| (go_at_call 88;refine(bqU _ _ _).mono ?_;rintro e w1 ⟨rfl,rfl⟩;(try rw [K0.out]);(try rw [K1.out]);(try rw [K2.out]);(try rw [K3.out])) | (go_at_call 89;refine(dqA _ _ _).mono ?_;rintro e w1 ⟨rfl,rfl⟩;(try rw [K0.out]);(try rw [K1.out]);(try rw [K2.out]);(try rw [K3.out])))
      go_ret
      exact⟨by rw [HR.out];rfl,HW.out⟩
     |true=>
      cases h_q:(sp.toList==cqx) with
      |true=>
       have hqe:sp.toList=cqx:=by simpa using h_q
       have hqb:(sp.toList !=cqx)=false:=by simp [hqe]
       unfold cqx at h_q hqb
       have HR:Hid (bqP c.acc sup=false):=Hq (by rw [HB0.out];simp [h_f,h_a,h_i,h_l,hqe])
       clear hqe
       have K0:=Hq h_f
       have K1:=Hq h_a
       have K2:=Hq h_i
       have K3:=Hq h_l
       clear h_f h_a h_i h_l
       rw [aqe]
       go_enter Tryz.func87,Tryz.ntmps87
       go_wp2_with (first| (go_at_call 88;refine(bqU _ _ _).mono ?_;rintro e w1 ⟨rfl,rfl⟩;(try rw [K0.out]);(try rw [K1.out]);(try rw [K2.out]);(try rw [K3.out])) | (go_at_call 89;refine(dqA _ _ _).mono ?_;rintro e w1 ⟨rfl,rfl⟩;(try rw [K0.out]);(try rw [K1.out]);(try rw [K2.out]);(try rw [K3.out])))
       go_ret
       exact⟨by rw [HR.out];rfl,HW.out⟩
      |false=>
       have hqe: ¬sp.toList=cqx:=by simpa using h_q
       have hqb:(sp.toList !=cqx)=true:=by simp [hqe]
       unfold cqx at h_q hqb
       have HR:Hid (bqP c.acc sup=true):=Hq (by rw [HB0.out];simp [h_f,h_a,h_i,h_l,hqe])
       clear hqe
       have K0:=Hq h_f
       have K1:=Hq h_a
       have K2:=Hq h_i
       have K3:=Hq h_l
       clear h_f h_a h_i h_l
       rw [aqe]
       go_enter Tryz.func87,Tryz.ntmps87
       go_wp2_with (first| (go_at_call 88;refine(bqU _ _ _).mono ?_;rintro e w1 ⟨rfl,rfl⟩;(try rw [K0.out]);(try rw [K1.out]);(try rw [K2.out]);(try rw [K3.out])) | (go_at_call 89;refine(dqA _ _ _).mono ?_;rintro e w1 ⟨rfl,rfl⟩;(try rw [K0.out]);(try rw [K1.out]);(try rw [K2.out]);(try rw [K3.out])))
       go_ret
       exact⟨by rw [HR.out];rfl,HW.out⟩
set_option maxHeartbeats 2000000
def kqF (bk bs:Nat):List Value:= [.int .i64 20, .func (.func 84) #[] #[], .int .i64 20, .func (.func 86) #[] #[], .int .i64 23, .func (.func 87) #[] #[.pointer (some ⟨bk,0,none⟩), .pointer (some ⟨bs,0,none⟩)]]
def fqw (b1 b2 b3:Bool):Int:=if b1 then 20 else if b2 then 20 else if b3 then 23 else 0
theorem jqm (c:aqj) (A:Option Addr) (cap:Nat) (ifs flds mths:Value) (ok:Nat→Prop) (w:World) (h:aqQ w ok c A cap ifs flds mths) (hn1:bqF c.this) (hn2:bqF c.sup) (g bk bs:Nat) (sup:Option ByteArray) (t:TypeId) (hg:Bx w g (kqF bk bs) t) (hk:w.cell? ⟨bk,0,none⟩=some (.bool sup.isSome)) (hs:w.cell? ⟨bs,0,none⟩=some (.string (sup.getD ⟨#[]⟩))) (hbk:bk<w.heap.size) (hbs:bs<w.heap.size):
  Calls Tryz.prog 83 #[bqp c (.slice A c.pool.length cap) ifs flds mths, .slice (some ⟨g,0,none⟩) 3 3] w fun e w'=>
   e= .returned (.int .i64 (fqw (eqW c.pool c.this) (eqW c.pool c.sup) (bqP c.acc sup)))∧Below w.heap.size w w':=by
 have HW:=Hq ((Below.refl w.heap.size w).alloc (Nat.le_refl _) (.cells #[.int .i64 c.minor, .int .i64 c.major, .slice A c.pool.length cap, .int .i64 c.acc, .int .i64 c.this, .int .i64 c.sup,ifs,flds,mths] 94))
 have X0:=Hq (aqo w [.int .i64 c.minor, .int .i64 c.major, .slice A c.pool.length cap, .int .i64 c.acc, .int .i64 c.this, .int .i64 c.sup,ifs,flds,mths] 94)
 have H0:=Hq (h.below ((Below.refl _ _).alloc (Nat.le_refl _) (.cells #[.int .i64 c.minor, .int .i64 c.major, .slice A c.pool.length cap, .int .i64 c.acc, .int .i64 c.this, .int .i64 c.sup,ifs,flds,mths] 94)))
 have G0:=Hq (hg.below ((Below.refl _ _).alloc (Nat.le_refl _) (.cells #[.int .i64 c.minor, .int .i64 c.major, .slice A c.pool.length cap, .int .i64 c.acc, .int .i64 c.this, .int .i64 c.sup,ifs,flds,mths] 94)) hg.lt)
 have HK0:=Hq ((World.cell?_alloc_lt w (.cells #[.int .i64 c.minor, .int .i64 c.major, .slice A c.pool.length cap, .int .i64 c.acc, .int .i64 c.this, .int .i64 c.sup,ifs,flds,mths] 94) ⟨bk,0,none⟩ hbk).trans hk)
 have HS0:=Hq ((World.cell?_alloc_lt w (.cells #[.int .i64 c.minor, .int .i64 c.major, .slice A c.pool.length cap, .int .i64 c.acc, .int .i64 c.this, .int .i64 c.sup,ifs,flds,mths] 94) ⟨bs,0,none⟩ hbs).trans hs)
 have HN1:=Hq hn1
 have HN2:=Hq hn2
 have hgl:=hg.lt
 obtain⟨v1,hv1⟩: ∃b,(eqW c.pool c.this)=b:=⟨_,rfl⟩
 obtain⟨v2,hv2⟩: ∃b,(eqW c.pool c.sup)=b:=⟨_,rfl⟩
 obtain⟨v3,hv3⟩: ∃b,bqP c.acc sup=b:=⟨_,rfl⟩
 rw [hv1,hv2,hv3]
 have HV1:=Hq hv1
 have HV2:=Hq hv2
 have HV3:=Hq hv3
 clear h hg hk hs hn1 hn2 hv1 hv2 hv3
 rw [aqe]
 go_enter Tryz.func83,Tryz.ntmps83
 go_wp2_with fail
 refine wp_loop_rounds 4 ?_
 have g0:=G0.out.cell 0 rfl
 have g1:=G0.out.cell 1 rfl
 have c0:=X0.out.cell 0 rfl
 have c1:=X0.out.cell 1 rfl
 have c2:=X0.out.cell 2 rfl
 have c3:=X0.out.cell 3 rfl
 have c4:=X0.out.cell 4 rfl
 have c5:=X0.out.cell 5 rfl
 have c6:=X0.out.cell 6 rfl
 have c7:=X0.out.cell 7 rfl
 have c8:=X0.out.cell 8 rfl
 rw [rounds_succ]
 go_wp2_with (go_at_call 84;refine aqa ?_)
 refine aqb ?_
 refine(kqC c A cap ifs flds mths ok _ (H0.out.below ((Below.refl _ _).alloc (Nat.le_refl _) _)) HN1.out).mono ?_
 rw [HV1.out]
 rintro e w1 ⟨rfl,hb⟩
 have hz1:=hb.size
 simp at hz1
 have HW1:=Hq ((HW.out.alloc (by first| (simp;done) | (simp;omega) |omega) _).trans (hb.mono (by first| (simp;done) | (simp;omega) |omega)))
 have X1:=Hq ((X0.out.below ((Below.refl _ _).alloc (Nat.le_refl _) _) X0.out.lt).below hb (by first| (simp;done) | (simp;omega) |omega))
 have G1:=Hq ((G0.out.below ((Below.refl _ _).alloc (Nat.le_refl _) _) G0.out.lt).below hb (by first| (simp;done) | (simp;omega) |omega))
 have H1:=Hq ((H0.out.below ((Below.refl _ _).alloc (Nat.le_refl _) _)).below hb)
 have HK1:=Hq ((hb.cell (p:=⟨bk,0,none⟩) (by simp;omega)).trans ((World.cell?_alloc_lt _ _ _ (by simp;omega)).trans HK0.out))
 have HS1:=Hq ((hb.cell (p:=⟨bs,0,none⟩) (by simp;omega)).trans ((World.cell?_alloc_lt _ _ _ (by simp;omega)).trans HS0.out))
 have R1:=Hq ((aql (w.alloc (.cells #[.int .i64 c.minor, .int .i64 c.major, .slice A c.pool.length cap, .int .i64 c.acc, .int .i64 c.this, .int .i64 c.sup,ifs,flds,mths] 94)) [.int .i64 20, .func (.func 84) #[] #[]] 149 (w.heap.size+1) (by simp)).below hb (by first| (simp;done) | (simp;omega) |omega))
 have r0:=R1.out.cell 0 rfl
 clear hb c0 c1 c2 c3 c4 c5 c6 c7 c8 g0 g1
 cases v1 with
 |true=>
  go_wp2_with fail
  go_ret
  exact⟨rfl,HW1.out⟩
 |false=>
  go_wp2_with fail
  have g2:=G1.out.cell 2 rfl
  have g3:=G1.out.cell 3 rfl
  have c0:=X1.out.cell 0 rfl
  have c1:=X1.out.cell 1 rfl
  have c2:=X1.out.cell 2 rfl
  have c3:=X1.out.cell 3 rfl
  have c4:=X1.out.cell 4 rfl
  have c5:=X1.out.cell 5 rfl
  have c6:=X1.out.cell 6 rfl
  have c7:=X1.out.cell 7 rfl
  have c8:=X1.out.cell 8 rfl
  obtain⟨f1,f2,f3,f4,f5,f6,f7,f8,f9,f10,f11,f12⟩:=far w.heap.size w1.heap.size (by omega)
  obtain⟨q1,q2,q3,q4,q5,q6,q7,q8,q9,q10,q11,q12⟩:=far g w1.heap.size (by omega)
  rw [rounds_succ]
  go_wp2_with (go_at_call 86;refine aqa ?_)
  refine aqb ?_
  refine(kqD c A cap ifs flds mths ok _ (H1.out.below ((Below.refl _ _).alloc (Nat.le_refl _) _)) HN2.out).mono ?_
  rw [HV2.out]
  rintro e w2 ⟨rfl,hb⟩
  have hz2:=hb.size
  simp at hz2
  have hq2:w.heap.size<w2.heap.size:=by omega
  have HW2:=Hq ((HW1.out.alloc (by first| (simp;done) | (simp;omega) |omega) _).trans (hb.mono (by first| (simp;done) | (simp;omega) |omega)))
  have X2:=Hq ((X1.out.below ((Below.refl _ _).alloc (Nat.le_refl _) _) X1.out.lt).below hb (by first| (simp;done) | (simp;omega) |omega))
  have G2:=Hq ((G1.out.below ((Below.refl _ _).alloc (Nat.le_refl _) _) G1.out.lt).below hb (by first| (simp;done) | (simp;omega) |omega))
  have H2:=Hq ((H1.out.below ((Below.refl _ _).alloc (Nat.le_refl _) _)).below hb)
  have HK2:=Hq ((hb.cell (p:=⟨bk,0,none⟩) (by simp;omega)).trans ((World.cell?_alloc_lt _ _ _ (by simp;omega)).trans HK1.out))
  have HS2:=Hq ((hb.cell (p:=⟨bs,0,none⟩) (by simp;omega)).trans ((World.cell?_alloc_lt _ _ _ (by simp;omega)).trans HS1.out))
  have R2:=Hq ((aql w1 [.int .i64 20, .func (.func 86) #[] #[]] 149 (w1.heap.size) (by simp)).below hb (by first| (simp;done) | (simp;omega) |omega))
  have r0:=R2.out.cell 0 rfl
  clear hb c0 c1 c2 c3 c4 c5 c6 c7 c8 g2 g3
  cases v2 with
  |true=>
   go_wp2_with fail
   go_ret
   exact⟨rfl,HW2.out⟩
  |false=>
   go_wp2_with fail
   have g4:=G2.out.cell 4 rfl
   have g5:=G2.out.cell 5 rfl
   have c0:=X2.out.cell 0 rfl
   have c1:=X2.out.cell 1 rfl
   have c2:=X2.out.cell 2 rfl
   have c3:=X2.out.cell 3 rfl
   have c4:=X2.out.cell 4 rfl
   have c5:=X2.out.cell 5 rfl
   have c6:=X2.out.cell 6 rfl
   have c7:=X2.out.cell 7 rfl
   have c8:=X2.out.cell 8 rfl
   obtain⟨f1,f2,f3,f4,f5,f6,f7,f8,f9,f10,f11,f12⟩:=far w.heap.size w2.heap.size (by omega)
   obtain⟨q1,q2,q3,q4,q5,q6,q7,q8,q9,q10,q11,q12⟩:=far g w2.heap.size (by omega)
   rw [rounds_succ]
   go_wp2_with (go_at_call 87;refine aqa ?_)
   refine aqb ?_
   refine(kqE c A cap ifs flds mths ok _ (H2.out.below ((Below.refl _ _).alloc (Nat.le_refl _) _)) bk bs sup ((World.cell?_alloc_lt _ _ _ (by simp;omega)).trans HK2.out) ((World.cell?_alloc_lt _ _ _ (by simp;omega)).trans HS2.out) (by simp;omega) (by simp;omega)).mono ?_
   rw [HV3.out]
   rintro e w3 ⟨rfl,hb⟩
   have hz3:=hb.size
   simp at hz3
   have hq3:w.heap.size<w3.heap.size:=by omega
   have HW3:=Hq ((HW2.out.alloc (by first| (simp;done) | (simp;omega) |omega) _).trans (hb.mono (by first| (simp;done) | (simp;omega) |omega)))
   have X3:=Hq ((X2.out.below ((Below.refl _ _).alloc (Nat.le_refl _) _) X2.out.lt).below hb (by first| (simp;done) | (simp;omega) |omega))
   have G3:=Hq ((G2.out.below ((Below.refl _ _).alloc (Nat.le_refl _) _) G2.out.lt).below hb (by first| (simp;done) | (simp;omega) |omega))
   have H3:=Hq ((H2.out.below ((Below.refl _ _).alloc (Nat.le_refl _) _)).below hb)
   have HK3:=Hq ((hb.cell (p:=⟨bk,0,none⟩) (by simp;omega)).trans ((World.cell?_alloc_lt _ _ _ (by simp;omega)).trans HK2.out))
   have HS3:=Hq ((hb.cell (p:=⟨bs,0,none⟩) (by simp;omega)).trans ((World.cell?_alloc_lt _ _ _ (by simp;omega)).trans HS2.out))
   have R3:=Hq ((aql w2 [.int .i64 23, .func (.func 87) #[] #[.pointer (some ⟨bk,0,none⟩), .pointer (some ⟨bs,0,none⟩)]] 149 (w2.heap.size) (by simp)).below hb (by first| (simp;done) | (simp;omega) |omega))
   have r0:=R3.out.cell 0 rfl
   clear hb c0 c1 c2 c3 c4 c5 c6 c7 c8 g4 g5
   cases v3 with
   |true=>
    go_wp2_with fail
    go_ret
    exact⟨rfl,HW3.out⟩
   |false=>
    go_wp2_with fail
    rw [rounds_succ]
    go_wp2_with fail
    go_ret
    exact⟨rfl,HW3.out⟩
end Go.Proofs.YtlcidkiplidamaaGreatDoor
namespace Go.Proofs.YtlcidkiplidamaaGreatDoor
open Go Go.RowKit Lib Go.Maps
theorem eqS.no_cell {w:World} {P:Program} {k:TypeId} {b n sz:Nat} {f:List UInt8→Option Value} (h:eqS w P k b n f sz) (o:Nat):w.cell? ⟨b,o,none⟩=none:=by
 obtain⟨D,⟨es,clock,h1,_⟩,_⟩:=h
 simp [World.cell?,h1]
def gqP (pool:List Ko):List Int→List (List UInt8)→Int→Int
 | [],_,e=>e
 |n::r,seen,e=>if e≠0 then e else
  gqP pool r (((bqk pool n).getD ⟨#[]⟩).data.toList::seen) (if(bqk pool n).isSome=false then 20 else if((bqk pool n).getD ⟨#[]⟩).data.toList∈seen then 24 else 0)
def cqE (c:aqj):Int:=gqP c.pool c.ifs [] (fqw (eqW c.pool c.this) (eqW c.pool c.sup) (bqP c.acc (bqk c.pool c.sup)))
def fqe (seen:List (List UInt8)):List UInt8→Option Value:=fun s=>if s∈seen then some (.int .i64 (seen.count s)) else none
theorem fqx (seen:List (List UInt8)) (s:List UInt8):fqh (fqe seen) s (.int .i64 ((seen.count s:Int)+1))=fqe (s::seen):=by
 funext x
 unfold fqh fqe
 by_cases hx:x=s
 ·subst hx
  simp
 simp [hx,List.count_cons,Ne.symm hx]
theorem fqy (seen:List (List UInt8)) (s:List UInt8):(fqe seen s).getD (.int .i64 0)= .int .i64 (seen.count s):=by
 unfold fqe
 by_cases h:s∈seen
 ·simp [h]
 simp [h,List.count_eq_zero.2 h]
theorem oqo (w:World):(zeroValue 3).run Tryz.prog w= .ok (.int .i64 0) w:=by kernel_rfl
theorem fqz {pool:List Ko} {n:Int} {s:ByteArray} (h:aqg pool n=some s) (ht: ∀k∈pool,k.text.size≤65536):s.size≤65536:=by
 unfold aqg at h
 rcases hk:aqq pool n 1 with _|k
 ·rw [hk] at h
  cases h
 rw [hk] at h
 injection h with h
 subst h
 exact ht k (cql hk).1
theorem hqT {pool:List Ko} {n:Int} (ht: ∀k∈pool,k.text.size≤65536):((bqk pool n).getD ⟨#[]⟩).size≤65536:=by
 rcases hs:bqk pool n with _|s
 ·exact Nat.zero_le _
 unfold bqk at hs
 rcases hk:aqq pool n 7 with _|k
 ·rw [hk] at hs
  cases hs
 rw [hk] at hs
 exact fqz hs ht
theorem gq6 (pool:List Ko) (n:Int) (r:List Int) (seen:List (List UInt8)) (e:Int) (h:e≠0):gqP pool (n::r) seen e=e:=by rw [gqP,if_pos h]
theorem kqG (pool:List Ko) (n:Int) (r:List Int) (seen:List (List UInt8)):gqP pool (n::r) seen 0=gqP pool r (((bqk pool n).getD ⟨#[]⟩).data.toList::seen) (if(bqk pool n).isSome=false then 20 else if((bqk pool n).getD ⟨#[]⟩).data.toList∈seen then 24 else 0):=by rw [gqP,if_neg (by simp)]
theorem cqX.turned {w w':World} {P:Program} {k:TypeId} {b m sz:Nat} {f:List UInt8→Option Value} {ok:Nat→Prop} {size n:Nat} {cells:List Value} {v:Value} (h:cqX w ok size n cells v) (hs:0<size) (hg:w.grownBy w' (some b)) (hM:eqS w P k b m f sz):cqX w' ok size n cells v:=by
 obtain⟨A,cap,rfl,h1,h2,h3,h4⟩:=h
 refine⟨A,cap,rfl,h1,h2,h3,fun h0=> ?_⟩
 obtain⟨g,off,e,hlt,ho,hc⟩:=h4 h0
 refine⟨g,off,e,Nat.lt_of_lt_of_le hlt hg.size,ho,fun j u hu=> ?_⟩
 have h5:=hc j u hu
 have hne:g≠b:=fun e=>by
  subst e
  rw [hM.no_cell] at h5
  cases h5
 rw [World.cell?_of_block (w:=w) (hg.block g hlt (fun e=>hne (by injection e)))]
 exact h5
theorem aqQ.turned {w w':World} {P:Program} {k:TypeId} {b m sz:Nat} {f:List UInt8→Option Value} {ok:Nat→Prop} {c:aqj} {A:Option Addr} {cap:Nat} {ifs flds mths:Value} (h:aqQ w ok c A cap ifs flds mths) (hg:w.grownBy w' (some b)) (hM:eqS w P k b m f sz):aqQ w' ok c A cap ifs flds mths:=
 ⟨h.hp.turned (by omega) hg hM,h.h1,h.h2,h.h3⟩
theorem mqy (c:aqj) (A:Option Addr) (cap:Nat) (ifs flds mths:Value) (ok:Nat→Prop) (w:World) (h:aqQ w ok c A cap ifs flds mths) (hi:cqX w ok 1 c.ifs.length (c.ifs.map (Value.int .i64)) ifs) (hn1:bqF c.this) (hn2:bqF c.sup) (hf: ∀k∈c.pool,bqF k.a) (hfi: ∀n∈c.ifs,bqF n) (hft: ∀k∈c.pool,k.text.size≤65536):
  Calls Tryz.prog 37 #[bqp c (.slice A c.pool.length cap) ifs flds mths] w fun e w'=>e= .returned (.int .i64 (cqE c))∧Below w.heap.size w w':=by
 have hmf: ∀(fn:Fn) (first cap:Array Value) (w:World),(Instr.makeFunc fn first cap).run Tryz.prog w= .ok (.func fn first cap) w:=fun _ _ _ _=>rfl
 have hmm:= @run_makeMap Tryz.prog
 have H0:=Hq (h.below ((Below.refl _ _).alloc (Nat.le_refl _) (.cells #[.int .i64 c.minor, .int .i64 c.major, .slice A c.pool.length cap, .int .i64 c.acc, .int .i64 c.this, .int .i64 c.sup,ifs,flds,mths] 94)))
 have X0:=Hq (aqo w [.int .i64 c.minor, .int .i64 c.major, .slice A c.pool.length cap, .int .i64 c.acc, .int .i64 c.this, .int .i64 c.sup,ifs,flds,mths] 94)
 have HI:=Hq hi
 have HN1:=Hq hn1
 have HN2:=Hq hn2
 have HF:=Hq hf
 have HFI:=Hq hfi
 have HFT:=Hq hft
 obtain⟨A2,cap2,rfl,hc2,hm2,hl2,_⟩:=hi
 clear h hn1 hn2 hf hfi hl2 hft
 rw [aqe]
 go_enter Tryz.func37,Tryz.ntmps37
 go_wp2_with (go_at_call 82;refine aqa ?_)
 refine aqb ?_
 refine(gq5 c A cap _ flds mths c.sup ok _ H0.out HN2.out HF.out).mono ?_
 rintro e w1 ⟨rfl,hb⟩
 simp only [dqc]
 have hz1:=hb.size
 simp at hz1
 have HB1:=Hq hb
 have X1:=Hq (X0.out.below hb (by simp))
 have H1:=Hq (H0.out.below hb)
 clear hb
 obtain⟨x1,x2,x3,x4,x5,x6,x7,x8,x9,x10,x11,x12⟩:=far w.heap.size w1.heap.size (by omega)
 have c0:=X1.out.cell 0 rfl
 have c1:=X1.out.cell 1 rfl
 have c2:=X1.out.cell 2 rfl
 have c3:=X1.out.cell 3 rfl
 have c4:=X1.out.cell 4 rfl
 have c5:=X1.out.cell 5 rfl
 have c6:=X1.out.cell 6 rfl
 have c7:=X1.out.cell 7 rfl
 have c8:=X1.out.cell 8 rfl
 go_wp2_with (go_at_call 83;refine aqa ?_)
 refine aqb ?_
 obtain⟨e1,he1⟩: ∃e,fqw (eqW c.pool c.this) (eqW c.pool c.sup) (bqP c.acc (bqk c.pool c.sup))=e:=⟨_,rfl⟩
 have HE1:=Hq (show cqE c=gqP c.pool (c.ifs.drop 0) [] e1 by unfold cqE;rw [he1];rfl)
 have HW2:=Hq ((((Below.refl w1.heap.size w1).alloc (Nat.le_refl _) (.cells #[.string ((bqk c.pool c.sup).getD ⟨#[]⟩)] 9)).alloc (by simp) (.cells #[.bool (bqk c.pool c.sup).isSome] 4)).alloc (by simp;omega) (.cells (kqF (w1.heap.size+1) w1.heap.size).toArray 149))
 refine(jqm c A cap _ flds mths ok _ (H1.out.below HW2.out) HN1.out HN2.out (w1.heap.size+1+1) (w1.heap.size+1) w1.heap.size (bqk c.pool c.sup) 149 (aql _ (kqF (w1.heap.size+1) w1.heap.size) _ _ (by simp)) (by simp [go_sem]) (by simp [go_sem]) (by first| (simp;done) | (simp;omega)) (by first| (simp;done) | (simp;omega))).mono ?_
 rw [he1]
 rintro e w2 ⟨rfl,hb2⟩
 have hz2:=hb2.size
 simp at hz2
 have HB2:=Hq (((((Below.refl w.heap.size w).alloc (Nat.le_refl _) _).trans (HB1.out.mono (by simp))).trans (HW2.out.mono (by omega))).trans (hb2.mono (by simp;omega)))
 have X2:=Hq ((X1.out.below HW2.out (by omega)).below hb2 (by simp;omega))
 have H2:=Hq ((H1.out.below HW2.out).below hb2)
 clear hb2 he1 c0 c1 c2 c3 c4 c5 c6 c7 c8 x1 x2 x3 x4 x5 x6 x7 x8 x9 x10 x11 x12
 obtain⟨x1,x2,x3,x4,x5,x6,x7,x8,x9,x10,x11,x12⟩:=far w.heap.size w2.heap.size (by omega)
 have c6:=X2.out.cell 6 rfl
 go_wp2_with fail
 have HM3:=Hq (show eqS (w2.alloc (.map #[] 0)) Tryz.prog 9 w2.heap.size 0 (fqe []) 0 by
  have e:fqe []=fun _=>none:=by funext s;simp [fqe]
  rw [e]
  exact eqy w2 Tryz.prog 9)
 have HB3:=Hq (HB2.out.alloc (by omega) (.map #[] 0))
 have X3:=Hq (X2.out.below ((Below.refl _ _).alloc (Nat.le_refl _) (.map #[] 0)) X2.out.lt)
 have H3:=Hq (H2.out.below ((Below.refl _ _).alloc (Nat.le_refl _) (.map #[] 0)))
 have hz3:w2.heap.size< (w2.alloc (.map #[] 0)).heap.size:=by simp
 clear c6
 go_loopw [5,31] (fun ev i wr=> ∃(k:Nat) (seen:List (List UInt8)) (e:Int) (nm sz:Nat),k≤c.ifs.length∧i= .int .i64 k∧ev= .int .i64 e∧nm≤k∧Hid (eqS wr Tryz.prog 9 w2.heap.size nm (fqe seen) sz)∧Hid (Below w.heap.size w wr)∧Hid (Bx wr w.heap.size [.int .i64 c.minor, .int .i64 c.major, .slice A c.pool.length cap, .int .i64 c.acc, .int .i64 c.this, .int .i64 c.sup, .slice A2 c.ifs.length cap2,flds,mths] 94)∧Hid (aqQ wr ok c A cap (.slice A2 c.ifs.length cap2) flds mths)∧Hid (cqE c=gqP c.pool (c.ifs.drop k) seen e)∧w2.heap.size<wr.heap.size∧Hid (seen.length=k)) (fun _ i _=>c.ifs.length - (RowKit.intOf i).toNat)
 case atStart=>exact⟨0, [],e1,0,0,by omega,rfl,rfl,by omega,HM3,HB3,X3,H3,HE1,hz3,Hq rfl⟩
 case round=>
  obtain⟨k,seen,e,nm,sz,hk,rfl,rfl,hnm,HMr,HBr,Xr,Hr,HEr,hzr,HLr⟩:=hrel
  by_cases hlt:k<c.ifs.length
  ·obtain⟨n,hn⟩: ∃n,c.ifs[k]?=some n:=⟨_,List.getElem?_eq_getElem hlt⟩
   have HDR:=Hq (show c.ifs.drop k=n::c.ifs.drop (k+1) by
    rw [List.drop_eq_getElem_cons hlt]
    congr 1
    rw [List.getElem?_eq_getElem hlt] at hn
    injection hn)
   have HNF:=Hq (HFI.out n (List.mem_of_getElem? hn))
   obtain⟨A',cap',ev,_,_,_,h5⟩:=HI.out.keep (bqE.of_below HBr.out)
   cases ev
   obtain⟨b,off,rfl,hbl,_,hc⟩:=h5 (by omega)
   have cn:=hc k (.int .i64 n) (by rw [List.getElem?_map,hn];rfl)
   clear hn hc h5
   by_cases he:e=0
   ·subst he
    have c0:=Xr.out.cell 0 rfl
    have c1:=Xr.out.cell 1 rfl
    have c2:=Xr.out.cell 2 rfl
    have c3:=Xr.out.cell 3 rfl
    have c4:=Xr.out.cell 4 rfl
    have c5:=Xr.out.cell 5 rfl
    have c6:=Xr.out.cell 6 rfl
    have c7:=Xr.out.cell 7 rfl
    have c8:=Xr.out.cell 8 rfl
    go_wp2_with (go_at_call 82;refine aqa ?_)
    refine aqb ?_
    clear c0 c1 c2 c3 c4 c5 c6 c7 c8
    refine(gq5 c A cap _ flds mths n ok _ Hr.out HNF.out HF.out).mono ?_
    rintro e w4 ⟨rfl,hb4⟩
    simp only [dqc]
    have hz4:=hb4.size
    have HM4:=Hq (HMr.out.keep (hb4.block _ hzr))
    have HB4:=Hq (HBr.out.trans (hb4.mono (by omega)))
    have X4:=Hq (Xr.out.below hb4 Xr.out.lt)
    have H4:=Hq (Hr.out.below hb4)
    have hsz:((bqk c.pool n).getD ⟨#[]⟩).size≤maxLen:=by have:=hqT (n:=n) HFT.out;unfold maxLen;omega
    have HE4:=HEr.out
    rw [HDR.out,kqG] at HE4
    have HE4:=Hq HE4
    obtain⟨sv,hsv⟩: ∃s,(bqk c.pool n).getD ⟨#[]⟩=s:=⟨_,rfl⟩
    obtain⟨kv,hkv⟩: ∃b,(bqk c.pool n).isSome=b:=⟨_,rfl⟩
    rw [hsv,hkv] at HE4
    rw [hsv] at hsz
    rw [hsv,hkv]
    clear hb4 hsv hkv
    have hcb:seen.count sv.data.toList≤1048576:=Nat.le_trans List.count_le_length (by have:=HLr.out;omega)
    cases kv with
    |false=>
     have HE4:=Hq (show cqE c=gqP c.pool (c.ifs.drop (k+1)) (sv.data.toList::seen) 20 from HE4.out.trans (by rw [if_pos rfl]))
     go_wp2_with (first
 | (at_lookup;refine hqO rfl _ _ rfl Tryz.underlying9 Tryz.underlying69 (oqo _) rfl HM4.out rfl hsz ?_;rw [fqy])
 | (at_mapUpdate;refine gqO (u:= .int .i64 ((seen.count sv.data.toList:Int)+1)) rfl _ _ _ rfl Tryz.underlying9 Tryz.underlying69 rfl HM4.out (by unfold maxLen;omega) rfl hsz rfl ?_;intro w5 hm5 hg5;refine aqa ?_))
     rw [fqx] at hm5
     have HM5:=Hq (show∃sz',eqS w5 Tryz.prog 9 w2.heap.size (nm+1) (fqe (sv.data.toList::seen)) sz' from⟨_,hm5⟩)
     have HB5:=Hq (HB4.out.grown hg5 (by omega) (fun q hq=>by injection hq with hq;omega))
     have X5:=Hq ((hg5.block _ X4.out.lt (fun e=>by injection e with e;omega)).trans X4.out)
     have H5:=Hq (H4.out.turned hg5 HM4.out)
     have hz5:=hg5.size
     clear hm5 hg5
     obtain⟨sz5,hm5⟩:=HM5.out
     have HM5':=Hq hm5
     clear hm5
     refine aqb ?_
     go_wp2_with fail
     go_roundw
     case rel=>exact⟨k+1,sv.data.toList::seen,20,nm+1,sz5,by omega,by go_num,rfl,by omega,HM5',HB5,X5,H5,HE4,by omega,Hq (by simp [HLr.out])⟩
     case measure=>simp [RowKit.intOf];omega
    |true=>
     by_cases hin:sv.data.toList∈seen
     ·have HE4:=Hq (show cqE c=gqP c.pool (c.ifs.drop (k+1)) (sv.data.toList::seen) 24 from HE4.out.trans (by rw [if_neg (by simp),if_pos hin]))
      have hcnt:0<seen.count sv.data.toList:=List.count_pos_iff.2 hin
      clear hin
      go_wp2_with (first
 | (at_lookup;refine hqO rfl _ _ rfl Tryz.underlying9 Tryz.underlying69 (oqo _) rfl HM4.out rfl hsz ?_;rw [fqy])
 | (at_mapUpdate;refine gqO (u:= .int .i64 ((seen.count sv.data.toList:Int)+1)) rfl _ _ _ rfl Tryz.underlying9 Tryz.underlying69 rfl HM4.out (by unfold maxLen;omega) rfl hsz rfl ?_;intro w5 hm5 hg5;refine aqa ?_))
      rw [fqx] at hm5
      have HM5:=Hq (show∃sz',eqS w5 Tryz.prog 9 w2.heap.size (nm+1) (fqe (sv.data.toList::seen)) sz' from⟨_,hm5⟩)
      have HB5:=Hq (HB4.out.grown hg5 (by omega) (fun q hq=>by injection hq with hq;omega))
      have X5:=Hq ((hg5.block _ X4.out.lt (fun e=>by injection e with e;omega)).trans X4.out)
      have H5:=Hq (H4.out.turned hg5 HM4.out)
      have hz5:=hg5.size
      clear hm5 hg5
      obtain⟨sz5,hm5⟩:=HM5.out
      have HM5':=Hq hm5
      clear hm5
      refine aqb ?_
      go_wp2_with fail
      go_roundw
      case rel=>exact⟨k+1,sv.data.toList::seen,24,nm+1,sz5,by omega,by go_num,rfl,by omega,HM5',HB5,X5,H5,HE4,by omega,Hq (by simp [HLr.out])⟩
      case measure=>simp [RowKit.intOf];omega
     ·have HE4:=Hq (show cqE c=gqP c.pool (c.ifs.drop (k+1)) (sv.data.toList::seen) 0 from HE4.out.trans (by rw [if_neg (by simp),if_neg hin]))
      have hcnt: ¬0<seen.count sv.data.toList:=by rw [List.count_eq_zero.2 hin];omega
      clear hin
      go_wp2_with (first
 | (at_lookup;refine hqO rfl _ _ rfl Tryz.underlying9 Tryz.underlying69 (oqo _) rfl HM4.out rfl hsz ?_;rw [fqy])
 | (at_mapUpdate;refine gqO (u:= .int .i64 ((seen.count sv.data.toList:Int)+1)) rfl _ _ _ rfl Tryz.underlying9 Tryz.underlying69 rfl HM4.out (by unfold maxLen;omega) rfl hsz rfl ?_;intro w5 hm5 hg5;refine aqa ?_))
      rw [fqx] at hm5
      have HM5:=Hq (show∃sz',eqS w5 Tryz.prog 9 w2.heap.size (nm+1) (fqe (sv.data.toList::seen)) sz' from⟨_,hm5⟩)
      have HB5:=Hq (HB4.out.grown hg5 (by omega) (fun q hq=>by injection hq with hq;omega))
      have X5:=Hq ((hg5.block _ X4.out.lt (fun e=>by injection e with e;omega)).trans X4.out)
      have H5:=Hq (H4.out.turned hg5 HM4.out)
      have hz5:=hg5.size
      clear hm5 hg5
      obtain⟨sz5,hm5⟩:=HM5.out
      have HM5':=Hq hm5
      clear hm5
      refine aqb ?_
      go_wp2_with fail
      go_roundw
      case rel=>exact⟨k+1,sv.data.toList::seen,0,nm+1,sz5,by omega,by go_num,rfl,by omega,HM5',HB5,X5,H5,HE4,by omega,Hq (by simp [HLr.out])⟩
      case measure=>simp [RowKit.intOf];omega
   ·have HR:=Hq (show cqE c=e by rw [HEr.out,HDR.out];exact gq6 _ _ _ _ _ he)
    have heb:(e !=0)=true:=by simp [he]
    clear he
    go_wp2_with fail
    go_ret
    exact⟨by rw [HR.out];rfl,HBr.out⟩
  ·have hkk:k=c.ifs.length:=by omega
   have HR:=Hq (show cqE c=e by rw [HEr.out,hkk,List.drop_length];rfl)
   go_wp2_with fail
   go_ret
   exact⟨by rw [HR.out];rfl,HBr.out⟩
end Go.Proofs.YtlcidkiplidamaaGreatDoor
namespace Go.Proofs.YtlcidkiplidamaaGreatDoor
open Go Go.RowKit Lib
def cqy (m:aqA):Bool:=decide (64<m.traps.length) ||decide (4096<m.code.length)
def eqB (c:aqj):Bool:=decide (1024<c.pool.length) ||decide (64<c.ifs.length) ||decide (64<c.flds.length) ||decide (64<c.mths.length) ||c.mths.any cqy
theorem aqm {w:World} {ok:Nat→Prop} {size n:Nat} {cells:List Value} {v:Value} (h:cqX w ok size n cells v): ∃A cap,v= .slice A n cap∧n≤cap∧n≤1048576:=by
 obtain⟨A,cap,e,h1,h2,_⟩:=h
 exact⟨A,cap,e,h1,h2⟩
theorem kqH (c:aqj) (p i f m:Value) (ok:Nat→Prop) (w:World) (h:aq9 w ok c p i f m) (hl:1024<c.pool.length∨64<c.ifs.length∨64<c.flds.length∨64<c.mths.length):
  Calls Tryz.prog 35 #[bqp c p i f m] w fun e w'=>e= .returned (.bool true)∧Below w.heap.size w w':=by
 obtain⟨A1,k1,rfl,q1,z1⟩:=aqm h.hpool
 obtain⟨A2,k2,rfl,q2,z2⟩:=aqm h.hifs
 obtain⟨A3,k3,rfl,q3,z3⟩:=aqm h.hflds
 obtain⟨_,_,h4,_⟩:=h.hmths
 obtain⟨A4,k4,rfl,q4,z4⟩:=aqm h4
 clear h h4
 have HW:=Hq ((Below.refl w.heap.size w).alloc (Nat.le_refl _) (.cells #[.int .i64 c.minor, .int .i64 c.major, .slice A1 c.pool.length k1, .int .i64 c.acc, .int .i64 c.this, .int .i64 c.sup, .slice A2 c.ifs.length k2, .slice A3 c.flds.length k3, .slice A4 c.mths.length k4] 28))
 rw [aqe]
 generalize c.pool.length=n1 at*
 generalize c.ifs.length=n2 at*
 generalize c.flds.length=n3 at*
 generalize c.mths.length=n4 at*
 by_cases h1:1024<n1
 ·clear hl
  go_enter Tryz.func35,Tryz.ntmps35
  go_wp2
  go_ret
  exact⟨rfl,HW.out⟩
 by_cases h2:64<n2
 ·clear hl
  go_enter Tryz.func35,Tryz.ntmps35
  go_wp2
  go_ret
  exact⟨rfl,HW.out⟩
 by_cases h3:64<n3
 ·clear hl
  go_enter Tryz.func35,Tryz.ntmps35
  go_wp2
  go_ret
  exact⟨rfl,HW.out⟩
 have h4:64<n4:=by omega
 clear hl
 go_enter Tryz.func35,Tryz.ntmps35
 go_wp2
 go_ret
 exact⟨rfl,HW.out⟩
theorem jqn (c:aqj) (p i f m:Value) (ok:Nat→Prop) (w:World) (h:aq9 w ok c p i f m) (hl1:c.pool.length≤1024) (hl2:c.ifs.length≤64) (hl3:c.flds.length≤64) (hl4:c.mths.length≤64):
  Calls Tryz.prog 35 #[bqp c p i f m] w fun e w'=>e= .returned (.bool (c.mths.any cqy))∧Below w.heap.size w w':=by
 obtain⟨A1,k1,rfl,q1,z1⟩:=aqm h.hpool
 obtain⟨A2,k2,rfl,q2,z2⟩:=aqm h.hifs
 obtain⟨A3,k3,rfl,q3,z3⟩:=aqm h.hflds
 obtain⟨ms,hms,h4,h5⟩:=h.hmths
 obtain⟨A4,k4,rfl,q4,z4⟩:=aqm h4
 have g1: ¬1024<c.pool.length:=by omega
 have g2: ¬64<c.ifs.length:=by omega
 have g3: ¬64<c.flds.length:=by omega
 have g4: ¬64<c.mths.length:=by omega
 have H4:=Hq h4
 have H5:=Hq h5
 have HMS:=Hq hms
 have HW:=Hq ((Below.refl w.heap.size w).alloc (Nat.le_refl _) (.cells #[.int .i64 c.minor, .int .i64 c.major, .slice A1 c.pool.length k1, .int .i64 c.acc, .int .i64 c.this, .int .i64 c.sup, .slice A2 c.ifs.length k2, .slice A3 c.flds.length k3, .slice A4 c.mths.length k4] 28))
 clear h h4 h5 hms
 rw [aqe]
 go_enter Tryz.func35,Tryz.ntmps35
 go_wp2_with fail
 go_loopw [30] (fun i wr=> ∃k:Nat,k≤c.mths.length∧i= .int .i64 k∧Hid (Below w.heap.size w wr)∧Hid (c.mths.any cqy=(c.mths.drop k).any cqy)) (fun i _=>c.mths.length - (RowKit.intOf i).toNat)
 case atStart=>exact⟨0,by omega,rfl,HW,Hq (by rw [List.drop_zero])⟩
 case round=>
  obtain⟨k,hk,rfl,HBr,HEr⟩:=hrel
  by_cases hlt:k<c.mths.length
  ·have hmsl:ms.length=c.mths.length:=by rw [←HMS.out,List.length_map]
   obtain⟨q,hq⟩: ∃q,ms[k]?=some q:=⟨_,List.getElem?_eq_getElem (by omega)⟩
   obtain⟨mv,code,traps⟩:=q
   have hcm:c.mths[k]?=some mv:=by rw [←HMS.out,List.getElem?_map,hq];rfl
   have hM:cqC w ok mv code traps:=H5.out _ (List.mem_of_getElem? hq)
   obtain⟨Ac,kc,rfl,_,zc⟩:=aqm hM.hcode
   obtain⟨At,kt,rfl,_,zt⟩:=aqm hM.htraps
   obtain⟨A',cap',ev,_,_,_,h6⟩:=H4.out.keep (bqE.of_below HBr.out)
   cases ev
   obtain⟨b,off,rfl,hbl,_,hc⟩:=h6 (by omega)
   have hr:=dqa (fun m:aqA×Value×Value=>m.1.cells m.2.1 m.2.2) 8 (fun _=>rfl) ms k _ hq
   have m0:=hc _ _ ((hr 0 (by omega)).trans rfl)
   have m1:=hc _ _ ((hr 1 (by omega)).trans rfl)
   have m2:=hc _ _ ((hr 2 (by omega)).trans rfl)
   have m3:=hc _ _ ((hr 3 (by omega)).trans rfl)
   have m4:=hc _ _ ((hr 4 (by omega)).trans rfl)
   have m5:=hc _ _ ((hr 5 (by omega)).trans rfl)
   have m6:=hc _ _ ((hr 6 (by omega)).trans rfl)
   have m7:=hc _ _ ((hr 7 (by omega)).trans rfl)
   simp only [Nat.add_zero] at m0
   rw [←Nat.add_assoc] at m1 m2 m3 m4 m5 m6 m7
   have HDR:=Hq (show c.mths.drop k=mv::c.mths.drop (k+1) by
    rw [List.drop_eq_getElem_cons hlt]
    congr 1
    rw [List.getElem?_eq_getElem hlt] at hcm
    injection hcm)
   have HB2:=Hq (HBr.out.alloc HBr.out.size (.cells #[.int .i64 mv.acc, .int .i64 mv.name, .int .i64 mv.desc, .bool mv.has, .int .i64 mv.stack, .int .i64 mv.locals, .slice Ac mv.code.length kc, .slice At mv.traps.length kt] 37))
   clear hq hcm hM hc hr h6 hmsl
   by_cases t1:64<mv.traps.length
   ·have HR:=Hq (show c.mths.any cqy=true by rw [HEr.out,HDR.out,List.any_cons];simp [cqy,t1])
    go_wp2_with fail
    go_ret
    exact⟨by rw [HR.out];rfl,HB2.out⟩
   by_cases t2:4096<mv.code.length
   ·have HR:=Hq (show c.mths.any cqy=true by rw [HEr.out,HDR.out,List.any_cons];simp [cqy,t2])
    go_wp2_with fail
    go_ret
    exact⟨by rw [HR.out];rfl,HB2.out⟩
   have HE2:=Hq (show c.mths.any cqy=(c.mths.drop (k+1)).any cqy by rw [HEr.out,HDR.out,List.any_cons];simp [cqy,t1,t2])
   go_wp2_with fail
   go_roundw
   case rel=>exact⟨k+1,by omega,by go_num,HB2,HE2⟩
   case measure=>simp [RowKit.intOf];omega
  have HR:=Hq (show c.mths.any cqy=false by rw [HEr.out,List.drop_of_length_le (by omega)];rfl)
  go_wp2_with fail
  go_ret
  exact⟨by rw [HR.out];rfl,HBr.out⟩
end Go.Proofs.YtlcidkiplidamaaGreatDoor
