/-
  What the laws rest on, part 29: walks of the program's functions and plain laws. Conditions: none but those that each theorem names.
-/
import Derived.Test.YtpbnjakeielipaaGreatDoorB28
import Derived.Test.YtpbnjakeielipaaGreatDoorB12
import Derived.Test.YtpbnjakeielipaaGreatDoorB16
import Derived.Test.YtpbnjakeielipaaGreatDoorB27
import Derived.Test.YtpbnjakeielipaaGreatDoorB00
import Derived.ProofKit
import Derived.OpenShut
import Derived.Lib.SmallJoins
import Derived.Deep.Slices
import Derived.Deep.Strs
import Derived.ChangeSlices
import Derived.Handed
import Derived.ChangeArms
set_option linter.unusedSimpArgs false
set_option linter.unusedVariables false
set_option maxRecDepth 100000
set_option maxHeartbeats 1000000
namespace Go.Proofs.YtpbnjakeielipaaGreatDoor
open Go Go.RowKit Lib
theorem low_of_but {B g:Nat} {w w':World} (h:But w.heap.size [g] w w') (hB:B≤w.heap.size) (hg:B≤g):Below B w w':=
 (h.mono (S':= []) hB (fun k hk hm=>by simp at hm;omega)).below
theorem own_ge {w:World} {B g n cap:Nat} {e:TypeId} {xs:List Value} (h:w.ownsRow B e 1 (.slice (some ⟨g,0,none⟩) n cap) n xs):B≤g∧g<w.heap.size:=h.lt g rfl
theorem two_new (B g n cap:Nat) (xs:List Value) (L:List Int) (m N:Nat) (hN:N=n+2*m) (w:World) (ho:w.ownsRow B 5 1 (.slice (some ⟨g,0,none⟩) n cap) n xs) (hB:B≤w.heap.size) (h0:0<n) (hn:n≤100000) (hL:L.length=m) (hm:m≤1000):
  Calls Tryz.prog 62 #[.slice (some ⟨g,0,none⟩) n cap, .slice (some ⟨w.heap.size,0,none⟩) m m] (w.alloc (.cells (L.map (Value.int .i64)).toArray 3)) fun e w'=> ∃g' cap',e= .returned (.slice (some ⟨g',0,none⟩) N cap')∧
   w'.ownsRow B 5 1 (.slice (some ⟨g',0,none⟩) N cap') N (xs++L.flatMap twoV)∧Below B w w':=by
 subst hN
 have hg:=own_ge ho
 refine(two_any B g n cap xs w.heap.size 0 m m L _ (ho.alloc _) (by simp;omega) h0 hn hL hm (Nat.le_refl _) (fun j v hj=>by
  have h:=cells_new w (L.map (Value.int .i64)) 3 j (.int .i64 v) (by rw [List.getElem?_map,hj];rfl)
  rw [add_cell] at h
  exact h) (by simp) (by omega)).mono ?_
 rintro e w' ⟨g',c',rfl,ho',hb,hg'⟩
 exact⟨g',c',rfl,ho',((Below.refl B w).alloc hB _).trans (low_of_but hb (by simp;omega) hg.1)⟩
theorem two_nothing (g n cap:Nat) (w:World):
  Calls Tryz.prog 62 #[.slice (some ⟨g,0,none⟩) n cap, .slice none 0 0] w fun e w'=>e= .returned (.slice (some ⟨g,0,none⟩) n cap)∧w=w':=by
 go_enter Tryz.func62,Tryz.ntmps62
 go_wp2_with fail
 refine wp_loop_rounds 1 ?_
 rw [rounds_succ]
 go_wp2_with fail
 go_ret
 exact⟨rfl,rfl⟩
theorem class_low (B g n cap:Nat) (xs:List Value) (a:Int) (N:Nat) (hN:N=n+3) (w:World) (ho:w.ownsRow B 5 1 (.slice (some ⟨g,0,none⟩) n cap) n xs) (hB:B≤w.heap.size) (h0:0<n) (hn:n≤90000):
  Calls Tryz.prog 63 #[.slice (some ⟨g,0,none⟩) n cap, .agg #[.int .i64 7, .string ⟨#[]⟩, .int .i64 0, .int .i64 a, .int .i64 0]] w fun e w'=> ∃g' cap',e= .returned (.slice (some ⟨g',0,none⟩) N cap')∧
   w'.ownsRow B 5 1 (.slice (some ⟨g',0,none⟩) N cap') N (xs++([.int .u8 7]++twoV a))∧Below B w w':=by
 subst hN
 have hg:=own_ge ho
 refine(const_class B g n cap xs a w ho hB h0 hn).mono ?_
 rintro e w' ⟨g',c',rfl,ho',hb,hg'⟩
 exact⟨g',c',rfl,ho',low_of_but hb hB hg.1⟩
theorem text_low (B g n cap:Nat) (xs:List Value) (s:ByteArray) (N:Nat) (hN:N=n+3+s.size) (w:World) (ho:w.ownsRow B 5 1 (.slice (some ⟨g,0,none⟩) n cap) n xs) (hB:B≤w.heap.size) (h0:0<n) (hn:n≤90000) (hs:s.size≤1000):
  Calls Tryz.prog 63 #[.slice (some ⟨g,0,none⟩) n cap, .agg #[.int .i64 1, .string s, .int .i64 0, .int .i64 0, .int .i64 0]] w fun e w'=> ∃g' cap',e= .returned (.slice (some ⟨g',0,none⟩) N cap')∧
   w'.ownsRow B 5 1 (.slice (some ⟨g',0,none⟩) N cap') N (xs++([.int .u8 1]++twoV s.size++strCells s))∧Below B w w':=by
 subst hN
 have hg:=own_ge ho
 refine(const_text B g n cap xs s w ho hB h0 hn hs).mono ?_
 rintro e w' ⟨g',c',rfl,ho',hb,hg'⟩
 exact⟨g',c',rfl,ho',low_of_but hb hB hg.1⟩
set_option maxHeartbeats 2000000
def bareV (n s:ByteArray):List Value:=
 [.int .u8 202, .int .u8 254, .int .u8 186, .int .u8 190]++ [0,52,5].flatMap twoV++([.int .u8 1]++twoV n.size++strCells n)++([.int .u8 7]++twoV 1)++([.int .u8 1]++twoV s.size++strCells s)++([.int .u8 7]++twoV 3)++ [33,2,4,0].flatMap twoV++ [0].flatMap twoV++ [0].flatMap twoV++ [0].flatMap twoV
theorem write4 (g cap:Nat) (n s:ByteArray) (hn:n.size≤1000) (hs:s.size≤1000) (hcap:4≤cap) (w:World) (hp:PoolAt w g (four n s)) (hg:g<w.heap.size):
  Calls Tryz.prog 34 #[.agg #[.int .i64 0, .int .i64 52, .slice (some ⟨g,0,none⟩) 4 cap, .int .i64 33, .int .i64 2, .int .i64 4, .slice none 0 0, .slice none 0 0, .slice none 0 0]] w fun e w'=> ∃g' cap',e= .returned (.tuple #[.slice (some ⟨g',0,none⟩) (36+n.size+s.size) cap', .int .i64 0])∧
   w'.ownsRow (w.heap.size+1) 5 1 (.slice (some ⟨g',0,none⟩) (36+n.size+s.size) cap') (36+n.size+s.size) (bareV n s)∧Below w.heap.size w w':=by
 have HP:=Lib.hid hp
 clear hp
 obtain⟨x1,x2,x3,x4,x5,x6,x7,x8,x9,x10,x11,x12⟩:=far g w.heap.size hg
 have hB0:=box_new w [.int .i64 0, .int .i64 52, .slice (some ⟨g,0,none⟩) 4 cap, .int .i64 33, .int .i64 2, .int .i64 4, .slice none 0 0, .slice none 0 0, .slice none 0 0] 104
 have HB0:=Lib.hid hB0
 clear hB0
 have HW0:=Lib.hid ((Below.refl w.heap.size w).alloc (Nat.le_refl _) (.cells #[.int .i64 0, .int .i64 52, .slice (some ⟨g,0,none⟩) 4 cap, .int .i64 33, .int .i64 2, .int .i64 4, .slice none 0 0, .slice none 0 0, .slice none 0 0] 104))
 have HP0:=Lib.hid (HP.out.below HW0.out hg)
 go_enter Tryz.func34,Tryz.ntmps34
 go_wp2_with (go_at_call 60;refine(refused4 g cap n s hn hs hcap _ HP0.out (by simp;omega)).mono ?_;rintro e w1 ⟨rfl,hb1⟩;refine stop_here ?_)
 have hz1:=hb1.size
 simp only [World.size_alloc] at hz1 hb1
 have HB1:=Lib.hid (HB0.out.below hb1 (by omega))
 have HP1:=Lib.hid (HP0.out.below hb1 (by omega))
 have HW1:=Lib.hid (HW0.out.trans (hb1.mono (by omega)))
 clear hb1 HB0 HP0 HW0
 refine go_on ?_
 go_wp2_with (go_at_call 61;refine(put4_any _ _).mono ?_;rintro e w2 ⟨r,rfl,hq,hb2⟩;refine stop_here ?_)
 obtain⟨g2,c2,rfl,_,_⟩:=hq.form (by omega)
 have hz2:=hb2.size
 have HB2:=Lib.hid (HB1.out.below hb2 (by omega))
 have HP2:=Lib.hid (HP1.out.below hb2 (by omega))
 have HW2:=Lib.hid (HW1.out.trans (hb2.mono (by omega)))
 have HO2:=Lib.hid (own_eq (ys:=([.int .u8 202, .int .u8 254, .int .u8 186, .int .u8 190]:List Value)) (own_low hq (by omega:w.heap.size+1≤w1.heap.size)) rfl (by simp))
 clear hq hb2 HB1 HP1 HW1
 refine go_on ?_
 have hz2:=Nat.le_trans hz1 hz2
 obtain⟨m3,hm3⟩: ∃m,m=4+2*3:=⟨_,rfl⟩
 have hl3:m3≤3100:=by omega
 have hp3:0<m3:=by omega
 have hM3:=Lib.hid hm3
 clear hm3
 have b0:=HB2.out 0 _ rfl
 have b1:=HB2.out 1 _ rfl
 have b2:=HB2.out 2 _ rfl
 obtain⟨y1,y2,y3,y4,y5,y6,y7,y8,y9,y10,y11,y12⟩:=far w.heap.size w2.heap.size (by omega)
 go_wp2_with (go_at_call 62;refine(two_new (w.heap.size+1) g2 4 c2 _ [0,52,5] 3 m3 hM3.out w2 HO2.out (by omega) (by omega) (by omega) rfl (by omega)).mono ?_;rintro e w3 ⟨g3,c3,rfl,ho3,hb3⟩;refine stop_here ?_)
 clear y1 y2 y3 y4 y5 y6 y7 y8 y9 y10 y11 y12
 have hz3:=Nat.le_trans hz2 hb3.size
 have HB3:=Lib.hid (HB2.out.below hb3 (by omega))
 have HP3:=Lib.hid (HP2.out.below hb3 (by omega))
 have HW3:=Lib.hid (HW2.out.trans (hb3.mono (by omega)))
 have HO3:=Lib.hid ho3
 clear ho3 hb3 HB2 HP2 HW2 HO2 b0 b1 b2
 refine go_on ?_
 go_wp2_with fail
 refine wp_loop_rounds 5 ?_
 obtain⟨m4,hm4⟩: ∃m,m=m3+3+n.size:=⟨_,rfl⟩
 have hl4:m4≤3100:=by have:=hM3.out;omega
 have hp4:0<m4:=by omega
 have hM4:=Lib.hid hm4
 clear hm4
 rw [rounds_succ]
 have b2:=HB3.out 2 _ rfl
 obtain⟨d0,d1,d2,d3,d4⟩:=HP3.out 0 _ rfl
 go_wp2_with (go_at_call 63;refine(text_low (w.heap.size+1) g3 m3 c3 _ n m4 hM4.out w3 HO3.out (by omega) (by omega) (by omega) hn).mono ?_;rintro e w4 ⟨g4,c4,rfl,ho4,hb4⟩;refine stop_here ?_)
 clear d0 d1 d2 d3 d4
 have hz4:=Nat.le_trans hz3 hb4.size
 have HB4:=Lib.hid (HB3.out.below hb4 (by omega))
 have HP4:=Lib.hid (HP3.out.below hb4 (by omega))
 have HW4:=Lib.hid (HW3.out.trans (hb4.mono (by omega)))
 have HO4:=Lib.hid ho4
 clear ho4 hb4 HB3 HP3 HW3 HO3 b2
 refine go_on ?_
 have hbig: ¬(65536:Int) < (m4:Int):=by omega
 have hbig2: ¬65536<m4:=by omega
 go_wp2_with fail
 clear hbig hbig2
 obtain⟨m5,hm5⟩: ∃m,m=m4+3:=⟨_,rfl⟩
 have hl5:m5≤3100:=by have:=hM3.out;have:=hM4.out;omega
 have hp5:0<m5:=by omega
 have hM5:=Lib.hid hm5
 clear hm5
 rw [rounds_succ]
 have b2:=HB4.out 2 _ rfl
 obtain⟨d0,d1,d2,d3,d4⟩:=HP4.out 1 _ rfl
 simp only [Nat.reduceMul,Nat.reduceAdd] at d0 d1 d2 d3 d4
 go_wp2_with (go_at_call 63;refine(class_low (w.heap.size+1) g4 m4 c4 _ 1 m5 hM5.out w4 HO4.out (by omega) (by omega) (by omega)).mono ?_;rintro e w5 ⟨g5,c5,rfl,ho5,hb5⟩;refine stop_here ?_)
 clear d0 d1 d2 d3 d4
 have hz5:=Nat.le_trans hz4 hb5.size
 have HB5:=Lib.hid (HB4.out.below hb5 (by omega))
 have HP5:=Lib.hid (HP4.out.below hb5 (by omega))
 have HW5:=Lib.hid (HW4.out.trans (hb5.mono (by omega)))
 have HO5:=Lib.hid ho5
 clear ho5 hb5 HB4 HP4 HW4 HO4 b2
 refine go_on ?_
 have hbig: ¬(65536:Int) < (m5:Int):=by omega
 have hbig2: ¬65536<m5:=by omega
 go_wp2_with fail
 clear hbig hbig2
 obtain⟨m6,hm6⟩: ∃m,m=m5+3+s.size:=⟨_,rfl⟩
 have hl6:m6≤3100:=by have:=hM3.out;have:=hM4.out;have:=hM5.out;omega
 have hp6:0<m6:=by omega
 have hM6:=Lib.hid hm6
 clear hm6
 rw [rounds_succ]
 have b2:=HB5.out 2 _ rfl
 obtain⟨d0,d1,d2,d3,d4⟩:=HP5.out 2 _ rfl
 simp only [Nat.reduceMul,Nat.reduceAdd] at d0 d1 d2 d3 d4
 go_wp2_with (go_at_call 63;refine(text_low (w.heap.size+1) g5 m5 c5 _ s m6 hM6.out w5 HO5.out (by omega) (by omega) (by omega) hs).mono ?_;rintro e w6 ⟨g6,c6,rfl,ho6,hb6⟩;refine stop_here ?_)
 clear d0 d1 d2 d3 d4
 have hz6:=Nat.le_trans hz5 hb6.size
 have HB6:=Lib.hid (HB5.out.below hb6 (by omega))
 have HP6:=Lib.hid (HP5.out.below hb6 (by omega))
 have HW6:=Lib.hid (HW5.out.trans (hb6.mono (by omega)))
 have HO6:=Lib.hid ho6
 clear ho6 hb6 HB5 HP5 HW5 HO5 b2
 refine go_on ?_
 have hbig: ¬(65536:Int) < (m6:Int):=by omega
 have hbig2: ¬65536<m6:=by omega
 go_wp2_with fail
 clear hbig hbig2
 obtain⟨m7,hm7⟩: ∃m,m=m6+3:=⟨_,rfl⟩
 have hl7:m7≤3100:=by have:=hM3.out;have:=hM4.out;have:=hM5.out;have:=hM6.out;omega
 have hp7:0<m7:=by omega
 have hM7:=Lib.hid hm7
 clear hm7
 rw [rounds_succ]
 have b2:=HB6.out 2 _ rfl
 obtain⟨d0,d1,d2,d3,d4⟩:=HP6.out 3 _ rfl
 simp only [Nat.reduceMul,Nat.reduceAdd] at d0 d1 d2 d3 d4
 go_wp2_with (go_at_call 63;refine(class_low (w.heap.size+1) g6 m6 c6 _ 3 m7 hM7.out w6 HO6.out (by omega) (by omega) (by omega)).mono ?_;rintro e w7 ⟨g7,c7,rfl,ho7,hb7⟩;refine stop_here ?_)
 clear d0 d1 d2 d3 d4
 have hz7:=Nat.le_trans hz6 hb7.size
 have HB7:=Lib.hid (HB6.out.below hb7 (by omega))
 have HP7:=Lib.hid (HP6.out.below hb7 (by omega))
 have HW7:=Lib.hid (HW6.out.trans (hb7.mono (by omega)))
 have HO7:=Lib.hid ho7
 clear ho7 hb7 HB6 HP6 HW6 HO6 b2
 refine go_on ?_
 have hbig: ¬(65536:Int) < (m7:Int):=by omega
 have hbig2: ¬65536<m7:=by omega
 go_wp2_with fail
 clear hbig hbig2
 rw [rounds_succ]
 obtain⟨m8,hm8⟩: ∃m,m=m7+2*4:=⟨_,rfl⟩
 have hl8:m8≤3100:=by have:=hM3.out;have:=hM4.out;have:=hM5.out;have:=hM6.out;have:=hM7.out;omega
 have hp8:0<m8:=by omega
 have hM8:=Lib.hid hm8
 clear hm8
 have b2:=HB7.out 2 _ rfl
 have b3:=HB7.out 3 _ rfl
 have b4:=HB7.out 4 _ rfl
 have b5:=HB7.out 5 _ rfl
 have b6:=HB7.out 6 _ rfl
 obtain⟨y1,y2,y3,y4,y5,y6,y7,y8,y9,y10,y11,y12⟩:=far w.heap.size w7.heap.size (by omega)
 go_wp2_with (go_at_call 62;refine(two_new (w.heap.size+1) g7 m7 c7 _ [33,2,4,0] 4 m8 hM8.out w7 HO7.out (by omega) (by omega) (by omega) rfl (by omega)).mono ?_;rintro e w8 ⟨g8,c8,rfl,ho8,hb8⟩;refine stop_here ?_)
 clear y1 y2 y3 y4 y5 y6 y7 y8 y9 y10 y11 y12
 have hz8:=Nat.le_trans hz7 hb8.size
 have HB8:=Lib.hid (HB7.out.below hb8 (by omega))
 have HP8:=Lib.hid (HP7.out.below hb8 (by omega))
 have HW8:=Lib.hid (HW7.out.trans (hb8.mono (by omega)))
 have HO8:=Lib.hid ho8
 clear ho8 hb8 HB7 HP7 HW7 HO7 b2 b3 b4 b5 b6
 refine go_on ?_
 have b6:=HB8.out 6 _ rfl
 go_wp2_with (go_at_call 62;refine(two_nothing g8 m8 c8 _).mono ?_;rintro e w9 ⟨rfl,rfl⟩;refine stop_here ?_)
 clear b6
 refine go_on ?_
 obtain⟨m9,hm9⟩: ∃m,m=m8+2*1:=⟨_,rfl⟩
 have hl9:m9≤3100:=by have:=hM3.out;have:=hM4.out;have:=hM5.out;have:=hM6.out;have:=hM7.out;have:=hM8.out;omega
 have hp9:0<m9:=by omega
 have hM9:=Lib.hid hm9
 clear hm9
 have b7:=HB8.out 7 _ rfl
 obtain⟨y1,y2,y3,y4,y5,y6,y7,y8,y9,y10,y11,y12⟩:=far w.heap.size w8.heap.size (by omega)
 go_wp2_with (go_at_call 62;refine(two_new (w.heap.size+1) g8 m8 c8 _ [0] 1 m9 hM9.out w8 HO8.out (by omega) (by omega) (by omega) rfl (by omega)).mono ?_;rintro e w9 ⟨g9,c9,rfl,ho9,hb9⟩;refine stop_here ?_)
 clear y1 y2 y3 y4 y5 y6 y7 y8 y9 y10 y11 y12
 have hz9:=Nat.le_trans hz8 hb9.size
 have HB9:=Lib.hid (HB8.out.below hb9 (by omega))
 have HP9:=Lib.hid (HP8.out.below hb9 (by omega))
 have HW9:=Lib.hid (HW8.out.trans (hb9.mono (by omega)))
 have HO9:=Lib.hid ho9
 clear ho9 hb9 HB8 HP8 HW8 HO8 b7
 refine go_on ?_
 have b0:=HB9.out 0 _ rfl
 have b1:=HB9.out 1 _ rfl
 have b2:=HB9.out 2 _ rfl
 have b3:=HB9.out 3 _ rfl
 have b4:=HB9.out 4 _ rfl
 have b5:=HB9.out 5 _ rfl
 have b6:=HB9.out 6 _ rfl
 have b7:=HB9.out 7 _ rfl
 have b8:=HB9.out 8 _ rfl
 go_wp2_with (go_at_call 64;refine(named4 g cap n s _ hn hs hcap _ HP9.out (by omega)).mono ?_;rintro e w10 ⟨i10,rfl,hb10⟩;refine stop_here ?_)
 have hz10:=Nat.le_trans hz9 hb10.size
 have HB10:=Lib.hid (HB9.out.below hb10 (by omega))
 have HP10:=Lib.hid (HP9.out.below hb10 (by omega))
 have HW10:=Lib.hid (HW9.out.trans (hb10.mono (by omega)))
 have HO10:=Lib.hid (own_heap HO9.out fun q hq=>hb10.block q (HO9.out.lt q hq).2)
 clear hb10 HB9 HP9 HW9 HO9 b0 b1 b2 b3 b4 b5 b6 b7 b8
 refine go_on ?_
 have b7:=HB10.out 7 _ rfl
 have b8:=HB10.out 8 _ rfl
 go_wp2_with fail
 refine wp_loop_rounds 1 ?_
 rw [rounds_succ]
 obtain⟨m11,hm11⟩: ∃m,m=m9+2*1:=⟨_,rfl⟩
 have hl11:m11≤3100:=by have:=hM3.out;have:=hM4.out;have:=hM5.out;have:=hM6.out;have:=hM7.out;have:=hM8.out;have:=hM9.out;omega
 have hp11:0<m11:=by omega
 have hM11:=Lib.hid hm11
 clear hm11
 have b8:=HB10.out 8 _ rfl
 obtain⟨y1,y2,y3,y4,y5,y6,y7,y8,y9,y10,y11,y12⟩:=far w.heap.size w10.heap.size (by omega)
 go_wp2_with (go_at_call 62;refine(two_new (w.heap.size+1) g9 m9 c9 _ [0] 1 m11 hM11.out w10 HO10.out (by omega) (by omega) (by omega) rfl (by omega)).mono ?_;rintro e w11 ⟨g11,c11,rfl,ho11,hb11⟩;refine stop_here ?_)
 clear y1 y2 y3 y4 y5 y6 y7 y8 y9 y10 y11 y12
 have hz11:=Nat.le_trans hz10 hb11.size
 have HB11:=Lib.hid (HB10.out.below hb11 (by omega))
 have HP11:=Lib.hid (HP10.out.below hb11 (by omega))
 have HW11:=Lib.hid (HW10.out.trans (hb11.mono (by omega)))
 have HO11:=Lib.hid ho11
 clear ho11 hb11 HB10 HP10 HW10 HO10 b8
 refine go_on ?_
 clear b7
 have b0:=HB11.out 0 _ rfl
 have b1:=HB11.out 1 _ rfl
 have b2:=HB11.out 2 _ rfl
 have b3:=HB11.out 3 _ rfl
 have b4:=HB11.out 4 _ rfl
 have b5:=HB11.out 5 _ rfl
 have b6:=HB11.out 6 _ rfl
 have b7:=HB11.out 7 _ rfl
 have b8:=HB11.out 8 _ rfl
 go_wp2_with (go_at_call 64;refine(named4 g cap n s _ hn hs hcap _ HP11.out (by omega)).mono ?_;rintro e w12 ⟨i12,rfl,hb12⟩;refine stop_here ?_)
 have hz12:=Nat.le_trans hz11 hb12.size
 have HB12:=Lib.hid (HB11.out.below hb12 (by omega))
 have HP12:=Lib.hid (HP11.out.below hb12 (by omega))
 have HW12:=Lib.hid (HW11.out.trans (hb12.mono (by omega)))
 have HO12:=Lib.hid (own_heap HO11.out fun q hq=>hb12.block q (HO11.out.lt q hq).2)
 clear hb12 HB11 HP11 HW11 HO11 b0 b1 b2 b3 b4 b5 b6 b7 b8
 refine go_on ?_
 have b8:=HB12.out 8 _ rfl
 go_wp2_with fail
 refine wp_loop_rounds 1 ?_
 rw [rounds_succ]
 obtain⟨m13,hm13⟩: ∃m,m=m11+2*1:=⟨_,rfl⟩
 have hl13:m13≤3100:=by have:=hM3.out;have:=hM4.out;have:=hM5.out;have:=hM6.out;have:=hM7.out;have:=hM8.out;have:=hM9.out;have:=hM11.out;omega
 have hp13:0<m13:=by omega
 have hM13:=Lib.hid hm13
 clear hm13
 obtain⟨y1,y2,y3,y4,y5,y6,y7,y8,y9,y10,y11,y12⟩:=far w.heap.size w12.heap.size (by omega)
 go_wp2_with (go_at_call 62;refine(two_new (w.heap.size+1) g11 m11 c11 _ [0] 1 m13 hM13.out w12 HO12.out (by omega) (by omega) (by omega) rfl (by omega)).mono ?_;rintro e w13 ⟨g13,c13,rfl,ho13,hb13⟩;refine stop_here ?_)
 clear y1 y2 y3 y4 y5 y6 y7 y8 y9 y10 y11 y12
 have hz13:=Nat.le_trans hz12 hb13.size
 have HB13:=Lib.hid (HB12.out.below hb13 (by omega))
 have HP13:=Lib.hid (HP12.out.below hb13 (by omega))
 have HW13:=Lib.hid (HW12.out.trans (hb13.mono (by omega)))
 have HO13:=Lib.hid ho13
 clear ho13 hb13 HB12 HP12 HW12 HO12
 refine go_on ?_
 clear b8
 have hbig: ¬(65536:Int) < (m13:Int):=by omega
 have hbig2: ¬65536<m13:=by omega
 go_wp2_with fail
 have hN:m13=36+n.size+s.size:=by have:=hM3.out;have:=hM4.out;have:=hM5.out;have:=hM6.out;have:=hM7.out;have:=hM8.out;have:=hM9.out;have:=hM11.out;have:=hM13.out;omega
 rw [←hN]
 have HO:=Lib.hid (own_eq (ys:=bareV n s) HO13.out rfl (by unfold bareV;rfl))
 clear hN
 go_ret2
 exact⟨g13,c13,rfl,HO.out,HW13.out⟩
theorem bV_hi (n:Nat) (h:n<65536):bV (hiB n)= .int .u8 ((n:Int)/256%256):=by
 unfold hiB
 rw [←bV_ofNat _ (by omega)]
 congr 1
 omega
theorem bV_lo (n:Nat):bV (loB n)= .int .u8 ((n:Int)%256):=by
 unfold loB
 rw [←bV_ofNat _ (by omega)]
 congr 1
theorem bareV_eq (n s:ByteArray) (hn:n.size≤1000) (hs:s.size≤1000):bareV n s=(bareL n.data.toList s.data.toList).map bV:=by
 have e1:n.data.toList.length=n.size:=by simp
 have e2:s.data.toList.length=s.size:=by simp
 unfold bareV bareL
 simp only [List.map_append,List.map_cons,List.map_nil,e1,e2,bV_hi n.size (by omega),bV_hi s.size (by omega),bV_lo,twoV,strCells,List.flatMap_cons,List.flatMap_nil,List.append_assoc,List.cons_append,List.nil_append,List.append_nil]
 simp [bV]
 try rfl
set_option maxHeartbeats 1000000
theorem own_down {w:World} {B B':Nat} {e:TypeId} {size n:Nat} {v:Value} {xs:List Value} (h:w.ownsRow B e size v n xs) (hB:B'≤B):w.ownsRow B' e size v n xs:=by
 refine⟨h.1, ?_⟩
 rcases h.2 with h| ⟨g,c,cur,h1,h2,h3⟩
 ·exact .inl h
 ·exact .inr ⟨g,c,cur,h1,Nat.le_trans hB h2,h3⟩
theorem lbytes_any (n s:ByteArray) (hn:n.size≤1000) (hs:s.size≤1000) (w:World):
  Calls Tryz.prog 13 #[.string n, .string s] w fun e w'=> ∃g cap,e= .returned (.slice (some ⟨g,0,none⟩) (36+n.size+s.size) cap)∧
   w'.ownsRow w.heap.size 5 1 (.slice (some ⟨g,0,none⟩) (36+n.size+s.size) cap) (36+n.size+s.size) ((bareL n.data.toList s.data.toList).map bV)∧Below w.heap.size w w':=by
 have hp:PoolAt (w.alloc (.cells #[.int .i64 1, .string n, .int .i64 0, .int .i64 0, .int .i64 0, .int .i64 7, .string ⟨#[]⟩, .int .i64 0, .int .i64 1, .int .i64 0, .int .i64 1, .string s, .int .i64 0, .int .i64 0, .int .i64 0, .int .i64 7, .string ⟨#[]⟩, .int .i64 0, .int .i64 3, .int .i64 0] 81)) w.heap.size (four n s):=by
  have hb:=bx_new w [.int .i64 1, .string n, .int .i64 0, .int .i64 0, .int .i64 0, .int .i64 7, .string ⟨#[]⟩, .int .i64 0, .int .i64 1, .int .i64 0, .int .i64 1, .string s, .int .i64 0, .int .i64 0, .int .i64 0, .int .i64 7, .string ⟨#[]⟩, .int .i64 0, .int .i64 3, .int .i64 0] 81
  intro j k hk
  have hj:j<4:=(List.getElem?_eq_some_iff.1 hk).1
  have:j=0∨j=1∨j=2∨j=3:=by omega
  rcases this with rfl|rfl|rfl|rfl<;> (simp only [four,List.getElem?_cons_zero,List.getElem?_cons_succ,Option.some.injEq] at hk;subst hk;exact⟨hb.cell _ rfl,hb.cell _ rfl,hb.cell _ rfl,hb.cell _ rfl,hb.cell _ rfl⟩)
 have HP:=Lib.hid hp
 have HB:=Lib.hid ((Below.refl w.heap.size w).alloc (Nat.le_refl _) (.cells #[.int .i64 1, .string n, .int .i64 0, .int .i64 0, .int .i64 0, .int .i64 7, .string ⟨#[]⟩, .int .i64 0, .int .i64 1, .int .i64 0, .int .i64 1, .string s, .int .i64 0, .int .i64 0, .int .i64 0, .int .i64 7, .string ⟨#[]⟩, .int .i64 0, .int .i64 3, .int .i64 0] 81))
 clear hp
 go_enter Tryz.func13,Tryz.ntmps13
 go_wp2_with (go_at_call 34;refine stop_here ?_)
 refine go_on ?_
 refine(write4 w.heap.size 4 n s hn hs (Nat.le_refl _) _ HP.out (by simp)).mono ?_
 rintro e w2 ⟨g,cap,rfl,ho,hb⟩
 have HO:=Lib.hid ho
 have HB2:=Lib.hid (HB.out.trans (hb.mono (by simp)))
 clear ho hb
 go_wp2_with fail
 go_ret
 refine⟨g,cap,rfl, ?_,HB2.out⟩
 rw [←bareV_eq n s hn hs]
 exact own_down HO.out (by simp;omega)
end Go.Proofs.YtpbnjakeielipaaGreatDoor
set_option maxHeartbeats 4000000
namespace Go.Proofs.YtpbnjakeielipaaGreatDoor
open Go Go.RowKit Lib Go.Maps
def aX1:WSt:=WSt.new.define ⟨#[65]⟩ (bareL [65] [66])
def aX2:WSt:=aX1.load ⟨#[65]⟩
def errN:ByteArray:=⟨#[106,97,118,97,47,108,97,110,103,47,69,114,114,111,114]⟩
def noDefN:ByteArray:=⟨#[106,97,118,97,47,108,97,110,103,47,78,111,67,108,97,115,115,68,101,102,70,111,117,110,100,69,114,114,111,114]⟩
theorem aX2_ok:aX1.σ.says ⟨#[65]⟩=noDefN∧aX2.σ.ts.length=26∧(aX2.σ.ts.all (fun t=>t.2.2.2.2.1.isEmpty))=true∧errN.data.toList∈aX2.σ.ts.map (·.1):=by decide+kernel
theorem aX2_fl: ∀t∈aX2.σ.ts,t.2.2.2.2.1= []:=fun t ht=>List.isEmpty_iff.1 (List.all_eq_true.1 aX2_ok.2.2.1 t ht)
theorem wnum_any (x:Int) (w:World):Calls Tryz.prog 10 #[.int .i64 x] w fun e w'=>e= .returned (.int .i64 x)∧w=w':=by
 go_enter Tryz.func10,Tryz.ntmps10
 go_wp2_with fail
 go_ret
 exact⟨rfl,rfl⟩
theorem glW_pos {w:World} (h:GlW w):0<w.heap.size:=by
 rcases Nat.eq_zero_or_pos w.heap.size with h0|h0
 ·exfalso
  have:w.heap[0]?=none:=by simp [h0]
  unfold GlW World.cell? at h
  simp [this] at h
 ·exact h0
theorem hp_wb {B:Nat} {W:World} {hb rb most:Nat} {rv:Value} {os:List (Nat×ByteArray)} (h:HpAt B W hb rb most rv os) {wb:Nat} {vs:List Value} (hw:Bx W wb vs 48): ∀g,HpB hb rb rv os g→g≠wb:=by
 have hty: ∀g vs' t',Bx W g vs' t'→t'≠48→g≠wb:=fun g vs' t' h1 ht e=>by
  subst e
  unfold Bx at h1 hw
  rw [h1] at hw
  injection hw with hw
  injection hw with _ h4
  exact ht h4
 intro g hg
 rcases hg with rfl|rfl|hg| ⟨o,ho,rfl⟩
 ·exact hty _ _ _ h.hx (by decide)
 ·exact hty _ _ _ h.rx (by decide)
 ·exact fun e=>own_bx h.own hw (by decide) (e▸hg)
 ·obtain⟨_,s,h2⟩:=h.ob o ho
  exact hty _ _ _ h2 (by decide)
theorem alive_w (w:World) (hgl:GlW w):Calls Tryz.prog 4 #[] w fun e w'=>e= .returned (.bool true)∧Below w.heap.size w w':=by
 have hB:=glW_pos hgl
 have HN:=Lib.hid (wnew_any 1 (by decide) w hgl hB)
 have HBy:=Lib.hid (fun W=>lbytes_any ⟨#[65]⟩ ⟨#[66]⟩ (by decide) (by decide) W)
 have HNum:=Lib.hid wnum_any
 clear hgl
 go_enter Tryz.func4,Tryz.ntmps4
 go_wp2_with (go_at_call 6;refine HN.out.mono ?_;rintro e w1 ⟨p,L,v,rb,rv,o,rfl,hK,hp,hhp,hb1⟩;refine stop_here ?_)
 have K1:=Lib.hid hK
 have P1:=Lib.hid hp
 have X1:=Lib.hid hhp
 have B1:=Lib.hid hb1
 clear hK hp hhp hb1
 refine go_on ?_
 have c0:=K1.out.bx.cell 0 rfl
 have hwl:=K1.out.wlt
 have BD:=Lib.hid ((Below.refl w1.heap.size w1).drew)
 go_wp2_with (go_at_call 10;refine(HNum.out _ _).mono ?_;rintro e w' ⟨rfl,rfl⟩)
 have CN:=Lib.hid (fun W' (hb:Below w1.heap.size w1 W')=> (hb.cell (p:=⟨p.wb,0,none⟩) hwl).trans c0)
 go_region_held2 (fun w'=>w'.cell? ⟨p.wb,0,none⟩=some (.pointer (some ⟨L.lb,0,none⟩))) (first|exact CE.out|exact CN.out _ B2.out|exact CN.out _ BD.out) (first
  | (go_simp;go_at_call 13;refine(HBy.out _).mono ?_;rintro e w2 ⟨g2,k2,rfl,ho2,hb2⟩;have B2:=Lib.hid (BD.out.trans (show Below w1.heap.size w1.drew w2 from hb2));have R2:=Lib.hid (rdB_own ho2);clear ho2 hb2;dsimp only)
  | (go_simp;go_at_call 7;refine((K1.out.below B2.out).ldef ⟨#[65]⟩ _ _ _ _ (by decide) R2.out (by decide)).mono ?_;rintro e w3 ⟨rfl,hK3,hf3⟩;have K3:=Lib.hid hK3;have F3:=Lib.hid hf3;have CE:=Lib.hid (hK3.bx.cell 0 rfl);clear hK3 hf3;dsimp only))
 have B3:=Lib.hid (B1.out.trans ((B2.out.mono B1.out.size).trans F3.out.bel))
 have HL:=Lib.hid (wload_any (T:=0) (x:=aX1) ⟨0,Nat.zero_le _,(show WdK w.heap.size p L v aX1 0 (0*1048576) 0 w3 from K3.out)⟩ ⟨#[65]⟩ (by decide))
 rw [aX2_ok.1] at HL
 go_wp2_with (go_at_call 8;refine HL.out.mono ?_;rintro e w4 ⟨rfl,v4,⟨k4,hk4,hK4⟩,hf4⟩;refine stop_here ?_)
 have hO2: ∀g,HpB p.hb rb rv [(o,oomB)] g→Out p L v WSt.new g:=fun g hg=> ⟨K1.out.frp (X1.out g hg).1,⟨by have:=(X1.out g hg).2;omega,by have:=(X1.out g hg).2;omega,by have:=(X1.out g hg).2;omega⟩,fun s q h=>by cases h⟩
 have hF24:=F3.out.trans hf4
 have hz2:=B2.out.size
 have P4:=Lib.hid (show HpAt w.heap.size w4 p.hb rb 1 rv [(o,oomB)] from(P1.out.below B2.out).keep fun g hg hq=> (hF24.out g hg (hO2 g hq)).2)
 have O4:=Lib.hid (show∀g,HpB p.hb rb rv [(o,oomB)] g→Out p L v4 aX2 g from fun g hg=> (hF24.out g (by have:=(P1.out.blkLt hg).2;omega) (hO2 g hg)).1)
 have B4:=Lib.hid (B3.out.trans hf4.bel)
 have K4:=Lib.hid hK4
 have hR1:=wraise_any hK4 P4.out (hp_wb P4.out hK4.bx) aX2_fl errN (by decide) aX2_ok.2.2.2 (by decide) (by simp)
 have HR1:Hid (Calls Tryz.prog 14 #[.pointer (some ⟨p.wb,0,none⟩), .string errN] w4 fun e w'=>e= .returned (.int .i64 2)∧ ∃rv' o',HpAt w.heap.size w' p.hb rb 1 rv' ([(o,oomB)]++ [(o',errN)])∧Below w.heap.size w4 w'∧But w4.heap.size (rb::rv.ownBlock.toList) w4 w'):=by
  refine Lib.hid (hR1.mono ?_)
  rintro e w' ⟨id,ok,rfl,(⟨hbad,_⟩ | ⟨_,rfl,rfl,rv5,o5,h1,h2,h3⟩)⟩
  ·exfalso
   simp at hbad
  ·exact⟨rfl,rv5,o5,h1,h2,h3⟩
 clear hO2 hF24 hK4 hf4 hR1 HL CN c0
 refine go_on ?_
 go_wp2_with (go_at_call 14;refine HR1.out.mono ?_;rintro e w5 ⟨rfl,rv5,o5,hp5,hb5,hbt5⟩;refine stop_here ?_)
 have K5:=Lib.hid (show WdK w.heap.size p L v4 aX2 k4 (k4*1048576) 0 w5 from K4.out.side (rb::rv.ownBlock.toList) (fun g hg=>by
  have hq:HpB p.hb rb rv [(o,oomB)] g:=by
   rcases List.mem_cons.1 hg with e|e
   ·exact .inr (.inl e)
   ·exact .inr (.inr (.inl (by simpa using e)))
  exact⟨(X1.out g hq).1,O4.out g hq,(P4.out.blkLt hq).1⟩) hbt5)
 have P5:=Lib.hid hp5
 have B5:=Lib.hid (B4.out.trans hb5)
 have hR2:=(wraise_any K5.out P5.out (hp_wb P5.out K5.out.bx) aX2_fl errN (by decide) aX2_ok.2.2.2 (by decide) (by simp))
 have HR2:Hid (Calls Tryz.prog 14 #[.pointer (some ⟨p.wb,0,none⟩), .string errN] w5 fun e w'=>e= .returned (.int .i64 1)∧Below w5.heap.size w5 w'):=by
  refine Lib.hid (hR2.mono ?_)
  rintro e w' ⟨id,ok,rfl,(⟨_,rfl,h1⟩ | ⟨hbad,_⟩)⟩
  ·exact⟨rfl,h1⟩
  ·exfalso
   simp at hbad
 clear hp5 hb5 hbt5 HR1 hR2
 refine go_on ?_
 go_wp2_with (go_at_call 14;refine HR2.out.mono ?_;rintro e w6 ⟨rfl,hb6⟩;refine stop_here ?_)
 have K6:=Lib.hid (K5.out.below hb6)
 have P6:=Lib.hid (P5.out.below hb6)
 have B6:=Lib.hid (B5.out.trans (hb6.mono (by have:=B5.out.size;omega)))
 have d0:=K6.out.bx.cell 0 rfl
 have HTy:Hid (Calls Tryz.prog 15 #[.pointer (some ⟨L.lb,0,none⟩)] w6 fun e w'=> ∃A c,e= .returned (.slice A 26 c)∧Below w6.heap.size w6 w'∧(26:Nat)≤c):=by
  obtain⟨ts,h1,h2,h3⟩:=K6.out.ld.all
  have hl:ts.length=26:=by
   have:=congrArg List.length h1
   rw [List.length_map,aX2_ok.2.1] at this
   exact this
  refine Lib.hid ((ltypes_any h2 (by omega) (by omega)).mono ?_)
  rintro e w' ⟨ov,ts',rfl,ho,_,hb⟩
  rw [hl] at ho
  obtain⟨A,c,rfl,h4,_⟩:=sl_len (slAt_own ho (fun _=>True) (by omega) (by omega) (fun _ _=>trivial))
  exact⟨A,c,rfl,hb,h4⟩
 have hwl6:=K6.out.wlt
 clear hb6 HR2
 refine go_on ?_
 have he1:(noDefN.toList==([106,97,118,97,47,108,97,110,103,47,78,111,67,108,97,115,115,68,101,102,70,111,117,110,100,69,114,114,111,114]:List UInt8))=true:=by rw [ByteArray.toList_eq];decide
 have he2:(errN.toList==([106,97,118,97,47,108,97,110,103,47,69,114,114,111,114]:List UInt8))=true:=by rw [ByteArray.toList_eq];decide
 go_wp2_with (first
  | (go_at_call 15;refine HTy.out.mono ?_;rintro e w7 ⟨A7,c7,rfl,hb7,hc7⟩;refine stop_here ?_))
 have B7:=Lib.hid (B6.out.trans (hb7.mono (by have:=B6.out.size;omega)))
 have HOf:=Lib.hid (wof_any (.inr ⟨k4,(K6.out.below hb7).bx⟩) (P6.out.below hb7) 1 (o5,errN) rfl)
 clear hb7
 refine go_on ?_
 go_wp2_with (first
  | (go_at_call 16;refine HOf.out.mono ?_;rintro e w8 ⟨rfl,rfl⟩))
 go_ret
 exact⟨rfl,B7.out⟩
end Go.Proofs.YtpbnjakeielipaaGreatDoor
namespace Go.Proofs.YtpbnjakeielipaaGreatDoor
open Go Go.RowKit Lib
theorem wf_u8 {n:Int} (h:(Lit.int .u8 n).wf=true):0≤n∧n≤255:=by
 have h2:IntKind.u8.min≤n∧n≤IntKind.u8.max:=by simpa [Lit.wf] using h
 have h3:IntKind.u8.min=0:=by decide
 have h4:IntKind.u8.max=255:=by decide
 omega
end Go.Proofs.YtpbnjakeielipaaGreatDoor
namespace Go.Proofs.YtpbnjakeielipaaGreatDoor
open Go Go.RowKit Lib Go.ChangeShapes Go.ChangeAt
structure OpD where
 kind:Int
 name:ByteArray
 bytes:List UInt8
 n:Int
 id:Int
 fc:ByteArray
 fa:Int
 vr:Bool
 vn:Int
def op0:OpD:=⟨0,⟨#[]⟩, [],0,0,⟨#[]⟩,0,false,0⟩
structure OpAt (w:World) (b o:Nat) (d:OpD):Prop where
 c0:w.cell? ⟨b,o,none⟩=some (.int .i64 d.kind)
 c1:w.cell? ⟨b,o+1,none⟩=some (.string d.name)
 c2: ∃A len cap,w.cell? ⟨b,o+2,none⟩=some (.slice A len cap)∧RdB w A len cap d.bytes
 c3:w.cell? ⟨b,o+3,none⟩=some (.int .i64 d.n)
 c4:w.cell? ⟨b,o+4,none⟩=some (.int .i64 d.id)
 c5:w.cell? ⟨b,o+5,none⟩=some (.string d.fc)
 c6:w.cell? ⟨b,o+6,none⟩=some (.int .i64 d.fa)
 c7:w.cell? ⟨b,o+7,none⟩=some (.bool d.vr)
 c8:w.cell? ⟨b,o+8,none⟩=some (.int .i64 d.vn)
 ns:d.name.size≤9223372036854775807
 nn: -9223372036854775808≤d.n∧d.n≤9223372036854775807
 kn: -9223372036854775808≤d.kind∧d.kind≤9223372036854775807
structure RdOp (w:World) (A:Option Addr) (len cap:Nat) (l:List OpD):Prop where
 hlen:len=l.length
 hle:len≤cap
 hmax:len≤9223372036854775807
 hat:0<len→ ∃b off,A=some ⟨b,off,none⟩∧b<w.heap.size∧ ∀i,i<len→OpAt w b (off+i*9) (l.getD i op0)
theorem rdB_of {w:World} {x:Addr} {len cap:Nat} {zs:List Int} (hl:len≤cap) (hm:cap≤maxLen) (hz:len≤zs.length) (hc: ∀i,i<zs.length→w.cell? (x.add i)=some (.int .u8 (zs.getD i 0))) (hw: ∀n∈zs,(Lit.int .u8 n).wf=true):
  RdB w (some x) len cap ((zs.take len).map fun n=>UInt8.ofNat n.toNat):=by
 refine⟨by simp;omega,hl,by unfold maxLen at hm;omega,fun h0=> ?_⟩
 obtain⟨b,off,spot⟩:=x
 have h1:=hc 0 (by omega)
 have hs:spot=none:=by
  rcases spot with _|s
  ·rfl
  ·exfalso
   simp [Addr.add,World.cell?] at h1
   split at h1<;>simp at h1
 subst hs
 refine⟨b,off,rfl, ?_,fun i hi=> ?_⟩
 ·have:=World.block_lt_of_cell? _ _ h1
  simpa [Addr.add] using this
 ·have h2:=hc i (by omega)
  rw [add_cell] at h2
  rw [h2]
  have hi2:i<zs.length:=by omega
  have hmem:zs[i]∈zs:=List.getElem_mem _
  have hb:=wf_u8 (hw _ hmem)
  have e:zs.getD i 0=zs[i]:=by rw [List.getD_eq_getElem?_getD,List.getElem?_eq_getElem hi2];rfl
  rw [e]
  have e2:byt ((zs.take len).map fun n=>UInt8.ofNat n.toNat) i=zs[i].toNat:=by
   unfold byt
   rw [List.getD_eq_getElem?_getD,List.getElem?_map,List.getElem?_take,if_pos hi,List.getElem?_eq_getElem hi2]
   simp only [Option.map_some,Option.getD_some,UInt8.toNat_ofNat']
   omega
  rw [e2]
  congr 2
  omega
theorem bytes_u8:Tryz.prog.bytesOf 5=1:=by kernel_rfl
theorem weights_mem {H:Type} {P:Program} {e:TypeId} {f:Nat→Bool}: ∀(l:List (DataW H)),(DataW.weightsAll P e l).all f=true→ ∀x∈l,(x.weights P e).all f=true
 | [],h,x,hx=>by simp at hx
 |y::l,h,x,hx=>by
  rw [DataW.weightsAll,List.all_append,Bool.and_eq_true] at h
  rcases List.mem_cons.1 hx with rfl|hx
  ·exact h.1
  ·exact weights_mem l h.2 x hx
theorem cellsOp:Tryz.prog.cellsOf 41=9:=by kernel_rfl
section
variable {H:Type} {enc:TypeId×Value→H} {P:Program} {w:World} {base:Nat} {spare:Nat→Bool} {held:Bool}
theorem trod_struct7 {t:TypeId} {f0 f1 f2 f3 f4 f5 f6:Field} {fuel:Nat} {cs:List Value} {x:DataW H×List MemPlace} (ht:P.underlying t=some (.struct #[f0,f1,f2,f3,f4,f5,f6])) (h:DataW.trod enc P w base spare held fuel t cs=some x):
  ∃(xs:List (DataW H×List MemPlace)) (y0 y1 y2 y3 y4 y5 y6:DataW H×List MemPlace) (n:Nat),xs= [y0,y1,y2,y3,y4,y5,y6]∧x.1= .agg [y0.1,y1.1,y2.1,y3.1,y4.1,y5.1,y6.1]∧cs.length=P.cellsOf t∧DataW.trod enc P w base spare held n f0.type ((cs.drop f0.offset).take (P.cellsOf f0.type))=some y0∧
   DataW.trod enc P w base spare held n f1.type ((cs.drop f1.offset).take (P.cellsOf f1.type))=some y1∧DataW.trod enc P w base spare held n f2.type ((cs.drop f2.offset).take (P.cellsOf f2.type))=some y2∧
   DataW.trod enc P w base spare held n f3.type ((cs.drop f3.offset).take (P.cellsOf f3.type))=some y3∧DataW.trod enc P w base spare held n f4.type ((cs.drop f4.offset).take (P.cellsOf f4.type))=some y4∧
   DataW.trod enc P w base spare held n f5.type ((cs.drop f5.offset).take (P.cellsOf f5.type))=some y5∧DataW.trod enc P w base spare held n f6.type ((cs.drop f6.offset).take (P.cellsOf f6.type))=some y6:=by
 obtain⟨xs,n,_,rfl,hl,hlen,hf⟩:=DataW.trod_struct ht h
 match xs,hlen with
 | [y0,y1,y2,y3,y4,y5,y6],_=>exact⟨_,y0,y1,y2,y3,y4,y5,y6,n,rfl,by simp,hl,by simpa using hf 0 f0 rfl,by simpa using hf 1 f1 rfl,by simpa using hf 2 f2 rfl,by simpa using hf 3 f3 rfl,by simpa using hf 4 f4 rfl,by simpa using hf 5 f5 rfl,by simpa using hf 6 f6 rfl⟩
end
theorem wf_i64o {n:Int} (h:(Lit.int .i64 n).wf=true): -9223372036854775808≤n∧n≤9223372036854775807:=by
 simp [Lit.wf,IntKind.min,IntKind.max,IntKind.bits,IntKind.signed] at h
 omega
theorem op_one {H:Type} {enc:TypeId×Value→H} {w:World} {base:Nat} {spare:Nat→Bool} {held:Bool} {fuel:Nat} {cs:List Value} {x:DataW H×List MemPlace} (h:DataW.trod enc Tryz.prog w base spare held fuel 41 cs=some x):
  ∃(d:OpD) (A:Option Addr) (n c:Nat),cs= [.int .i64 d.kind, .string d.name, .slice A n c, .int .i64 d.n, .int .i64 d.id, .string d.fc, .int .i64 d.fa, .bool d.vr, .int .i64 d.vn]∧RdB w A n c d.bytes∧d.name.size≤9223372036854775807∧(-9223372036854775808≤d.n∧d.n≤9223372036854775807)∧(-9223372036854775808≤d.kind∧d.kind≤9223372036854775807)∧((x.1.weights Tryz.prog 41).all (· ≤reachBytes)=true→d.name.size≤140737488351232∧d.bytes.length≤140737488351232):=by
 obtain⟨xs,y0,y1,y2,y3,y4,y5,y6,k,_,hx,hcl,h0,h1,h2,h3,h4,h5,h6⟩:=trod_struct7 Tryz.underlying41 h
 rw [cellsOp] at hcl
 obtain⟨c0,c1,c2,c3,c4,c5,c6,c7,c8,rfl⟩: ∃c0 c1 c2 c3 c4 c5 c6 c7 c8,cs= [c0,c1,c2,c3,c4,c5,c6,c7,c8]:=by
  match cs,hcl with
  | [c0,c1,c2,c3,c4,c5,c6,c7,c8],_=>exact⟨c0,c1,c2,c3,c4,c5,c6,c7,c8,rfl⟩
 have ck0:Tryz.prog.cellsOf 9=1:=by kernel_rfl
 have ck1:Tryz.prog.cellsOf 35=1:=by kernel_rfl
 have ck2:Tryz.prog.cellsOf 3=1:=by kernel_rfl
 have ck3:Tryz.prog.cellsOf 37=2:=by kernel_rfl
 have ck4:Tryz.prog.cellsOf 39=2:=by kernel_rfl
 have ck5:Tryz.prog.cellsOf 4=1:=by kernel_rfl
 simp only [ck0,ck1,ck2,ck3,ck4] at h0 h1 h2 h3 h4 h5 h6
 obtain⟨m0,e0,_,w0⟩:=DataW.trod_int Tryz.underlying3 (show DataW.trod enc Tryz.prog w base spare held k 3 [c0]=some y0 from h0)
 obtain⟨sn,e1,hy1,hs1⟩:=DataW.trod_string Tryz.underlying9 (show DataW.trod enc Tryz.prog w base spare held k 9 [c1]=some y1 from h1)
 obtain⟨A',n',c',bs,e2,hb,hwb⟩: ∃A' n' c' bs,c2= .slice A' n' c'∧RdB w A' n' c' bs∧((y2.1.weights Tryz.prog 35).all (· ≤reachBytes)=true→bs.length≤140737488351232):=by
  rcases open_ints Tryz.underlying35 Tryz.underlying5 (by kernel_rfl) (show DataW.trod enc Tryz.prog w base spare held k 35 [c2]=some y2 from h2) with⟨e1,_⟩ | ⟨x1,l1,cp1,zs,e1,_,hl1,hm1,hz,hy1,hcell,hwz⟩
  ·simp at e1
   exact⟨none,0,0, [],e1,⟨rfl,Nat.le_refl _,by decide,fun h=>absurd h (by decide)⟩,fun _=>by simp⟩
  ·simp at e1
   refine⟨_,_,_,_,e1,rdB_of hl1 hm1 (by rw [hz];split<;>omega) hcell hwz,fun hw=> ?_⟩
   rw [show y2.1=(.slice (lits .u8 (zs.take l1)) (lits .u8 (zs.drop l1))) from congrArg Prod.fst hy1,DataW.weights,Tryz.underlying35] at hw
   simp only [List.all_cons,Bool.and_eq_true,decide_eq_true_eq] at hw
   have h1:=hw.1
   rw [bytes_u8,Nat.mul_one] at h1
   simp only [lits,List.length_map,List.length_take,List.length_drop] at h1
   unfold reachBytes at h1
   simp only [List.length_map,List.length_take]
   omega
 obtain⟨m3,e3,_,w3⟩:=DataW.trod_int Tryz.underlying3 (show DataW.trod enc Tryz.prog w base spare held k 3 [c3]=some y3 from h3)
 obtain⟨m4,e4,_,w4⟩:=DataW.trod_int Tryz.underlying3 (show DataW.trod enc Tryz.prog w base spare held k 3 [c4]=some y4 from h4)
 obtain⟨z0,z1,k5,_,_,g0,g1⟩:=trod_struct2 Tryz.underlying37 (show DataW.trod enc Tryz.prog w base spare held k 37 [c5,c6]=some y5 from h5)
 obtain⟨u0,u1,k6,_,_,f0,f1⟩:=trod_struct2 Tryz.underlying39 (show DataW.trod enc Tryz.prog w base spare held k 39 [c7,c8]=some y6 from h6)
 simp only [ck0,ck2,ck5] at g0 g1 f0 f1
 obtain⟨s5,e5,_,_⟩:=DataW.trod_string Tryz.underlying9 (show DataW.trod enc Tryz.prog w base spare held k5 9 [c5]=some z0 from g0)
 obtain⟨m6,e6,_,_⟩:=DataW.trod_int Tryz.underlying3 (show DataW.trod enc Tryz.prog w base spare held k5 3 [c6]=some z1 from g1)
 obtain⟨b7,e7,_⟩:=DataW.trod_bool Tryz.underlying4 (show DataW.trod enc Tryz.prog w base spare held k6 4 [c7]=some u0 from f0)
 obtain⟨m8,e8,_,_⟩:=DataW.trod_int Tryz.underlying3 (show DataW.trod enc Tryz.prog w base spare held k6 3 [c8]=some u1 from f1)
 simp at e0 e1 e3 e4 e5 e6 e7 e8
 subst e0 e1 e2 e3 e4 e5 e6 e7 e8
 refine⟨⟨m0,sn,bs,m3,m4,s5,m6,b7,m8⟩,A',n',c',rfl,hb,by unfold maxLen at hs1;exact hs1,wf_i64o w3,wf_i64o w0,fun hw=> ?_⟩
 rw [hx,DataW.weights,Tryz.underlying41] at hw
 simp only [Array.toList,List.map_cons,DataW.weightsEach,List.all_append,Bool.and_eq_true] at hw
 refine⟨?_,hwb hw.2.2.1⟩
 show sn.size≤140737488351232
 have h1:=hw.2.1
 rw [show y1.1= .lit (.string sn.data.toList) from congrArg Prod.fst hy1,DataW.weights] at h1
 simp only [List.all_cons,Bool.and_eq_true,decide_eq_true_eq] at h1
 have h2:=h1.1
 unfold reachBytes at h2
 have h3:sn.data.toList.length=sn.size:=Array.length_toList
 omega
theorem rdOp_row {H:Type} {enc:TypeId×Value→H} {w:World} {base:Nat} {spare:Nat→Bool} {held:Bool} {A:Option Addr} {len cap:Nat} {d:DataW H} {p:List MemPlace}
  (h:DataW.Trod enc Tryz.prog w base spare held 22 (.slice A len cap) d p): ∃l,RdOp w A len cap l∧((d.weights Tryz.prog 22).all (· ≤reachBytes)=true→ ∀q∈l,q.name.size≤140737488351232∧q.bytes.length≤140737488351232):=by
 obtain⟨fuel,hf⟩:=h
 rcases Deep.open_slice Tryz.underlying22 hf with⟨hcs,_⟩ | ⟨x,len',cap',m,n,D,Pl,hcs,_,hl,hm,hmm,hxd,hi⟩
 ·simp [Value.cells] at hcs
  obtain⟨rfl,rfl,rfl⟩:=hcs
  exact⟨[],⟨rfl,Nat.le_refl _,by omega,fun h0=>absurd h0 (by omega)⟩,fun _ q hq=>by simp at hq⟩
 ·simp [Value.cells] at hcs
  obtain⟨rfl,rfl,rfl⟩:=hcs
  have hlm:len≤m:=by rw [hmm];split<;>omega
  have key: ∀i, ∃q:OpD,i<len→(∃A' n' c',(∀j y,([.int .i64 q.kind, .string q.name, .slice A' n' c', .int .i64 q.n, .int .i64 q.id, .string q.fc, .int .i64 q.fa, .bool q.vr, .int .i64 q.vn]:List Value)[j]?=some y→w.cell? ((x.add (i*9)).add j)=some y)∧RdB w A' n' c' q.bytes)∧q.name.size≤9223372036854775807∧(-9223372036854775808≤q.n∧q.n≤9223372036854775807)∧(-9223372036854775808≤q.kind∧q.kind≤9223372036854775807)∧(((D i).weights Tryz.prog 41).all (· ≤reachBytes)=true→q.name.size≤140737488351232∧q.bytes.length≤140737488351232):=by
   intro i
   by_cases hlt:i<len
   ·obtain⟨cs',hc,ht'⟩:=hi i (by omega)
    rw [cellsOp] at hc
    obtain⟨_,hcl,hat⟩:=World.cells?_some hc
    obtain⟨q,A',n',c',rfl,h1,h2,h3,h4,h5⟩:=op_one ht'
    exact⟨q,fun _=> ⟨⟨A',n',c',fun j y hy=> (hat j (by have:=(List.getElem?_eq_some_iff.1 hy).1;simpa using this)).trans hy,h1⟩,h2,h3,h4,h5⟩⟩
   ·exact⟨op0,fun h=>absurd h hlt⟩
  obtain⟨f,hf'⟩:=Classical.axiomOfChoice key
  refine⟨(List.range len).map f,⟨by simp,hl,by unfold maxLen at hm;omega,fun h0=> ?_⟩,fun hw q hq=> ?_⟩
  rotate_left
  ·obtain⟨i,hi,rfl⟩:=List.mem_map.1 hq
   have hil:i<len:=List.mem_range.1 hi
   refine(hf' i hil).2.2.2.2 ?_
   rw [show d= .slice ((List.range len).map D) ((List.range (m - len)).map fun j=>D (len+j)) from congrArg Prod.fst hxd,DataW.weights,Tryz.underlying22] at hw
   simp only [List.all_cons,List.all_append,Bool.and_eq_true] at hw
   exact weights_mem _ hw.2.1 _ (List.mem_map.2 ⟨i,hi,rfl⟩)
  obtain⟨b,off,spot⟩:=x
  obtain⟨⟨A0,n0,c0,h1,_⟩,_⟩:=hf' 0 h0
  have h1:=h1 0 _ rfl
  have hs:spot=none:=by
   rcases spot with _|s
   ·rfl
   ·exfalso
    simp [Addr.add,World.cell?] at h1
    split at h1<;>simp at h1
  subst hs
  refine⟨b,off,rfl, ?_,fun i hi=> ?_⟩
  ·have:=World.block_lt_of_cell? _ _ h1
   simpa [Addr.add] using this
  ·obtain⟨⟨A1,n1,c1,g1,g2⟩,g3,g4,g5,_⟩:=hf' i hi
   have e:((List.range len).map f).getD i op0=f i:=by
    rw [List.getD_eq_getElem?_getD,List.getElem?_map,List.getElem?_range hi]
    rfl
   rw [e]
   simp only [add_cell] at g1
   exact⟨g1 0 _ rfl,g1 1 _ rfl,⟨A1,n1,c1,g1 2 _ rfl,g2⟩,g1 3 _ rfl,g1 4 _ rfl,g1 5 _ rfl,g1 6 _ rfl,g1 7 _ rfl,g1 8 _ rfl,g3,g4,g5⟩
end Go.Proofs.YtpbnjakeielipaaGreatDoor
namespace Go.Proofs.YtpbnjakeielipaaGreatDoor
open Go Go.RowKit Lib
theorem OpAt.low {B:Nat} {w w':World} {b o:Nat} {d:OpD} (h:OpAt w b o d) (hb:Below B w w') (hl:b<B) (hB:B=w.heap.size):OpAt w' b o d:=by
 obtain⟨A,n,c,h1,h2⟩:=h.c2
 subst hB
 exact⟨(hb.cell (p:=⟨b,o,none⟩) hl).trans h.c0,(hb.cell (p:=⟨b,o+1,none⟩) hl).trans h.c1,⟨A,n,c,(hb.cell (p:=⟨b,o+2,none⟩) hl).trans h1,h2.below hb⟩,(hb.cell (p:=⟨b,o+3,none⟩) hl).trans h.c3,(hb.cell (p:=⟨b,o+4,none⟩) hl).trans h.c4,(hb.cell (p:=⟨b,o+5,none⟩) hl).trans h.c5,(hb.cell (p:=⟨b,o+6,none⟩) hl).trans h.c6,(hb.cell (p:=⟨b,o+7,none⟩) hl).trans h.c7,(hb.cell (p:=⟨b,o+8,none⟩) hl).trans h.c8,h.ns,h.nn,h.kn⟩
theorem RdOp.below {w w':World} {A:Option Addr} {n c:Nat} {l:List OpD} (h:RdOp w A n c l) (hb:Below w.heap.size w w'):RdOp w' A n c l:=
 ⟨h.hlen,h.hle,h.hmax,fun h0=>by
  obtain⟨b,off,e,hlt,hc⟩:=h.hat h0
  exact⟨b,off,e,Nat.lt_of_lt_of_le hlt hb.size,fun i hi=> (hc i hi).low hb hlt rfl⟩⟩
def FewP (l:List OpD):Prop:=l.length≤150∧ ∀q∈l,q.name.size≤60000∧q.bytes.length≤60000
theorem wmuch_any (A:Option Addr) (len cap:Nat) (l:List OpD) (w:World) (h:RdOp w A len cap l) (hs: ∀q∈l,q.name.size≤140737488351232∧q.bytes.length≤140737488351232):Calls Tryz.prog 5 #[.slice A len cap] w fun e w'=> ∃b,e= .returned (.bool b)∧Below w.heap.size w w'∧(b=false→FewP l):=by
 have HD:=Lib.hid h
 have HS:=Lib.hid hs
 have hmx:=h.hmax
 have hle:=h.hle
 have HLN:=Lib.hid h.hlen
 clear h hs
 go_enter Tryz.func5,Tryz.ntmps5
 go_wp2_with fail
 go_loopw [3,4] (fun n i wr=> ∃(k:Nat) (N:Int),k≤len∧i= .int .i64 k∧n= .int .i64 N∧0≤N∧N≤281474976762465∧Hid (Below w.heap.size w wr)∧Hid (∀j,j<k→((l.getD j op0).name.size:Int)≤N∧((l.getD j op0).bytes.length:Int)≤N)) (fun _ i _=>len - (RowKit.intOf i).toNat)
 case atStart=>exact⟨0,0,by omega,rfl,rfl,by omega,by omega,Lib.hid (Below.refl _ _),Lib.hid (fun j hj=>absurd hj (by omega))⟩
 case round=>
  obtain⟨k,N,hk,rfl,rfl,hN0,hN1,HBr,HJ⟩:=hrel
  by_cases hlt:k<len
  ·by_cases hN:N≤60000
   ·have dN:decide (N≤60000)=true:=decide_eq_true hN
    obtain⟨b,off,hA,hbl,hat⟩:=(HD.out.below HBr.out).hat (by omega)
    subst hA
    obtain⟨A',n',c',c1,hrb⟩:=(hat k hlt).c2
    have c0:=(hat k hlt).c1
    have hnb:=hrb.hlen
    have hmem:l.getD k op0∈l:=by
     rw [List.getD_eq_getElem?_getD,List.getElem?_eq_getElem (by rw [←HLN.out];exact hlt)]
     exact List.getElem_mem _
    have hsz:=HS.out _ hmem
    have HDD:=Lib.hid (show∃d,l.getD k op0=d from⟨_,rfl⟩)
    obtain⟨d,hd⟩:=HDD.out
    rw [hd] at c0 hrb hnb hsz
    have HB2:=Lib.hid (fun m=>HBr.out.trans ((below_drewN (Below.refl wr.heap.size wr) m).mono HBr.out.size))
    have hi1:(0:Int)≤(k:Int):=by omega
    have hi2:(k:Int) < (len:Int):=by omega
    have hn1:(n':Int)≤140737488351232:=by omega
    have hn2:(d.name.size:Int)≤140737488351232:=by omega
    have HDe:=Lib.hid hd
    have HNB:=Lib.hid hnb
    clear hat hrb hnb hsz hd hmem HDD
    go_wp2_with fail
    go_quiet (fail)
    all_goals go_wp2_with fail
    all_goals
     go_roundw
     case rel=>exact⟨k+1,N+1+n'+d.name.size,by omega,by go_num,rfl,by omega,by omega,Lib.hid (HB2.out _),Lib.hid (fun j hj=>by
      rcases Nat.lt_succ_iff_lt_or_eq.1 hj with hj|rfl
      ·have:=HJ.out j hj;omega
      ·rw [HDe.out];have:=HNB.out;omega)⟩
     case measure=>simp [RowKit.intOf];omega
   ·have dN:decide (N≤60000)=false:=decide_eq_false hN
    have dM:decide (60000<N)=true:=decide_eq_true (by omega)
    clear hN
    go_wp2_with fail
    go_ret
    exact⟨_,rfl,HBr.out,fun h=>by cases h⟩
  ·obtain rfl:k=len:=by omega
   by_cases hN:N≤60000
   ·have dN:decide (N≤60000)=true:=decide_eq_true hN
    have dM:decide (60000<N)=false:=decide_eq_false (by omega)
    have HNN:=Lib.hid hN
    clear hN
    go_wp2_with fail
    go_ret
    refine⟨_,rfl,HBr.out,fun h=> ⟨by rw [←HLN.out];have:=of_decide_eq_false h;omega,fun q hq=> ?_⟩⟩
    obtain⟨j,hj,rfl⟩:=List.getElem_of_mem hq
    have:=HJ.out j (by rw [HLN.out];exact hj)
    rw [List.getD_eq_getElem?_getD,List.getElem?_eq_getElem hj] at this
    have:=HNN.out
    simp only [Option.getD_some] at*
    omega
   ·have dN:decide (N≤60000)=false:=decide_eq_false hN
    have dM:decide (60000<N)=true:=decide_eq_true (by omega)
    clear hN
    go_wp2_with fail
    go_ret
    exact⟨_,rfl,HBr.out,fun h=>by cases h⟩
end Go.Proofs.YtpbnjakeielipaaGreatDoor
