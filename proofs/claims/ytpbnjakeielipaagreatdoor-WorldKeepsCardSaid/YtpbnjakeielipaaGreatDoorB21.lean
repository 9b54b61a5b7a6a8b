/-
  What the laws rest on, part 21: walks of the program's functions and plain laws. Conditions: none but those that each theorem names.
-/
import Derived.Test.YtpbnjakeielipaaGreatDoorB20
import Derived.Laws.EntriesVeiled
import Derived.Test.YtpbnjakeielipaaGreatDoorB07
set_option linter.unusedSimpArgs false
set_option linter.unusedVariables false
set_option maxRecDepth 100000
set_option maxHeartbeats 4000000
namespace Go.Proofs.YtpbnjakeielipaaGreatDoor
open Go Go.RowKit Lib
def fldRules (bk p5 p7 p8 p9 p10:Nat):List Value:= [.int .i64 20, .func (.func 149) #[] #[.pointer (some ⟨p8,0,none⟩), .pointer (some ⟨p10,0,none⟩)], .int .i64 21, .func (.func 150) #[] #[.pointer (some ⟨p7,0,none⟩)], .int .i64 22, .func (.func 152) #[] #[.pointer (some ⟨p9,0,none⟩)], .int .i64 23, .func (.func 153) #[] #[.pointer (some ⟨bk,0,none⟩)], .int .i64 24, .func (.func 155) #[] #[.pointer (some ⟨p5,0,none⟩), .pointer (some ⟨p7,0,none⟩), .pointer (some ⟨p9,0,none⟩)], .int .i64 26, .func (.func 156) #[] #[.pointer (some ⟨bk,0,none⟩), .pointer (some ⟨p9,0,none⟩)]]
def fldRes (b1 b2 b3 b4 b5 b6:Bool):Int:=if b1 then 20 else if b2 then 21 else if b3 then 22 else if b4 then 23 else if b5 then 24 else if b6 then 26 else 0
theorem SeenM.below {w w':World} {b:Nat} {seen:List NmD} (h:SeenM w b seen) (hb:Below w.heap.size w w'):SeenM w' b seen:=by
 obtain⟨es,clock,hm,hg⟩:=h
 exact⟨es,clock,(hb.block b (Array.getElem?_eq_some_iff.1 hm).1).trans hm,hg⟩
theorem SeenM.lt {w:World} {b:Nat} {seen:List NmD} (h:SeenM w b seen):b<w.heap.size:=by
 obtain⟨es,clock,hm,hg⟩:=h
 exact(Array.getElem?_eq_some_iff.1 hm).1
theorem SeenM.apart {w:World} {b p o:Nat} {v:Value} {seen:List NmD} (h:SeenM w b seen) (hp:w.cell? ⟨p,o,none⟩=some v):p≠b:=by
 obtain⟨es,clock,hm,hg⟩:=h
 obtain⟨ob,ho,hc⟩:=cells_of_cell hp
 intro e
 subst e
 rw [show w.heap[p]?=some ob from ho] at hm
 injection hm with hm
 subst hm
 cases hc
theorem SlAt.seen {w w':World} {b:Nat} {seen:List NmD} {ok:Nat→Prop} {size n:Nat} {cells:List Value} {v:Value} (h:SlAt w ok size n cells v) (hm:SeenM w b seen) (hb:But w.heap.size [b] w w'):SlAt w' ok size n cells v:=by
 obtain⟨A,cap,rfl,h1,h2,h3,h4⟩:=h
 refine⟨A,cap,rfl,h1,h2,h3,fun h0=> ?_⟩
 obtain⟨g,off,e,hlt,ho,hc⟩:=h4 h0
 refine⟨g,off,e,Nat.lt_of_lt_of_le hlt hb.size,ho,fun j u hu=> ?_⟩
 have h5:=hc j u hu
 have hne:=hm.apart h5
 exact(hb.cell (p:=⟨g,off+j,none⟩) hlt (by simpa using hne)).trans h5
structure FldW (c:ClassV) (A:Option Addr) (cap:Nat) (ifs flds mths:Value) (ok:Nat→Prop) (g bk p5 p7 p8 p9 p10 b:Nat) (nm d:ByteArray) (one two:Bool) (x:FieldV) (seen:List NmD) (fb:Nat) (W:World):Prop where
 gg:Bx W g (fldRules bk p5 p7 p8 p9 p10) 281
 kk:Bx W bk [.int .i64 c.minor, .int .i64 c.major, .slice A c.pool.length cap, .int .i64 c.acc, .int .i64 c.this, .int .i64 c.sup,ifs,flds,mths] 248
 xx:Bx W fb [.int .i64 x.acc, .int .i64 x.name, .int .i64 x.desc, .int .i64 x.value] 168
 c5:CapB W p5 (.map (some b))
 c7:CapB W p7 (.string nm)
 c8:CapB W p8 (.bool one)
 c9:CapB W p9 (.string d)
 c10:CapB W p10 (.bool two)
 bo:BookOk W ok c A cap ifs flds mths
 sm:SeenM W b seen
theorem CapB.below {W W':World} {p:Nat} {v:Value} (h:CapB W p v) (hb:Below W.heap.size W W'):CapB W' p v:=(hb.cell (p:=⟨p,0,none⟩) (cells_lt h)).trans h
theorem FldW.below {c:ClassV} {A:Option Addr} {cap:Nat} {ifs flds mths:Value} {ok:Nat→Prop} {g bk p5 p7 p8 p9 p10 b:Nat} {nm d:ByteArray} {one two:Bool} {x:FieldV} {seen:List NmD} {fb:Nat} {W W':World} (h:FldW c A cap ifs flds mths ok g bk p5 p7 p8 p9 p10 b nm d one two x seen fb W) (hb:Below W.heap.size W W'):FldW c A cap ifs flds mths ok g bk p5 p7 p8 p9 p10 b nm d one two x seen fb W':=
 ⟨h.gg.below hb h.gg.lt,h.kk.below hb h.kk.lt,h.xx.below hb h.xx.lt,h.c5.below hb,h.c7.below hb,h.c8.below hb,h.c9.below hb,h.c10.below hb,h.bo.below hb,h.sm.below hb⟩
theorem CapB.seen {W W':World} {p b:Nat} {v:Value} {seen:List NmD} (h:CapB W p v) (hm:SeenM W b seen) (hb:But W.heap.size [b] W W'):CapB W' p v:=(hb.cell (p:=⟨p,0,none⟩) (cells_lt h) (by simpa using hm.apart h)).trans h
theorem FldW.seen {c:ClassV} {A:Option Addr} {cap:Nat} {ifs flds mths:Value} {ok:Nat→Prop} {g bk p5 p7 p8 p9 p10 b:Nat} {nm d:ByteArray} {one two:Bool} {x:FieldV} {seen seen':List NmD} {fb:Nat} {W W':World} (h:FldW c A cap ifs flds mths ok g bk p5 p7 p8 p9 p10 b nm d one two x seen fb W) (hb:But W.heap.size [b] W W') (hs:SeenM W' b seen'):FldW c A cap ifs flds mths ok g bk p5 p7 p8 p9 p10 b nm d one two x seen' fb W':=
 ⟨h.gg.but hb (ne_one (h.sm.apart (h.gg.cell 0 rfl))),h.kk.but hb (ne_one (h.sm.apart (h.kk.cell 0 rfl))),h.xx.but hb (ne_one (h.sm.apart (h.xx.cell 0 rfl))),h.c5.seen h.sm hb,h.c7.seen h.sm hb,h.c8.seen h.sm hb,h.c9.seen h.sm hb,h.c10.seen h.sm hb,⟨h.bo.hp.seen h.sm hb,h.bo.h1,h.bo.h2,h.bo.h3⟩,hs⟩
theorem first_field (c:ClassV) (A:Option Addr) (cap:Nat) (ifs flds mths:Value) (ok:Nat→Prop) (g bk p5 p7 p8 p9 p10 b:Nat) (nm d:ByteArray) (one two:Bool) (x:FieldV) (seen:List NmD) (w:World) (hF:FldW c A cap ifs flds mths ok g bk p5 p7 p8 p9 p10 b nm d one two x seen w.heap.size (w.alloc (.cells #[.int .i64 x.acc, .int .i64 x.name, .int .i64 x.desc, .int .i64 x.value] 168))) (hlb:b<w.heap.size) (hs2:nm.size≤65536) (hs3:d.size≤65536) (hlen:seen.length≤1048576) (hn:Fine x.value):
  Calls Tryz.prog 148 #[fieldV x, .slice (some ⟨g,0,none⟩) 6 6] w fun e w'=>
   e= .returned (.int .i64 (fldRes (!one|| !two) (!memberB nm.data.toList) (!fieldB d.data.toList) (fldFlags c.acc x.acc) (decide ((nm.data.toList,d.data.toList)∈seen)) (fldValue c.pool x d.data.toList)))∧But w.heap.size [b] w w'∧
   SeenM w' b (if(!one|| !two) || !memberB nm.data.toList|| !fieldB d.data.toList||fldFlags c.acc x.acc then seen else(nm.data.toList,d.data.toList)::seen):=by
 have HB0:=Lib.hid (But.of_below (S:= [b]) ((Below.refl w.heap.size w).alloc (Nat.le_refl _) (.cells #[.int .i64 x.acc, .int .i64 x.name, .int .i64 x.desc, .int .i64 x.value] 168)))
 have F0:=Lib.hid hF
 have HN:=Lib.hid hn
 obtain⟨v1,e1⟩: ∃v,(!one|| !two)=v:=⟨_,rfl⟩
 obtain⟨v2,e2⟩: ∃v,(!memberB nm.data.toList)=v:=⟨_,rfl⟩
 obtain⟨v3,e3⟩: ∃v,(!fieldB d.data.toList)=v:=⟨_,rfl⟩
 obtain⟨v4,e4⟩: ∃v,fldFlags c.acc x.acc=v:=⟨_,rfl⟩
 obtain⟨v5,e5⟩: ∃v,decide ((nm.data.toList,d.data.toList)∈seen)=v:=⟨_,rfl⟩
 obtain⟨v6,e6⟩: ∃v,fldValue c.pool x d.data.toList=v:=⟨_,rfl⟩
 rw [e1,e2,e3,e4,e5,e6]
 have E1:=Lib.hid e1
 have E2:=Lib.hid e2
 have E3:=Lib.hid e3
 have E4:=Lib.hid e4
 have E5:=Lib.hid e5
 have E6:=Lib.hid e6
 clear hF hn e1 e2 e3 e4 e5 e6
 have hz0:(w.alloc (.cells #[.int .i64 x.acc, .int .i64 x.name, .int .i64 x.desc, .int .i64 x.value] 168)).heap.size=w.heap.size+1:=by simp
 unfold fieldV
 go_enter Tryz.func148,Tryz.ntmps148
 go_wp2_with fail
 refine wp_loop_rounds 7 ?_
 generalize w.alloc (.cells #[.int .i64 x.acc, .int .i64 x.name, .int .i64 x.desc, .int .i64 x.value] 168)=w0 at*
 clear hz0
 have g0:=F0.out.gg.cell 0 rfl
 have g1:=F0.out.gg.cell 1 rfl
 have x0:=F0.out.xx.cell 0 rfl
 have x1:=F0.out.xx.cell 1 rfl
 have x2:=F0.out.xx.cell 2 rfl
 have x3:=F0.out.xx.cell 3 rfl
 have hxl:=F0.out.xx.lt
 have G0:=Lib.hid (F0.out.below ((Below.refl w0.heap.size w0).alloc (Nat.le_refl _) (.cells #[.int .i64 20, .func (.func 149) #[] #[.pointer (some ⟨p8,0,none⟩), .pointer (some ⟨p10,0,none⟩)]] 281)))
 have R0:=Lib.hid (bx_new w0 [.int .i64 20, .func (.func 149) #[] #[.pointer (some ⟨p8,0,none⟩), .pointer (some ⟨p10,0,none⟩)]] 281)
 have HC0:=Lib.hid (HB0.out.trans ((But.of_below (S:= [b]) ((Below.refl w0.heap.size w0).alloc (Nat.le_refl _) (.cells #[.int .i64 20, .func (.func 149) #[] #[.pointer (some ⟨p8,0,none⟩), .pointer (some ⟨p10,0,none⟩)]] 281))).mono HB0.out.size (fun _ _ h=>h)))
 have hzr:(w0.alloc (.cells #[.int .i64 20, .func (.func 149) #[] #[.pointer (some ⟨p8,0,none⟩), .pointer (some ⟨p10,0,none⟩)]] 281)).heap.size=w0.heap.size+1:=by simp
 rw [rounds_succ]
 go_wp2_with (go_at_call 149;refine stop_here ?_)
 refine go_on ?_
 clear g0 g1 x0 x1 x2 x3
 refine(field1_any' x p8 p10 one two _ G0.out.c8 G0.out.c10 (cells_lt G0.out.c8) (cells_lt G0.out.c10)).mono ?_
 rw [E1.out]
 rintro e w1 ⟨rfl,hb⟩
 have HB1:=Lib.hid (HC0.out.trans ((But.of_below (S:= [b]) hb).mono (by have:=HC0.out.size;omega) (fun _ _ h=>h)))
 have F1:=Lib.hid (G0.out.below hb)
 have r0:=(R0.out.below hb (by omega)).cell 0 rfl
 have hz1:=hb.size
 clear hb
 cases v1 with
 |true=>
  go_wp2_with fail
  go_ret
  exact⟨rfl,HB1.out,F1.out.sm⟩
 |false=>
  go_wp2_with fail
  have g0:=F1.out.gg.cell 2 rfl
  have g1:=F1.out.gg.cell 3 rfl
  have x0:=F1.out.xx.cell 0 rfl
  have x1:=F1.out.xx.cell 1 rfl
  have x2:=F1.out.xx.cell 2 rfl
  have x3:=F1.out.xx.cell 3 rfl
  have hxl:=F1.out.xx.lt
  have G1:=Lib.hid (F1.out.below ((Below.refl w1.heap.size w1).alloc (Nat.le_refl _) (.cells #[.int .i64 21, .func (.func 150) #[] #[.pointer (some ⟨p7,0,none⟩)]] 281)))
  have R1:=Lib.hid (bx_new w1 [.int .i64 21, .func (.func 150) #[] #[.pointer (some ⟨p7,0,none⟩)]] 281)
  have HC1:=Lib.hid (HB1.out.trans ((But.of_below (S:= [b]) ((Below.refl w1.heap.size w1).alloc (Nat.le_refl _) (.cells #[.int .i64 21, .func (.func 150) #[] #[.pointer (some ⟨p7,0,none⟩)]] 281))).mono HB1.out.size (fun _ _ h=>h)))
  have hzr:(w1.alloc (.cells #[.int .i64 21, .func (.func 150) #[] #[.pointer (some ⟨p7,0,none⟩)]] 281)).heap.size=w1.heap.size+1:=by simp
  rw [rounds_succ]
  go_wp2_with (go_at_call 150;refine stop_here ?_)
  refine go_on ?_
  clear g0 g1 x0 x1 x2 x3
  refine(field2_any' x p7 nm _ G1.out.c7 (cells_lt G1.out.c7) hs2).mono ?_
  rw [E2.out]
  rintro e w2 ⟨rfl,hb⟩
  have HB2:=Lib.hid (HC1.out.trans ((But.of_below (S:= [b]) hb).mono (by have:=HC1.out.size;omega) (fun _ _ h=>h)))
  have F2:=Lib.hid (G1.out.below hb)
  have r0:=(R1.out.below hb (by omega)).cell 0 rfl
  have hz2:=hb.size
  clear hb
  cases v2 with
  |true=>
   go_wp2_with fail
   go_ret
   exact⟨rfl,HB2.out,F2.out.sm⟩
  |false=>
   go_wp2_with fail
   have g0:=F2.out.gg.cell 4 rfl
   have g1:=F2.out.gg.cell 5 rfl
   have x0:=F2.out.xx.cell 0 rfl
   have x1:=F2.out.xx.cell 1 rfl
   have x2:=F2.out.xx.cell 2 rfl
   have x3:=F2.out.xx.cell 3 rfl
   have hxl:=F2.out.xx.lt
   have G2:=Lib.hid (F2.out.below ((Below.refl w2.heap.size w2).alloc (Nat.le_refl _) (.cells #[.int .i64 22, .func (.func 152) #[] #[.pointer (some ⟨p9,0,none⟩)]] 281)))
   have R2:=Lib.hid (bx_new w2 [.int .i64 22, .func (.func 152) #[] #[.pointer (some ⟨p9,0,none⟩)]] 281)
   have HC2:=Lib.hid (HB2.out.trans ((But.of_below (S:= [b]) ((Below.refl w2.heap.size w2).alloc (Nat.le_refl _) (.cells #[.int .i64 22, .func (.func 152) #[] #[.pointer (some ⟨p9,0,none⟩)]] 281))).mono HB2.out.size (fun _ _ h=>h)))
   have hzr:(w2.alloc (.cells #[.int .i64 22, .func (.func 152) #[] #[.pointer (some ⟨p9,0,none⟩)]] 281)).heap.size=w2.heap.size+1:=by simp
   rw [rounds_succ]
   go_wp2_with (go_at_call 152;refine stop_here ?_)
   refine go_on ?_
   clear g0 g1 x0 x1 x2 x3
   refine(field3_any' x p9 d _ G2.out.c9 (cells_lt G2.out.c9) hs3).mono ?_
   rw [E3.out]
   rintro e w3 ⟨rfl,hb⟩
   have HB3:=Lib.hid (HC2.out.trans ((But.of_below (S:= [b]) hb).mono (by have:=HC2.out.size;omega) (fun _ _ h=>h)))
   have F3:=Lib.hid (G2.out.below hb)
   have r0:=(R2.out.below hb (by omega)).cell 0 rfl
   have hz3:=hb.size
   clear hb
   cases v3 with
   |true=>
    go_wp2_with fail
    go_ret
    exact⟨rfl,HB3.out,F3.out.sm⟩
   |false=>
    go_wp2_with fail
    have g0:=F3.out.gg.cell 6 rfl
    have g1:=F3.out.gg.cell 7 rfl
    have x0:=F3.out.xx.cell 0 rfl
    have x1:=F3.out.xx.cell 1 rfl
    have x2:=F3.out.xx.cell 2 rfl
    have x3:=F3.out.xx.cell 3 rfl
    have hxl:=F3.out.xx.lt
    have G3:=Lib.hid (F3.out.below ((Below.refl w3.heap.size w3).alloc (Nat.le_refl _) (.cells #[.int .i64 23, .func (.func 153) #[] #[.pointer (some ⟨bk,0,none⟩)]] 281)))
    have R3:=Lib.hid (bx_new w3 [.int .i64 23, .func (.func 153) #[] #[.pointer (some ⟨bk,0,none⟩)]] 281)
    have HC3:=Lib.hid (HB3.out.trans ((But.of_below (S:= [b]) ((Below.refl w3.heap.size w3).alloc (Nat.le_refl _) (.cells #[.int .i64 23, .func (.func 153) #[] #[.pointer (some ⟨bk,0,none⟩)]] 281))).mono HB3.out.size (fun _ _ h=>h)))
    have hzr:(w3.alloc (.cells #[.int .i64 23, .func (.func 153) #[] #[.pointer (some ⟨bk,0,none⟩)]] 281)).heap.size=w3.heap.size+1:=by simp
    rw [rounds_succ]
    go_wp2_with (go_at_call 153;refine stop_here ?_)
    refine go_on ?_
    clear g0 g1 x0 x1 x2 x3
    refine(field4_any' x bk c _ ifs flds mths _ G3.out.kk).mono ?_
    rw [E4.out]
    rintro e w4 ⟨rfl,hb⟩
    have HB4:=Lib.hid (HC3.out.trans ((But.of_below (S:= [b]) hb).mono (by have:=HC3.out.size;omega) (fun _ _ h=>h)))
    have F4:=Lib.hid (G3.out.below hb)
    have r0:=(R3.out.below hb (by omega)).cell 0 rfl
    have hz4:=hb.size
    clear hb
    cases v4 with
    |true=>
     go_wp2_with fail
     go_ret
     exact⟨rfl,HB4.out,F4.out.sm⟩
    |false=>
     go_wp2_with fail
     have g0:=F4.out.gg.cell 8 rfl
     have g1:=F4.out.gg.cell 9 rfl
     have x0:=F4.out.xx.cell 0 rfl
     have x1:=F4.out.xx.cell 1 rfl
     have x2:=F4.out.xx.cell 2 rfl
     have x3:=F4.out.xx.cell 3 rfl
     have hxl:=F4.out.xx.lt
     have G4:=Lib.hid (F4.out.below ((Below.refl w4.heap.size w4).alloc (Nat.le_refl _) (.cells #[.int .i64 24, .func (.func 155) #[] #[.pointer (some ⟨p5,0,none⟩), .pointer (some ⟨p7,0,none⟩), .pointer (some ⟨p9,0,none⟩)]] 281)))
     have R4:=Lib.hid (bx_new w4 [.int .i64 24, .func (.func 155) #[] #[.pointer (some ⟨p5,0,none⟩), .pointer (some ⟨p7,0,none⟩), .pointer (some ⟨p9,0,none⟩)]] 281)
     have HC4:=Lib.hid (HB4.out.trans ((But.of_below (S:= [b]) ((Below.refl w4.heap.size w4).alloc (Nat.le_refl _) (.cells #[.int .i64 24, .func (.func 155) #[] #[.pointer (some ⟨p5,0,none⟩), .pointer (some ⟨p7,0,none⟩), .pointer (some ⟨p9,0,none⟩)]] 281))).mono HB4.out.size (fun _ _ h=>h)))
     have hzr:(w4.alloc (.cells #[.int .i64 24, .func (.func 155) #[] #[.pointer (some ⟨p5,0,none⟩), .pointer (some ⟨p7,0,none⟩), .pointer (some ⟨p9,0,none⟩)]] 281)).heap.size=w4.heap.size+1:=by simp
     rw [rounds_succ]
     go_wp2_with (go_at_call 155;refine stop_here ?_)
     refine go_on ?_
     clear g0 g1 x0 x1 x2 x3
     refine(field5_any' x p5 p7 p9 b nm d seen _ G4.out.c5 G4.out.c7 G4.out.c9 (cells_lt G4.out.c5) (cells_lt G4.out.c7) (cells_lt G4.out.c9) hs2 hs3 hlen G4.out.sm).mono ?_
     rw [E5.out]
     rintro e w5 ⟨rfl,hb,hsm⟩
     have HB5:=Lib.hid (HC4.out.trans (hb.mono (by have:=HC4.out.size;omega) (fun _ _ h=>h)))
     have F5:=Lib.hid (G4.out.seen hb hsm)
     have r0:=(R4.out.but hb (ne_one (by have:=F4.out.sm.lt;omega))).cell 0 rfl
     have hz5:=hb.size
     clear hb hsm
     cases v5 with
     |true=>
      go_wp2_with fail
      go_ret
      exact⟨rfl,HB5.out,F5.out.sm⟩
     |false=>
      go_wp2_with fail
      have g0:=F5.out.gg.cell 10 rfl
      have g1:=F5.out.gg.cell 11 rfl
      have x0:=F5.out.xx.cell 0 rfl
      have x1:=F5.out.xx.cell 1 rfl
      have x2:=F5.out.xx.cell 2 rfl
      have x3:=F5.out.xx.cell 3 rfl
      have hxl:=F5.out.xx.lt
      have G5:=Lib.hid (F5.out.below ((Below.refl w5.heap.size w5).alloc (Nat.le_refl _) (.cells #[.int .i64 26, .func (.func 156) #[] #[.pointer (some ⟨bk,0,none⟩), .pointer (some ⟨p9,0,none⟩)]] 281)))
      have R5:=Lib.hid (bx_new w5 [.int .i64 26, .func (.func 156) #[] #[.pointer (some ⟨bk,0,none⟩), .pointer (some ⟨p9,0,none⟩)]] 281)
      have HC5:=Lib.hid (HB5.out.trans ((But.of_below (S:= [b]) ((Below.refl w5.heap.size w5).alloc (Nat.le_refl _) (.cells #[.int .i64 26, .func (.func 156) #[] #[.pointer (some ⟨bk,0,none⟩), .pointer (some ⟨p9,0,none⟩)]] 281))).mono HB5.out.size (fun _ _ h=>h)))
      have hzr:(w5.alloc (.cells #[.int .i64 26, .func (.func 156) #[] #[.pointer (some ⟨bk,0,none⟩), .pointer (some ⟨p9,0,none⟩)]] 281)).heap.size=w5.heap.size+1:=by simp
      rw [rounds_succ]
      go_wp2_with (go_at_call 156;refine stop_here ?_)
      refine go_on ?_
      clear g0 g1 x0 x1 x2 x3
      refine(field6_any' x bk p9 d c A cap ifs flds mths ok _ G5.out.bo G5.out.kk G5.out.c9 (cells_lt G5.out.c9) HN.out).mono ?_
      rw [E6.out]
      rintro e w6 ⟨rfl,hb⟩
      have HB6:=Lib.hid (HC5.out.trans ((But.of_below (S:= [b]) hb).mono (by have:=HC5.out.size;omega) (fun _ _ h=>h)))
      have F6:=Lib.hid (G5.out.below hb)
      have r0:=(R5.out.below hb (by omega)).cell 0 rfl
      have hz6:=hb.size
      clear hb
      cases v6 with
      |true=>
       go_wp2_with fail
       go_ret
       exact⟨rfl,HB6.out,F6.out.sm⟩
      |false=>
       go_wp2_with fail
       rw [rounds_succ]
       go_wp2_with fail
       go_ret
       exact⟨rfl,HB6.out,F6.out.sm⟩
def nmOf (pool:List Ko) (n d:Int):NmD:=(((textAt pool n).getD ⟨#[]⟩).data.toList,((textAt pool d).getD ⟨#[]⟩).data.toList)
def fldBad (pool:List Ko) (cacc:Int) (x:FieldV):Bool:=(!(textAt pool x.name).isSome|| !(textAt pool x.desc).isSome) || !memberB (nmOf pool x.name x.desc).1|| !fieldB (nmOf pool x.name x.desc).2||fldFlags cacc x.acc
def fldIn (pool:List Ko) (cacc:Int) (seen:List NmD) (x:FieldV):Int:=fldRes (!(textAt pool x.name).isSome|| !(textAt pool x.desc).isSome) (!memberB (nmOf pool x.name x.desc).1) (!fieldB (nmOf pool x.name x.desc).2) (fldFlags cacc x.acc) (decide (nmOf pool x.name x.desc∈seen)) (fldValue pool x (nmOf pool x.name x.desc).2)
theorem text_le {pool:List Ko} {n:Int} (ht: ∀k∈pool,k.text.size≤65536):((textAt pool n).getD ⟨#[]⟩).size≤65536:=by
 rcases h:textAt pool n with _|s
 ·exact Nat.zero_le _
 ·exact textAt_size h ht
theorem field_book (c:ClassV) (A:Option Addr) (cap:Nat) (ifs flds mths:Value) (ok:Nat→Prop) (x:FieldV) (b:Nat) (seen:List NmD) (w:World) (h:BookOk w ok c A cap ifs flds mths) (hs:SeenM w b seen) (hlen:seen.length≤1048576) (hn1:Fine x.name) (hn2:Fine x.desc) (hn3:Fine x.value) (ht: ∀k∈c.pool,k.text.size≤65536):
  Calls Tryz.prog 129 #[bookV c (.slice A c.pool.length cap) ifs flds mths,fieldV x, .map (some b)] w fun e w'=>
   e= .returned (.int .i64 (fldIn c.pool c.acc seen x))∧But w.heap.size [b] w w'∧SeenM w' b (if fldBad c.pool c.acc x then seen else nmOf c.pool x.name x.desc::seen):=by
 have hmf: ∀(fn:Fn) (first cap:Array Value) (w:World),(Instr.makeFunc fn first cap).run Tryz.prog w= .ok (.func fn first cap) w:=fun _ _ _ _=>rfl
 have BW0:=Lib.hid ((((Below.refl w.heap.size w).alloc (Nat.le_refl _) (.cells #[.int .i64 c.minor, .int .i64 c.major, .slice A c.pool.length cap, .int .i64 c.acc, .int .i64 c.this, .int .i64 c.sup,ifs,flds,mths] 248)).alloc (by simp) (.cells #[.int .i64 x.acc, .int .i64 x.name, .int .i64 x.desc, .int .i64 x.value] 168)).alloc (by simp<;>omega) (.cells #[.map (some b)] 261))
 have X0:=Lib.hid ((bx_new w [.int .i64 c.minor, .int .i64 c.major, .slice A c.pool.length cap, .int .i64 c.acc, .int .i64 c.this, .int .i64 c.sup,ifs,flds,mths] 248).below (((Below.refl _ _).alloc (Nat.le_refl _) (.cells #[.int .i64 x.acc, .int .i64 x.name, .int .i64 x.desc, .int .i64 x.value] 168)).alloc (by simp) (.cells #[.map (some b)] 261)) (by simp))
 have F0:=Lib.hid ((bx_new_at (w.alloc (.cells #[.int .i64 c.minor, .int .i64 c.major, .slice A c.pool.length cap, .int .i64 c.acc, .int .i64 c.this, .int .i64 c.sup,ifs,flds,mths] 248)) [.int .i64 x.acc, .int .i64 x.name, .int .i64 x.desc, .int .i64 x.value] 168 (w.heap.size+1) (by simp)).below ((Below.refl _ _).alloc (Nat.le_refl _) (.cells #[.map (some b)] 261)) (by simp))
 have C5:=Lib.hid (show CapB _ (w.heap.size+2) (.map (some b)) from(bx_new_at ((w.alloc (.cells #[.int .i64 c.minor, .int .i64 c.major, .slice A c.pool.length cap, .int .i64 c.acc, .int .i64 c.this, .int .i64 c.sup,ifs,flds,mths] 248)).alloc (.cells #[.int .i64 x.acc, .int .i64 x.name, .int .i64 x.desc, .int .i64 x.value] 168)) [.map (some b)] 261 (w.heap.size+2) (by simp)).cell 0 rfl)
 have H0:=Lib.hid (h.below BW0.out)
 have S0:=Lib.hid (hs.below BW0.out)
 have hbl:=hs.lt
 have HN1:=Lib.hid hn1
 have HN2:=Lib.hid hn2
 have HN3:=Lib.hid hn3
 have HT:=Lib.hid ht
 have hs2:=text_le (n:=x.name) ht
 have hs3:=text_le (n:=x.desc) ht
 clear h hs hn1 hn2 hn3 ht
 rw [bookV_open]
 unfold fieldV fldIn fldBad nmOf
 obtain⟨tn,htn⟩: ∃s,textAt c.pool x.name=s:=⟨_,rfl⟩
 obtain⟨td,htd⟩: ∃s,textAt c.pool x.desc=s:=⟨_,rfl⟩
 rw [htn] at hs2⊢
 rw [htd] at hs3⊢
 have HTD:=Lib.hid htd
 have HTN:=Lib.hid htn
 clear htn htd
 obtain⟨SN,hSN⟩: ∃s,(if(!tn.isSome|| !td.isSome) || !memberB (tn.getD ⟨#[]⟩).data.toList|| !fieldB (td.getD ⟨#[]⟩).data.toList||fldFlags c.acc x.acc then seen else((tn.getD ⟨#[]⟩).data.toList,(td.getD ⟨#[]⟩).data.toList)::seen)=s:=⟨_,rfl⟩
 rw [hSN]
 have HSN:=Lib.hid hSN
 clear hSN
 obtain⟨R,hR⟩: ∃r,fldRes (!tn.isSome|| !td.isSome) (!memberB (tn.getD ⟨#[]⟩).data.toList) (!fieldB (td.getD ⟨#[]⟩).data.toList) (fldFlags c.acc x.acc) (decide (((tn.getD ⟨#[]⟩).data.toList,(td.getD ⟨#[]⟩).data.toList)∈seen)) (fldValue c.pool x (td.getD ⟨#[]⟩).data.toList)=r:=⟨_,rfl⟩
 rw [hR]
 have HR:=Lib.hid hR
 clear hR
 have hz0:(((w.alloc (.cells #[.int .i64 c.minor, .int .i64 c.major, .slice A c.pool.length cap, .int .i64 c.acc, .int .i64 c.this, .int .i64 c.sup,ifs,flds,mths] 248)).alloc (.cells #[.int .i64 x.acc, .int .i64 x.name, .int .i64 x.desc, .int .i64 x.value] 168)).alloc (.cells #[.map (some b)] 261)).heap.size=w.heap.size+3:=by simp
 go_enter Tryz.func129,Tryz.ntmps129
 go_wp2_with (go_at_call 113;refine stop_here ?_)
 generalize (((w.alloc (.cells #[.int .i64 c.minor, .int .i64 c.major, .slice A c.pool.length cap, .int .i64 c.acc, .int .i64 c.this, .int .i64 c.sup,ifs,flds,mths] 248)).alloc (.cells #[.int .i64 x.acc, .int .i64 x.name, .int .i64 x.desc, .int .i64 x.value] 168)).alloc (.cells #[.map (some b)] 261))=w0 at*
 refine go_on ?_
 refine(text_book c A cap _ flds mths x.name ok _ H0.out HN1.out).mono ?_
 rw [HTN.out]
 rintro e w1 ⟨rfl,hb⟩
 simp only [optV]
 have hz1:=hb.size
 have B1:=Lib.hid (BW0.out.trans (hb.mono (by omega)))
 have X1:=Lib.hid (X0.out.below hb X0.out.lt)
 have F1:=Lib.hid (F0.out.below hb F0.out.lt)
 have C51:=Lib.hid (CapB.below C5.out hb)
 have H1:=Lib.hid (H0.out.below hb)
 have S1:=Lib.hid (S0.out.below hb)
 clear hb X0 F0 C5 H0 S0 BW0
 have c0:=X1.out.cell 0 rfl
 have c1:=X1.out.cell 1 rfl
 have c2:=X1.out.cell 2 rfl
 have c3:=X1.out.cell 3 rfl
 have c4:=X1.out.cell 4 rfl
 have c5:=X1.out.cell 5 rfl
 have c6:=X1.out.cell 6 rfl
 have c7:=X1.out.cell 7 rfl
 have c8:=X1.out.cell 8 rfl
 have f0:=F1.out.cell 0 rfl
 have f1:=F1.out.cell 1 rfl
 have f2:=F1.out.cell 2 rfl
 have f3:=F1.out.cell 3 rfl
 obtain⟨x1,x2,x3,x4,x5,x6,x7,x8,x9,x10,x11,x12⟩:=far w.heap.size w1.heap.size (by omega)
 obtain⟨y1,y2,y3,y4,y5,y6,y7,y8,y9,y10,y11,y12⟩:=far (w.heap.size+1) w1.heap.size (by omega)
 have BW1:=Lib.hid (((Below.refl w1.heap.size w1).alloc (Nat.le_refl _) (.cells #[.string (tn.getD ⟨#[]⟩)] 9)).alloc (by simp<;>omega) (.cells #[.bool tn.isSome] 4))
 have C7:=Lib.hid ((bx_new_at w1 [.string (tn.getD ⟨#[]⟩)] 9 _ rfl).below ((Below.refl _ _).alloc (Nat.le_refl _) (.cells #[.bool tn.isSome] 4)) (by simp<;>omega))
 have C8:=Lib.hid (bx_new_at (w1.alloc (.cells #[.string (tn.getD ⟨#[]⟩)] 9)) [.bool tn.isSome] 4 (w1.heap.size+1) (by simp))
 go_wp2_with (go_at_call 113;refine stop_here ?_)
 refine go_on ?_
 clear x1 x2 x3 x4 x5 x6 x7 x8 x9 x10 x11 x12 y1 y2 y3 y4 y5 y6 y7 y8 y9 y10 y11 y12 c0 c1 c2 c3 c4 c5 c6 c7 c8 f0 f1 f2 f3
 refine(text_book c A cap _ flds mths x.desc ok _ (H1.out.below BW1.out) HN2.out).mono ?_
 rw [HTD.out]
 rintro e w2 ⟨rfl,hb⟩
 simp only [optV]
 have hz2:=hb.size
 simp only [World.size_alloc] at hz2
 have hb':=BW1.out.trans (hb.mono (by simp<;>omega))
 have B2:=Lib.hid (B1.out.trans (hb'.mono (by omega)))
 have X2:=Lib.hid (X1.out.below hb' X1.out.lt)
 have F2:=Lib.hid (F1.out.below hb' F1.out.lt)
 have C52:=Lib.hid (CapB.below C51.out hb')
 have H2:=Lib.hid (H1.out.below hb')
 have S2:=Lib.hid (S1.out.below hb')
 have C72:=Lib.hid (C7.out.below hb (by simp<;>omega))
 have C82:=Lib.hid (C8.out.below hb (by simp<;>omega))
 clear hb hb' X1 F1 C51 H1 S1 BW1 B1 C7 C8 HTD HTN
 have c0:=X2.out.cell 0 rfl
 have c1:=X2.out.cell 1 rfl
 have c2:=X2.out.cell 2 rfl
 have c3:=X2.out.cell 3 rfl
 have c4:=X2.out.cell 4 rfl
 have c5:=X2.out.cell 5 rfl
 have c6:=X2.out.cell 6 rfl
 have c7:=X2.out.cell 7 rfl
 have c8:=X2.out.cell 8 rfl
 have f0:=F2.out.cell 0 rfl
 have f1:=F2.out.cell 1 rfl
 have f2:=F2.out.cell 2 rfl
 have f3:=F2.out.cell 3 rfl
 obtain⟨x1,x2,x3,x4,x5,x6,x7,x8,x9,x10,x11,x12⟩:=far w.heap.size w2.heap.size (by omega)
 obtain⟨y1,y2,y3,y4,y5,y6,y7,y8,y9,y10,y11,y12⟩:=far (w.heap.size+1) w2.heap.size (by omega)
 have BW2:=Lib.hid ((((Below.refl w2.heap.size w2).alloc (Nat.le_refl _) (.cells #[.string (td.getD ⟨#[]⟩)] 9)).alloc (by simp<;>omega) (.cells #[.bool td.isSome] 4)).alloc (by simp<;>omega) (.cells (fldRules w.heap.size (w.heap.size+2) w1.heap.size (w1.heap.size+1) w2.heap.size (w2.heap.size+1)).toArray 281))
 have C9:=Lib.hid (((bx_new_at w2 [.string (td.getD ⟨#[]⟩)] 9 _ rfl).below (((Below.refl _ _).alloc (Nat.le_refl _) (.cells #[.bool td.isSome] 4)).alloc (by simp<;>omega) (.cells (fldRules w.heap.size (w.heap.size+2) w1.heap.size (w1.heap.size+1) w2.heap.size (w2.heap.size+1)).toArray 281)) (by simp)))
 have C10:=Lib.hid ((bx_new_at (w2.alloc (.cells #[.string (td.getD ⟨#[]⟩)] 9)) [.bool td.isSome] 4 (w2.heap.size+1) (by simp)).below ((Below.refl _ _).alloc (Nat.le_refl _) (.cells (fldRules w.heap.size (w.heap.size+2) w1.heap.size (w1.heap.size+1) w2.heap.size (w2.heap.size+1)).toArray 281)) (by simp))
 have G2:=Lib.hid (bx_new_at ((w2.alloc (.cells #[.string (td.getD ⟨#[]⟩)] 9)).alloc (.cells #[.bool td.isSome] 4)) (fldRules w.heap.size (w.heap.size+2) w1.heap.size (w1.heap.size+1) w2.heap.size (w2.heap.size+1)) 281 (w2.heap.size+1+1) (by simp))
 have hz3:(((w2.alloc (.cells #[.string (td.getD ⟨#[]⟩)] 9)).alloc (.cells #[.bool td.isSome] 4)).alloc (.cells (fldRules w.heap.size (w.heap.size+2) w1.heap.size (w1.heap.size+1) w2.heap.size (w2.heap.size+1)).toArray 281)).heap.size=w2.heap.size+3:=by simp
 go_wp2_with (go_at_call 148;refine stop_here ?_)
 refine go_on ?_
 clear x1 x2 x3 x4 x5 x6 x7 x8 x9 x10 x11 x12 y1 y2 y3 y4 y5 y6 y7 y8 y9 y10 y11 y12 c0 c1 c2 c3 c4 c5 c6 c7 c8 f0 f1 f2 f3
 have HF:=FldW.mk (c:=c) (A:=A) (cap:=cap) (ifs:=ifs) (flds:=flds) (mths:=mths) (ok:=ok) (x:=x) (seen:=seen) G2.out (X2.out.below BW2.out X2.out.lt)
  (Bx.below F2.out (w':=_) BW2.out F2.out.lt) (CapB.below C52.out BW2.out) ((C72.out.below BW2.out C72.out.lt).cell 0 rfl) ((C82.out.below BW2.out C82.out.lt).cell 0 rfl) (C9.out.cell 0 rfl) (C10.out.cell 0 rfl) (H2.out.below BW2.out) (S2.out.below BW2.out)
 have HF2:=HF.below ((Below.refl _ _).alloc (Nat.le_refl _) (.cells #[.int .i64 x.acc, .int .i64 x.name, .int .i64 x.desc, .int .i64 x.value] 168))
 have HF3:=FldW.mk HF2.gg HF2.kk (bx_new _ [.int .i64 x.acc, .int .i64 x.name, .int .i64 x.desc, .int .i64 x.value] 168) HF2.c5 HF2.c7 HF2.c8 HF2.c9 HF2.c10 HF2.bo HF2.sm
 refine(first_field c A cap ifs flds mths ok _ w.heap.size (w.heap.size+2) w1.heap.size (w1.heap.size+1) w2.heap.size (w2.heap.size+1) b _ _ tn.isSome td.isSome x seen _ HF3 (by omega) hs2 hs3 hlen HN3.out).mono ?_
 rintro e w3 ⟨he,hb,hsm⟩
 have he:e= .returned (.int .i64 R):=he.trans (by rw [←HR.out])
 subst he
 have B3:=Lib.hid ((But.of_below (S:= [b]) (B2.out.trans (BW2.out.mono (by omega)))).trans (hb.mono (by omega) (fun _ _ h=>h)))
 have S3:=Lib.hid (show SeenM w3 b SN by rw [←HSN.out];exact hsm)
 clear hb hsm HF HF2 HF3
 go_wp2_with fail
 go_ret
 exact⟨rfl,B3.out,S3.out⟩
end Go.Proofs.YtpbnjakeielipaaGreatDoor
set_option maxHeartbeats 2000000
namespace Go.Proofs.YtpbnjakeielipaaGreatDoor
open Go Go.RowKit Lib Go.Maps
theorem meth1_any (x:MethV) (cv tv:Value) (p1 p2:Nat) (b1 b2:Bool) (w:World) (h1:CapB w p1 (.bool b1)) (h2:CapB w p2 (.bool b2)) (l1:p1<w.heap.size) (l2:p2<w.heap.size):
  Calls Tryz.prog 159 #[methV x cv tv, .pointer (some ⟨p1,0,none⟩), .pointer (some ⟨p2,0,none⟩)] w fun e w'=>e= .returned (.bool (!b1|| !b2))∧Below w.heap.size w w':=by
 have k1:=h1.alloc l1 (.cells #[.int .i64 x.acc, .int .i64 x.name, .int .i64 x.desc, .bool x.has, .int .i64 x.stack, .int .i64 x.locals,cv,tv] 172)
 have k2:=h2.alloc l2 (.cells #[.int .i64 x.acc, .int .i64 x.name, .int .i64 x.desc, .bool x.has, .int .i64 x.stack, .int .i64 x.locals,cv,tv] 172)
 have HW:=Lib.hid ((Below.refl w.heap.size w).alloc (Nat.le_refl _) (.cells #[.int .i64 x.acc, .int .i64 x.name, .int .i64 x.desc, .bool x.has, .int .i64 x.stack, .int .i64 x.locals,cv,tv] 172))
 unfold methV
 cases b1<;>cases b2
 all_goals
  go_enter Tryz.func159,Tryz.ntmps159
  go_wp2_with fail
  go_ret
  exact⟨rfl,HW.out⟩
theorem meth2_any (x:MethV) (cv tv:Value) (p1:Nat) (s:ByteArray) (w:World) (h1:CapB w p1 (.string s)) (l1:p1<w.heap.size) (hs:s.size≤65536):
  Calls Tryz.prog 160 #[methV x cv tv, .pointer (some ⟨p1,0,none⟩)] w fun e w'=>e= .returned (.bool (!methodNB s.data.toList))∧Below w.heap.size w w':=by
 have k1:=h1.alloc l1 (.cells #[.int .i64 x.acc, .int .i64 x.name, .int .i64 x.desc, .bool x.has, .int .i64 x.stack, .int .i64 x.locals,cv,tv] 172)
 have HW:=Lib.hid ((Below.refl w.heap.size w).alloc (Nat.le_refl _) (.cells #[.int .i64 x.acc, .int .i64 x.name, .int .i64 x.desc, .bool x.has, .int .i64 x.stack, .int .i64 x.locals,cv,tv] 172))
 have C:=Lib.hid (fun W=>dmethod_any s W (by omega))
 unfold methV
 go_enter Tryz.func160,Tryz.ntmps160
 go_wp2_with (go_at_call 138;refine(C.out _).mono ?_;rintro e w1 ⟨rfl,hb⟩;have HB:=Lib.hid (HW.out.trans (hb.mono (by simp)));clear hb)
 go_ret
 exact⟨rfl,HB.out⟩
theorem meth3_any (x:MethV) (cv tv:Value) (p1:Nat) (b1:Bool) (w:World) (h1:CapB w p1 (.bool b1)) (l1:p1<w.heap.size):
  Calls Tryz.prog 161 #[methV x cv tv, .pointer (some ⟨p1,0,none⟩)] w fun e w'=>e= .returned (.bool (!b1))∧Below w.heap.size w w':=by
 have k1:=h1.alloc l1 (.cells #[.int .i64 x.acc, .int .i64 x.name, .int .i64 x.desc, .bool x.has, .int .i64 x.stack, .int .i64 x.locals,cv,tv] 172)
 have HW:=Lib.hid ((Below.refl w.heap.size w).alloc (Nat.le_refl _) (.cells #[.int .i64 x.acc, .int .i64 x.name, .int .i64 x.desc, .bool x.has, .int .i64 x.stack, .int .i64 x.locals,cv,tv] 172))
 unfold methV
 cases b1
 all_goals
  go_enter Tryz.func161,Tryz.ntmps161
  go_wp2_with fail
  go_ret
  exact⟨rfl,HW.out⟩
def mthRet (nm ret d:List UInt8):Bool:=(nm==initL&& !(ret== [86])) || (nm==clinitL&& !(d== [40,41,86]))
theorem meth5_any (x:MethV) (cv tv:Value) (p1 p2 p3:Nat) (nm ret d:ByteArray) (w:World) (h1:CapB w p1 (.string nm)) (h2:CapB w p2 (.string ret)) (h3:CapB w p3 (.string d)) (l1:p1<w.heap.size) (l2:p2<w.heap.size) (l3:p3<w.heap.size):
  Calls Tryz.prog 164 #[methV x cv tv, .pointer (some ⟨p1,0,none⟩), .pointer (some ⟨p2,0,none⟩), .pointer (some ⟨p3,0,none⟩)] w fun e w'=>e= .returned (.bool (mthRet nm.data.toList ret.data.toList d.data.toList))∧Below w.heap.size w w':=by
 have k1:=h1.alloc l1 (.cells #[.int .i64 x.acc, .int .i64 x.name, .int .i64 x.desc, .bool x.has, .int .i64 x.stack, .int .i64 x.locals,cv,tv] 172)
 have k2:=h2.alloc l2 (.cells #[.int .i64 x.acc, .int .i64 x.name, .int .i64 x.desc, .bool x.has, .int .i64 x.stack, .int .i64 x.locals,cv,tv] 172)
 have k3:=h3.alloc l3 (.cells #[.int .i64 x.acc, .int .i64 x.name, .int .i64 x.desc, .bool x.has, .int .i64 x.stack, .int .i64 x.locals,cv,tv] 172)
 have HW:=Lib.hid ((Below.refl w.heap.size w).alloc (Nat.le_refl _) (.cells #[.int .i64 x.acc, .int .i64 x.name, .int .i64 x.desc, .bool x.has, .int .i64 x.stack, .int .i64 x.locals,cv,tv] 172))
 obtain⟨b1,hb1⟩: ∃m,m=(nm.data.toList==initL):=⟨_,rfl⟩
 obtain⟨b2,hb2⟩: ∃m,m=(nm.data.toList==clinitL):=⟨_,rfl⟩
 obtain⟨b3,hb3⟩: ∃m,m=(ret.data.toList== [86]):=⟨_,rfl⟩
 obtain⟨b4,hb4⟩: ∃m,m=(d.data.toList== [40,41,86]):=⟨_,rfl⟩
 have e1:(nm.toList== [60,105,110,105,116,62])=b1:=by rw [ByteArray.toList_eq,hb1];rfl
 have e2:(nm.toList== [60,99,108,105,110,105,116,62])=b2:=by rw [ByteArray.toList_eq,hb2];rfl
 have e3:(ret.toList== [86])=b3:=by rw [ByteArray.toList_eq,hb3]
 have e4:(d.toList== [40,41,86])=b4:=by rw [ByteArray.toList_eq,hb4]
 have HR:=Lib.hid (show mthRet nm.data.toList ret.data.toList d.data.toList=((b1&& !b3) || (b2&& !b4)) by unfold mthRet;rw [hb1,hb2,hb3,hb4])
 rw [HR.out]
 clear hb1 hb2 hb3 hb4 HR h1 h2 h3
 unfold methV
 cases b1<;>cases b2<;>cases b3<;>cases b4
 all_goals
  go_enter Tryz.func164,Tryz.ntmps164
  go_wp2_with fail
  go_ret
  exact⟨by simp,HW.out⟩
theorem meth6_any (x:MethV) (cv tv:Value) (p1 p2 p3 b:Nat) (nm d:ByteArray) (seen:List NmD) (w:World) (h1:CapB w p1 (.map (some b))) (h2:CapB w p2 (.string nm)) (h3:CapB w p3 (.string d)) (l1:p1<w.heap.size) (l2:p2<w.heap.size) (l3:p3<w.heap.size) (hs2:nm.size≤65536) (hs3:d.size≤65536) (hlen:seen.length≤1048576) (hS:SeenM w b seen):
  Calls Tryz.prog 165 #[methV x cv tv, .pointer (some ⟨p1,0,none⟩), .pointer (some ⟨p2,0,none⟩), .pointer (some ⟨p3,0,none⟩)] w fun e w'=>e= .returned (.bool (decide ((nm.data.toList,d.data.toList)∈seen)))∧But w.heap.size [b] w w'∧SeenM w' b ((nm.data.toList,d.data.toList)::seen):=by
 obtain⟨es,clock,hm,hg⟩:=hS
 have lb:b<w.heap.size:=(Array.getElem?_eq_some_iff.1 hm).1
 have HW:=Lib.hid ((Below.refl w.heap.size w).alloc (Nat.le_refl _) (.cells #[.int .i64 x.acc, .int .i64 x.name, .int .i64 x.desc, .bool x.has, .int .i64 x.stack, .int .i64 x.locals,cv,tv] 172))
 have k1:=(h1.alloc l1 (.cells #[.int .i64 x.acc, .int .i64 x.name, .int .i64 x.desc, .bool x.has, .int .i64 x.stack, .int .i64 x.locals,cv,tv] 172))
 have k2:=(h2.alloc l2 (.cells #[.int .i64 x.acc, .int .i64 x.name, .int .i64 x.desc, .bool x.has, .int .i64 x.stack, .int .i64 x.locals,cv,tv] 172))
 have k3:=(h3.alloc l3 (.cells #[.int .i64 x.acc, .int .i64 x.name, .int .i64 x.desc, .bool x.has, .int .i64 x.stack, .int .i64 x.locals,cv,tv] 172))
 have hm0:(w.alloc (.cells #[.int .i64 x.acc, .int .i64 x.name, .int .i64 x.desc, .bool x.has, .int .i64 x.stack, .int .i64 x.locals,cv,tv] 172)).heap[b]?=some (.map es clock):=(Below.heap_alloc _ _ _ lb).trans hm
 obtain⟨q,hq⟩: ∃q:NmD,q=(nm.data.toList,d.data.toList):=⟨_,rfl⟩
 have hkv:keyV q= .agg #[.string nm, .string d]:=by rw [hq];rfl
 have hsq:SmallK q:=by rw [hq];exact⟨Nat.le_trans (Nat.le_of_eq Array.length_toList) hs2,Nat.le_trans (Nat.le_of_eq Array.length_toList) hs3⟩
 rw [←hq]
 obtain⟨n,hn⟩: ∃n,seen.count q=n:=⟨_,rfl⟩
 have hn0:q∉seen→n=0:=fun h=>by rw [←hn];exact List.count_eq_zero.2 h
 have hnl:n≤1048576:=by rw [←hn];exact Nat.le_trans List.count_le_length hlen
 have hdec:decide (q∈seen)=decide (1<n+1):=by
  by_cases hin:q∈seen
  ·have:0<seen.count q:=List.count_pos_iff.2 hin
   rw [decide_eq_true hin,decide_eq_true (by omega)]
  ·have:=hn0 hin
   rw [decide_eq_false hin,decide_eq_false (by omega)]
 have HG:=Lib.hid hg
 have HD:=Lib.hid hdec
 have HKV:=Lib.hid hkv
 clear hg h1 h2 h3 hm hdec
 unfold methV
 go_enter Tryz.func165,Tryz.ntmps165
 go_wp2_with fail
 have hbx:=HW.out.size
 have hld:Below (w.alloc (.cells #[.int .i64 x.acc, .int .i64 x.name, .int .i64 x.desc, .bool x.has, .int .i64 x.stack, .int .i64 x.locals,cv,tv] 172)).heap.size (w.alloc (.cells #[.int .i64 x.acc, .int .i64 x.name, .int .i64 x.desc, .bool x.has, .int .i64 x.stack, .int .i64 x.locals,cv,tv] 172)) (w.alloc (.cells #[.int .i64 x.acc, .int .i64 x.name, .int .i64 x.desc, .bool x.has, .int .i64 x.stack, .int .i64 x.locals,cv,tv] 172)).drew:=(Below.refl _ _).drew
 refine wp_region_held_drew (S:=fun w'=>w'.cell? ⟨p1,0,none⟩=some (.map (some b))∧w'.cell? ⟨p2,0,none⟩=some (.string nm)∧w'.cell? ⟨p3,0,none⟩=some (.string d)) rfl ⟨k1,k2,k3⟩ (fun hS=> ?_)
 have HWD:=Lib.hid (HW.out.trans (hld.mono (by simp)))
 have hmd:(w.alloc (.cells #[.int .i64 x.acc, .int .i64 x.name, .int .i64 x.desc, .bool x.has, .int .i64 x.stack, .int .i64 x.locals,cv,tv] 172)).drew.heap[b]?=some (.map es clock):=hm0
 have hzd:(w.alloc (.cells #[.int .i64 x.acc, .int .i64 x.name, .int .i64 x.desc, .bool x.has, .int .i64 x.stack, .int .i64 x.locals,cv,tv] 172)).drew.heap.size=w.heap.size+1:=by show(w.alloc _).heap.size=_;simp
 clear hm0 hld hbx HW k1 k2 k3
 generalize (w.alloc (.cells #[.int .i64 x.acc, .int .i64 x.name, .int .i64 x.desc, .bool x.has, .int .i64 x.stack, .int .i64 x.locals,cv,tv] 172)).drew=wa at*
 have hlk:=look_seen hmd HG.out q hsq (fun h=>by show seen.count q=0;exact List.count_eq_zero.2 h)
 obtain⟨es1,clock1,born,hen,hg1,hat⟩:=entry_seen hmd HG.out q hsq (fun h=>by show seen.count q=0;exact List.count_eq_zero.2 h)
 simp only [hn] at hlk hen
 have hm1:(wa.putObj b (.map es1 clock1)).heap[b]?=some (.map es1 clock1):=World.putObj_heap_same (by omega)
 have hlk1:=look_seen hm1 hg1 q hsq (fun h=>absurd (by simp) h)
 simp only [hn] at hlk1
 obtain⟨es2,hst,hg2⟩:=store_seen hm1 hg1 q born (n+1) (by simp) hat (fun x=> (q::seen).count x) (by simp [hn]) (fun x hx=>by rw [List.count_cons_of_ne (fun e=>hx e.symm)])
 have hm2:((wa.putObj b (.map es1 clock1)).putObj b (.map es2 clock1)).heap[b]?=some (.map es2 clock1):=World.putObj_heap_same (by simp;omega)
 have hlk2:=look_seen hm2 hg2 q hsq (fun h=>absurd (by simp) h)
 simp only [List.count_cons_self,hn] at hlk2
 rw [show((n+1:Nat):Int)=(n:Int)+1 from rfl] at hlk2 hst
 have gr1:=grownBy_putObj' wa b (.map es1 clock1)
 have gr2:=grownBy_putObj' (wa.putObj b (.map es1 clock1)) b (.map es2 clock1)
 have nc1: ∀r,some b=some r→ ∃o:Obj,wa.heap[r]?=some o∧o.isCells=false:=fun r e=>by cases e;exact⟨_,hmd,rfl⟩
 have nc2: ∀r,some b=some r→ ∃o:Obj,(wa.putObj b (.map es1 clock1)).heap[r]?=some o∧o.isCells=false:=fun r e=>by cases e;exact⟨_,hm1,rfl⟩
 have hS1:=And.intro (cell_kept hS.1 gr1 nc1) (And.intro (cell_kept hS.2.1 gr1 nc1) (cell_kept hS.2.2 gr1 nc1))
 have hS2:=And.intro (cell_kept hS1.1 gr2 nc2) (And.intro (cell_kept hS1.2.1 gr2 nc2) (cell_kept hS1.2.2 gr2 nc2))
 have HB2:=Lib.hid (show But w.heap.size [b] w ((wa.putObj b (.map es1 clock1)).putObj b (.map es2 clock1)) from((But.of_below (S:= [b]) HWD.out).grown gr1 (by omega) (fun k hk=> .inl (by injection hk with hk;simp [hk]))).grown gr2 (by simp;omega) (fun k hk=> .inl (by injection hk with hk;simp [hk])))
 have HM2:=Lib.hid (show SeenM ((wa.putObj b (.map es1 clock1)).putObj b (.map es2 clock1)) b (q::seen) from⟨es2,clock1,hm2,hg2⟩)
 rw [hkv] at hlk hen hlk1 hlk2
 clear hm1 hm2 gr1 gr2 nc1 nc2 hg1 hg2 hat hmd
 generalize wa.putObj b (.map es1 clock1)=wb at*
 generalize wb.putObj b (.map es2 clock1)=wc at*
 refine wpAnyH_take (i:=0) (oi:={ dst:=some 6,op:=Op.load 261 (Operand.tmp 1),type:=261,pos:= "check.go:251",after:= #[],guard:=none }) (v:= .map (some b)) rfl (by kernel_rfl) (by kernel_rfl) (by kernel_rfl) (fun _ _ _ h=>h) (Or.inl ⟨by rfl,fun w' hw'=> ?_⟩) hS ?_
 ·obtain⟨z1,z2,z3⟩:=hw'
  go_simp
 try simp only [Act.put,List.setIfInBounds_toArray,List.set_cons_zero,List.set_cons_succ]
 refine wpAnyH_take (i:=1) (oi:={ dst:=some 7,op:=Op.load 9 (Operand.tmp 2),type:=9,pos:= "check.go:251",after:= #[],guard:=none }) (v:= .string nm) rfl (by kernel_rfl) (by kernel_rfl) (by kernel_rfl) (fun _ _ _ h=>h) (Or.inl ⟨by rfl,fun w' hw'=> ?_⟩) hS ?_
 ·obtain⟨z1,z2,z3⟩:=hw'
  go_simp
 try simp only [Act.put,List.setIfInBounds_toArray,List.set_cons_zero,List.set_cons_succ]
 refine wpAnyH_take (i:=2) (oi:={ dst:=some 8,op:=Op.load 9 (Operand.tmp 3),type:=9,pos:= "check.go:251",after:= #[],guard:=none }) (v:= .string d) rfl (by kernel_rfl) (by kernel_rfl) (by kernel_rfl) (fun _ _ _ h=>h) (Or.inl ⟨by rfl,fun w' hw'=> ?_⟩) hS ?_
 ·obtain⟨z1,z2,z3⟩:=hw'
  go_simp
 try simp only [Act.put,List.setIfInBounds_toArray,List.set_cons_zero,List.set_cons_succ]
 refine wpAnyH_take (i:=3) (v:= .agg #[.string nm, .string d]) rfl (by kernel_rfl) (by kernel_rfl) (by kernel_rfl) (fun _ _ _ h=>h) (Or.inl ⟨by rfl,fun w' hw'=> ?_⟩) hS ?_
 ·go_simp
 try simp only [Act.put,List.setIfInBounds_toArray,List.set_cons_zero,List.set_cons_succ]
 refine wpAnyH_ready (rs:= [4,6]) (by kernel_rfl) (by simp) ?_
 refine AllReadyH.cons rfl (fun K hK=> ?_) (AllReadyH.cons rfl (fun K hK=> ?_) AllReadyH.nil)
 ·refine if_yes (by rfl) ?_
  go_wp2
  refine hK.out _ _ hS (fun _=> ?_)
  clear hK K
  try simp only [Act.put,List.setIfInBounds_toArray,List.set_cons_zero,List.set_cons_succ]
  refine wpAnyH_take (i:=5) (v:= .int .i64 ((n:Int)+1)) rfl (by kernel_rfl) (by kernel_rfl) (by kernel_rfl) (fun _ _ _ h=>h) (Or.inl ⟨by rfl,fun w' hw'=> ?_⟩) hS ?_
  ·go_simp
   try exact wrap_small n hnl
  try simp only [Act.put,List.setIfInBounds_toArray,List.set_cons_zero,List.set_cons_succ]
  refine wpAnyH_ready (rs:= [6]) (by kernel_rfl) (by simp) ?_
  refine AllReadyH.cons rfl (fun K hK=> ?_) AllReadyH.nil
  refine if_yes (by rfl) ?_
  go_wp2
  refine hK.out _ _ hS1 (fun _=> ?_)
  clear hK K
  try simp only [Act.put,List.setIfInBounds_toArray,List.set_cons_zero,List.set_cons_succ]
  refine wpAnyH_take (i:=7) (v:= .int .i64 (born:Nat)) rfl (by kernel_rfl) (by kernel_rfl) (by kernel_rfl) (fun _ _ _ h=>h) (Or.inl ⟨by rfl,fun w' hw'=> ?_⟩) hS1 ?_
  ·go_simp
  try simp only [Act.put,List.setIfInBounds_toArray,List.set_cons_zero,List.set_cons_succ]
  refine wpAnyH_ready (rs:= [8]) (by kernel_rfl) (by simp) ?_
  refine AllReadyH.cons rfl (fun K hK=> ?_) AllReadyH.nil
  refine if_yes (by rfl) ?_
  go_wp2
  refine hK.out _ _ hS2 (fun _=> ?_)
  clear hK K
  try simp only [Act.put,List.setIfInBounds_toArray,List.set_cons_zero,List.set_cons_succ]
  refine wpAnyH_done (by kernel_rfl) ?_ _
  obtain⟨z1,z2,z3⟩:=hS2
  have hgt:decide ((n:Int)+1>1)=decide (1<n+1):=by
   by_cases h:1<n+1
   ·rw [decide_eq_true h,decide_eq_true (by omega)]
   ·rw [decide_eq_false h,decide_eq_false (by omega)]
  go_wp2
  go_ret
  exact⟨by rw [HD.out];simp,HB2.out,HM2.out⟩
 ·refine if_yes (by rfl) ?_
  go_wp2
  refine hK.out _ _ hS1 (fun _=> ?_)
  clear hK K
  try simp only [Act.put,List.setIfInBounds_toArray,List.set_cons_zero,List.set_cons_succ]
  refine wpAnyH_take (i:=7) (v:= .int .i64 (born:Nat)) rfl (by kernel_rfl) (by kernel_rfl) (by kernel_rfl) (fun _ _ _ h=>h) (Or.inl ⟨by rfl,fun w' hw'=> ?_⟩) hS1 ?_
  ·go_simp
  try simp only [Act.put,List.setIfInBounds_toArray,List.set_cons_zero,List.set_cons_succ]
  refine wpAnyH_ready (rs:= [4]) (by kernel_rfl) (by simp) ?_
  refine AllReadyH.cons rfl (fun K hK=> ?_) AllReadyH.nil
  refine if_yes (by rfl) ?_
  go_wp2
  refine hK.out _ _ hS1 (fun _=> ?_)
  clear hK K
  try simp only [Act.put,List.setIfInBounds_toArray,List.set_cons_zero,List.set_cons_succ]
  refine wpAnyH_take (i:=5) (v:= .int .i64 ((n:Int)+1)) rfl (by kernel_rfl) (by kernel_rfl) (by kernel_rfl) (fun _ _ _ h=>h) (Or.inl ⟨by rfl,fun w' hw'=> ?_⟩) hS1 ?_
  ·go_simp
   try exact wrap_small n hnl
  try simp only [Act.put,List.setIfInBounds_toArray,List.set_cons_zero,List.set_cons_succ]
  refine wpAnyH_ready (rs:= [8]) (by kernel_rfl) (by simp) ?_
  refine AllReadyH.cons rfl (fun K hK=> ?_) AllReadyH.nil
  refine if_yes (by rfl) ?_
  go_wp2
  refine hK.out _ _ hS2 (fun _=> ?_)
  clear hK K
  try simp only [Act.put,List.setIfInBounds_toArray,List.set_cons_zero,List.set_cons_succ]
  refine wpAnyH_done (by kernel_rfl) ?_ _
  obtain⟨z1,z2,z3⟩:=hS2
  have hgt:decide ((n:Int)+1>1)=decide (1<n+1):=by
   by_cases h:1<n+1
   ·rw [decide_eq_true h,decide_eq_true (by omega)]
   ·rw [decide_eq_false h,decide_eq_false (by omega)]
  go_wp2
  go_ret
  exact⟨by rw [HD.out];simp,HB2.out,HM2.out⟩
end Go.Proofs.YtpbnjakeielipaaGreatDoor
