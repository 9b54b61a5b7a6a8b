/-
  What the laws rest on, part 7: walks of the program's functions and plain laws. Conditions: none but those that each theorem names.
-/
import Derived.Test.YtlcidkiplidamaaGreatDoorR06
import Derived.Laws.EntriesVeiled
import Derived.Test.YtlcidkiplidamaaGreatDoorR00
set_option linter.unusedSimpArgs false
set_option linter.unusedVariables false
set_option maxRecDepth 100000
set_option maxHeartbeats 2000000
namespace Go.Proofs.YtlcidkiplidamaaGreatDoor
open Go Go.RowKit Lib
def rulesV (bk bs:Nat):List Value:= [.int .i64 20, .func (.func 84) #[] #[], .int .i64 20, .func (.func 86) #[] #[], .int .i64 23, .func (.func 87) #[] #[.pointer (some ⟨bk,0,none⟩), .pointer (some ⟨bs,0,none⟩)]]
def rulesE (b1 b2 b3:Bool):Int:=if b1 then 20 else if b2 then 20 else if b3 then 23 else 0
theorem first_book (c:ClassV) (A:Option Addr) (cap:Nat) (ifs flds mths:Value) (ok:Nat→Prop) (w:World) (h:BookOk w ok c A cap ifs flds mths) (hn1:Fine c.this) (hn2:Fine c.sup) (g bk bs:Nat) (sup:Option ByteArray) (t:TypeId) (hg:Bx w g (rulesV bk bs) t) (hk:w.cell? ⟨bk,0,none⟩=some (.bool sup.isSome)) (hs:w.cell? ⟨bs,0,none⟩=some (.string (sup.getD ⟨#[]⟩))) (hbk:bk<w.heap.size) (hbs:bs<w.heap.size):
  Calls Tryz.prog 83 #[bookV c (.slice A c.pool.length cap) ifs flds mths, .slice (some ⟨g,0,none⟩) 3 3] w fun e w'=>
   e= .returned (.int .i64 (rulesE (missB c.pool c.this) (missB c.pool c.sup) (headBad c.acc sup)))∧Below w.heap.size w w':=by
 have HW:=Lib.hid ((Below.refl w.heap.size w).alloc (Nat.le_refl _) (.cells #[.int .i64 c.minor, .int .i64 c.major, .slice A c.pool.length cap, .int .i64 c.acc, .int .i64 c.this, .int .i64 c.sup,ifs,flds,mths] 94))
 have X0:=Lib.hid (bx_new w [.int .i64 c.minor, .int .i64 c.major, .slice A c.pool.length cap, .int .i64 c.acc, .int .i64 c.this, .int .i64 c.sup,ifs,flds,mths] 94)
 have H0:=Lib.hid (h.below ((Below.refl _ _).alloc (Nat.le_refl _) (.cells #[.int .i64 c.minor, .int .i64 c.major, .slice A c.pool.length cap, .int .i64 c.acc, .int .i64 c.this, .int .i64 c.sup,ifs,flds,mths] 94)))
 have G0:=Lib.hid (hg.below ((Below.refl _ _).alloc (Nat.le_refl _) (.cells #[.int .i64 c.minor, .int .i64 c.major, .slice A c.pool.length cap, .int .i64 c.acc, .int .i64 c.this, .int .i64 c.sup,ifs,flds,mths] 94)) hg.lt)
 have HK0:=Lib.hid ((World.cell?_alloc_lt w (.cells #[.int .i64 c.minor, .int .i64 c.major, .slice A c.pool.length cap, .int .i64 c.acc, .int .i64 c.this, .int .i64 c.sup,ifs,flds,mths] 94) ⟨bk,0,none⟩ hbk).trans hk)
 have HS0:=Lib.hid ((World.cell?_alloc_lt w (.cells #[.int .i64 c.minor, .int .i64 c.major, .slice A c.pool.length cap, .int .i64 c.acc, .int .i64 c.this, .int .i64 c.sup,ifs,flds,mths] 94) ⟨bs,0,none⟩ hbs).trans hs)
 have HN1:=Lib.hid hn1
 have HN2:=Lib.hid hn2
 have hgl:=hg.lt
 obtain⟨v1,hv1⟩: ∃b,(missB c.pool c.this)=b:=⟨_,rfl⟩
 obtain⟨v2,hv2⟩: ∃b,(missB c.pool c.sup)=b:=⟨_,rfl⟩
 obtain⟨v3,hv3⟩: ∃b,headBad c.acc sup=b:=⟨_,rfl⟩
 rw [hv1,hv2,hv3]
 have HV1:=Lib.hid hv1
 have HV2:=Lib.hid hv2
 have HV3:=Lib.hid hv3
 clear h hg hk hs hn1 hn2 hv1 hv2 hv3
 rw [bookV_open]
 go_enter Tryz.func83,Tryz.ntmps83
 go_wp2_with fail
 refine wp_loop_rounds 4 ?_
 have g0:=G0.out.cell 0 rfl
 have g1:=G0.out.cell 1 rfl
 have c0:=X0.out.cell 0 rfl
 have c1:=X0.out.cell 1 rfl
 have c2:=X0.out.cell 2 rfl
 have c3:=X0.out.cell 3 rfl
 have c4:=X0.out.cell 4 rfl
 have c5:=X0.out.cell 5 rfl
 have c6:=X0.out.cell 6 rfl
 have c7:=X0.out.cell 7 rfl
 have c8:=X0.out.cell 8 rfl
 rw [rounds_succ]
 go_wp2_with (go_at_call 84;refine stop_here ?_)
 refine go_on ?_
 refine(head1_any c A cap ifs flds mths ok _ (H0.out.below ((Below.refl _ _).alloc (Nat.le_refl _) _)) HN1.out).mono ?_
 rw [HV1.out]
 rintro e w1 ⟨rfl,hb⟩
 have hz1:=hb.size
 simp at hz1
 have HW1:=Lib.hid ((HW.out.alloc (by first| (simp;done) | (simp;omega) |omega) _).trans (hb.mono (by first| (simp;done) | (simp;omega) |omega)))
 have X1:=Lib.hid ((X0.out.below ((Below.refl _ _).alloc (Nat.le_refl _) _) X0.out.lt).below hb (by first| (simp;done) | (simp;omega) |omega))
 have G1:=Lib.hid ((G0.out.below ((Below.refl _ _).alloc (Nat.le_refl _) _) G0.out.lt).below hb (by first| (simp;done) | (simp;omega) |omega))
 have H1:=Lib.hid ((H0.out.below ((Below.refl _ _).alloc (Nat.le_refl _) _)).below hb)
 have HK1:=Lib.hid ((hb.cell (p:=⟨bk,0,none⟩) (by simp;omega)).trans ((World.cell?_alloc_lt _ _ _ (by simp;omega)).trans HK0.out))
 have HS1:=Lib.hid ((hb.cell (p:=⟨bs,0,none⟩) (by simp;omega)).trans ((World.cell?_alloc_lt _ _ _ (by simp;omega)).trans HS0.out))
 have R1:=Lib.hid ((bx_new_at (w.alloc (.cells #[.int .i64 c.minor, .int .i64 c.major, .slice A c.pool.length cap, .int .i64 c.acc, .int .i64 c.this, .int .i64 c.sup,ifs,flds,mths] 94)) [.int .i64 20, .func (.func 84) #[] #[]] 149 (w.heap.size+1) (by simp)).below hb (by first| (simp;done) | (simp;omega) |omega))
 have r0:=R1.out.cell 0 rfl
 clear hb c0 c1 c2 c3 c4 c5 c6 c7 c8 g0 g1
 cases v1 with
 |true=>
  go_wp2_with fail
  go_ret
  exact⟨rfl,HW1.out⟩
 |false=>
  go_wp2_with fail
  have g2:=G1.out.cell 2 rfl
  have g3:=G1.out.cell 3 rfl
  have c0:=X1.out.cell 0 rfl
  have c1:=X1.out.cell 1 rfl
  have c2:=X1.out.cell 2 rfl
  have c3:=X1.out.cell 3 rfl
  have c4:=X1.out.cell 4 rfl
  have c5:=X1.out.cell 5 rfl
  have c6:=X1.out.cell 6 rfl
  have c7:=X1.out.cell 7 rfl
  have c8:=X1.out.cell 8 rfl
  obtain⟨f1,f2,f3,f4,f5,f6,f7,f8,f9,f10,f11,f12⟩:=far w.heap.size w1.heap.size (by omega)
  obtain⟨q1,q2,q3,q4,q5,q6,q7,q8,q9,q10,q11,q12⟩:=far g w1.heap.size (by omega)
  rw [rounds_succ]
  go_wp2_with (go_at_call 86;refine stop_here ?_)
  refine go_on ?_
  refine(head2_any c A cap ifs flds mths ok _ (H1.out.below ((Below.refl _ _).alloc (Nat.le_refl _) _)) HN2.out).mono ?_
  rw [HV2.out]
  rintro e w2 ⟨rfl,hb⟩
  have hz2:=hb.size
  simp at hz2
  have hq2:w.heap.size<w2.heap.size:=by omega
  have HW2:=Lib.hid ((HW1.out.alloc (by first| (simp;done) | (simp;omega) |omega) _).trans (hb.mono (by first| (simp;done) | (simp;omega) |omega)))
  have X2:=Lib.hid ((X1.out.below ((Below.refl _ _).alloc (Nat.le_refl _) _) X1.out.lt).below hb (by first| (simp;done) | (simp;omega) |omega))
  have G2:=Lib.hid ((G1.out.below ((Below.refl _ _).alloc (Nat.le_refl _) _) G1.out.lt).below hb (by first| (simp;done) | (simp;omega) |omega))
  have H2:=Lib.hid ((H1.out.below ((Below.refl _ _).alloc (Nat.le_refl _) _)).below hb)
  have HK2:=Lib.hid ((hb.cell (p:=⟨bk,0,none⟩) (by simp;omega)).trans ((World.cell?_alloc_lt _ _ _ (by simp;omega)).trans HK1.out))
  have HS2:=Lib.hid ((hb.cell (p:=⟨bs,0,none⟩) (by simp;omega)).trans ((World.cell?_alloc_lt _ _ _ (by simp;omega)).trans HS1.out))
  have R2:=Lib.hid ((bx_new_at w1 [.int .i64 20, .func (.func 86) #[] #[]] 149 (w1.heap.size) (by simp)).below hb (by first| (simp;done) | (simp;omega) |omega))
  have r0:=R2.out.cell 0 rfl
  clear hb c0 c1 c2 c3 c4 c5 c6 c7 c8 g2 g3
  cases v2 with
  |true=>
   go_wp2_with fail
   go_ret
   exact⟨rfl,HW2.out⟩
  |false=>
   go_wp2_with fail
   have g4:=G2.out.cell 4 rfl
   have g5:=G2.out.cell 5 rfl
   have c0:=X2.out.cell 0 rfl
   have c1:=X2.out.cell 1 rfl
   have c2:=X2.out.cell 2 rfl
   have c3:=X2.out.cell 3 rfl
   have c4:=X2.out.cell 4 rfl
   have c5:=X2.out.cell 5 rfl
   have c6:=X2.out.cell 6 rfl
   have c7:=X2.out.cell 7 rfl
   have c8:=X2.out.cell 8 rfl
   obtain⟨f1,f2,f3,f4,f5,f6,f7,f8,f9,f10,f11,f12⟩:=far w.heap.size w2.heap.size (by omega)
   obtain⟨q1,q2,q3,q4,q5,q6,q7,q8,q9,q10,q11,q12⟩:=far g w2.heap.size (by omega)
   rw [rounds_succ]
   go_wp2_with (go_at_call 87;refine stop_here ?_)
   refine go_on ?_
   refine(head3_any c A cap ifs flds mths ok _ (H2.out.below ((Below.refl _ _).alloc (Nat.le_refl _) _)) bk bs sup ((World.cell?_alloc_lt _ _ _ (by simp;omega)).trans HK2.out) ((World.cell?_alloc_lt _ _ _ (by simp;omega)).trans HS2.out) (by simp;omega) (by simp;omega)).mono ?_
   rw [HV3.out]
   rintro e w3 ⟨rfl,hb⟩
   have hz3:=hb.size
   simp at hz3
   have hq3:w.heap.size<w3.heap.size:=by omega
   have HW3:=Lib.hid ((HW2.out.alloc (by first| (simp;done) | (simp;omega) |omega) _).trans (hb.mono (by first| (simp;done) | (simp;omega) |omega)))
   have X3:=Lib.hid ((X2.out.below ((Below.refl _ _).alloc (Nat.le_refl _) _) X2.out.lt).below hb (by first| (simp;done) | (simp;omega) |omega))
   have G3:=Lib.hid ((G2.out.below ((Below.refl _ _).alloc (Nat.le_refl _) _) G2.out.lt).below hb (by first| (simp;done) | (simp;omega) |omega))
   have H3:=Lib.hid ((H2.out.below ((Below.refl _ _).alloc (Nat.le_refl _) _)).below hb)
   have HK3:=Lib.hid ((hb.cell (p:=⟨bk,0,none⟩) (by simp;omega)).trans ((World.cell?_alloc_lt _ _ _ (by simp;omega)).trans HK2.out))
   have HS3:=Lib.hid ((hb.cell (p:=⟨bs,0,none⟩) (by simp;omega)).trans ((World.cell?_alloc_lt _ _ _ (by simp;omega)).trans HS2.out))
   have R3:=Lib.hid ((bx_new_at w2 [.int .i64 23, .func (.func 87) #[] #[.pointer (some ⟨bk,0,none⟩), .pointer (some ⟨bs,0,none⟩)]] 149 (w2.heap.size) (by simp)).below hb (by first| (simp;done) | (simp;omega) |omega))
   have r0:=R3.out.cell 0 rfl
   clear hb c0 c1 c2 c3 c4 c5 c6 c7 c8 g4 g5
   cases v3 with
   |true=>
    go_wp2_with fail
    go_ret
    exact⟨rfl,HW3.out⟩
   |false=>
    go_wp2_with fail
    rw [rounds_succ]
    go_wp2_with fail
    go_ret
    exact⟨rfl,HW3.out⟩
end Go.Proofs.YtlcidkiplidamaaGreatDoor
namespace Go.Proofs.YtlcidkiplidamaaGreatDoor
open Go Go.RowKit Lib Go.Maps
theorem MapS.no_cell {w:World} {P:Program} {k:TypeId} {b n sz:Nat} {f:List UInt8→Option Value} (h:MapS w P k b n f sz) (o:Nat):w.cell? ⟨b,o,none⟩=none:=by
 obtain⟨D,⟨es,clock,h1,_⟩,_⟩:=h
 simp [World.cell?,h1]
def ifsE (pool:List Ko):List Int→List (List UInt8)→Int→Int
 | [],_,e=>e
 |n::r,seen,e=>if e≠0 then e else
  ifsE pool r (((nameAt pool n).getD ⟨#[]⟩).data.toList::seen) (if(nameAt pool n).isSome=false then 20 else if((nameAt pool n).getD ⟨#[]⟩).data.toList∈seen then 24 else 0)
def headE (c:ClassV):Int:=ifsE c.pool c.ifs [] (rulesE (missB c.pool c.this) (missB c.pool c.sup) (headBad c.acc (nameAt c.pool c.sup)))
def seenF (seen:List (List UInt8)):List UInt8→Option Value:=fun s=>if s∈seen then some (.int .i64 (seen.count s)) else none
theorem seenF_put (seen:List (List UInt8)) (s:List UInt8):putF (seenF seen) s (.int .i64 ((seen.count s:Int)+1))=seenF (s::seen):=by
 funext x
 unfold putF seenF
 by_cases hx:x=s
 ·subst hx
  simp
 ·simp [hx,List.count_cons,Ne.symm hx]
theorem seenF_get (seen:List (List UInt8)) (s:List UInt8):(seenF seen s).getD (.int .i64 0)= .int .i64 (seen.count s):=by
 unfold seenF
 by_cases h:s∈seen
 ·simp [h]
 ·simp [h,List.count_eq_zero.2 h]
theorem zeroI (w:World):(zeroValue 3).run Tryz.prog w= .ok (.int .i64 0) w:=by kernel_rfl
theorem textAt_size {pool:List Ko} {n:Int} {s:ByteArray} (h:textAt pool n=some s) (ht: ∀k∈pool,k.text.size≤65536):s.size≤65536:=by
 unfold textAt at h
 rcases hk:kindAt pool n 1 with _|k
 ·rw [hk] at h
  cases h
 ·rw [hk] at h
  injection h with h
  subst h
  exact ht k (kindAt_mem hk).1
theorem nameAt_size {pool:List Ko} {n:Int} (ht: ∀k∈pool,k.text.size≤65536):((nameAt pool n).getD ⟨#[]⟩).size≤65536:=by
 rcases hs:nameAt pool n with _|s
 ·exact Nat.zero_le _
 ·unfold nameAt at hs
  rcases hk:kindAt pool n 7 with _|k
  ·rw [hk] at hs
   cases hs
  ·rw [hk] at hs
   exact textAt_size hs ht
theorem ifsE_stop (pool:List Ko) (n:Int) (r:List Int) (seen:List (List UInt8)) (e:Int) (h:e≠0):ifsE pool (n::r) seen e=e:=by rw [ifsE,if_pos h]
theorem ifsE_go (pool:List Ko) (n:Int) (r:List Int) (seen:List (List UInt8)):ifsE pool (n::r) seen 0=ifsE pool r (((nameAt pool n).getD ⟨#[]⟩).data.toList::seen) (if(nameAt pool n).isSome=false then 20 else if((nameAt pool n).getD ⟨#[]⟩).data.toList∈seen then 24 else 0):=by rw [ifsE,if_neg (by simp)]
theorem SlAt.turned {w w':World} {P:Program} {k:TypeId} {b m sz:Nat} {f:List UInt8→Option Value} {ok:Nat→Prop} {size n:Nat} {cells:List Value} {v:Value} (h:SlAt w ok size n cells v) (hs:0<size) (hg:w.grownBy w' (some b)) (hM:MapS w P k b m f sz):SlAt w' ok size n cells v:=by
 obtain⟨A,cap,rfl,h1,h2,h3,h4⟩:=h
 refine⟨A,cap,rfl,h1,h2,h3,fun h0=> ?_⟩
 obtain⟨g,off,e,hlt,ho,hc⟩:=h4 h0
 refine⟨g,off,e,Nat.lt_of_lt_of_le hlt hg.size,ho,fun j u hu=> ?_⟩
 have h5:=hc j u hu
 have hne:g≠b:=fun e=>by
  subst e
  rw [hM.no_cell] at h5
  cases h5
 rw [World.cell?_of_block (w:=w) (hg.block g hlt (fun e=>hne (by injection e)))]
 exact h5
theorem BookOk.turned {w w':World} {P:Program} {k:TypeId} {b m sz:Nat} {f:List UInt8→Option Value} {ok:Nat→Prop} {c:ClassV} {A:Option Addr} {cap:Nat} {ifs flds mths:Value} (h:BookOk w ok c A cap ifs flds mths) (hg:w.grownBy w' (some b)) (hM:MapS w P k b m f sz):BookOk w' ok c A cap ifs flds mths:=
 ⟨h.hp.turned (by omega) hg hM,h.h1,h.h2,h.h3⟩
theorem head_any (c:ClassV) (A:Option Addr) (cap:Nat) (ifs flds mths:Value) (ok:Nat→Prop) (w:World) (h:BookOk w ok c A cap ifs flds mths) (hi:SlAt w ok 1 c.ifs.length (c.ifs.map (Value.int .i64)) ifs) (hn1:Fine c.this) (hn2:Fine c.sup) (hf: ∀k∈c.pool,Fine k.a) (hfi: ∀n∈c.ifs,Fine n) (hft: ∀k∈c.pool,k.text.size≤65536):
  Calls Tryz.prog 37 #[bookV c (.slice A c.pool.length cap) ifs flds mths] w fun e w'=>e= .returned (.int .i64 (headE c))∧Below w.heap.size w w':=by
 have hmf: ∀(fn:Fn) (first cap:Array Value) (w:World),(Instr.makeFunc fn first cap).run Tryz.prog w= .ok (.func fn first cap) w:=fun _ _ _ _=>rfl
 have hmm:= @run_makeMap Tryz.prog
 have H0:=Lib.hid (h.below ((Below.refl _ _).alloc (Nat.le_refl _) (.cells #[.int .i64 c.minor, .int .i64 c.major, .slice A c.pool.length cap, .int .i64 c.acc, .int .i64 c.this, .int .i64 c.sup,ifs,flds,mths] 94)))
 have X0:=Lib.hid (bx_new w [.int .i64 c.minor, .int .i64 c.major, .slice A c.pool.length cap, .int .i64 c.acc, .int .i64 c.this, .int .i64 c.sup,ifs,flds,mths] 94)
 have HI:=Lib.hid hi
 have HN1:=Lib.hid hn1
 have HN2:=Lib.hid hn2
 have HF:=Lib.hid hf
 have HFI:=Lib.hid hfi
 have HFT:=Lib.hid hft
 obtain⟨A2,cap2,rfl,hc2,hm2,hl2,_⟩:=hi
 clear h hn1 hn2 hf hfi hl2 hft
 rw [bookV_open]
 go_enter Tryz.func37,Tryz.ntmps37
 go_wp2_with (go_at_call 82;refine stop_here ?_)
 refine go_on ?_
 refine(name_book c A cap _ flds mths c.sup ok _ H0.out HN2.out HF.out).mono ?_
 rintro e w1 ⟨rfl,hb⟩
 simp only [optV]
 have hz1:=hb.size
 simp at hz1
 have HB1:=Lib.hid hb
 have X1:=Lib.hid (X0.out.below hb (by simp))
 have H1:=Lib.hid (H0.out.below hb)
 clear hb
 obtain⟨x1,x2,x3,x4,x5,x6,x7,x8,x9,x10,x11,x12⟩:=far w.heap.size w1.heap.size (by omega)
 have c0:=X1.out.cell 0 rfl
 have c1:=X1.out.cell 1 rfl
 have c2:=X1.out.cell 2 rfl
 have c3:=X1.out.cell 3 rfl
 have c4:=X1.out.cell 4 rfl
 have c5:=X1.out.cell 5 rfl
 have c6:=X1.out.cell 6 rfl
 have c7:=X1.out.cell 7 rfl
 have c8:=X1.out.cell 8 rfl
 go_wp2_with (go_at_call 83;refine stop_here ?_)
 refine go_on ?_
 obtain⟨e1,he1⟩: ∃e,rulesE (missB c.pool c.this) (missB c.pool c.sup) (headBad c.acc (nameAt c.pool c.sup))=e:=⟨_,rfl⟩
 have HE1:=Lib.hid (show headE c=ifsE c.pool (c.ifs.drop 0) [] e1 by unfold headE;rw [he1];rfl)
 have HW2:=Lib.hid ((((Below.refl w1.heap.size w1).alloc (Nat.le_refl _) (.cells #[.string ((nameAt c.pool c.sup).getD ⟨#[]⟩)] 9)).alloc (by simp) (.cells #[.bool (nameAt c.pool c.sup).isSome] 4)).alloc (by simp;omega) (.cells (rulesV (w1.heap.size+1) w1.heap.size).toArray 149))
 refine(first_book c A cap _ flds mths ok _ (H1.out.below HW2.out) HN1.out HN2.out (w1.heap.size+1+1) (w1.heap.size+1) w1.heap.size (nameAt c.pool c.sup) 149 (bx_new_at _ (rulesV (w1.heap.size+1) w1.heap.size) _ _ (by simp)) (by simp [go_sem]) (by simp [go_sem]) (by first| (simp;done) | (simp;omega)) (by first| (simp;done) | (simp;omega))).mono ?_
 rw [he1]
 rintro e w2 ⟨rfl,hb2⟩
 have hz2:=hb2.size
 simp at hz2
 have HB2:=Lib.hid (((((Below.refl w.heap.size w).alloc (Nat.le_refl _) _).trans (HB1.out.mono (by simp))).trans (HW2.out.mono (by omega))).trans (hb2.mono (by simp;omega)))
 have X2:=Lib.hid ((X1.out.below HW2.out (by omega)).below hb2 (by simp;omega))
 have H2:=Lib.hid ((H1.out.below HW2.out).below hb2)
 clear hb2 he1 c0 c1 c2 c3 c4 c5 c6 c7 c8 x1 x2 x3 x4 x5 x6 x7 x8 x9 x10 x11 x12
 obtain⟨x1,x2,x3,x4,x5,x6,x7,x8,x9,x10,x11,x12⟩:=far w.heap.size w2.heap.size (by omega)
 have c6:=X2.out.cell 6 rfl
 go_wp2_with fail
 have HM3:=Lib.hid (show MapS (w2.alloc (.map #[] 0)) Tryz.prog 9 w2.heap.size 0 (seenF []) 0 by
  have e:seenF []=fun _=>none:=by funext s;simp [seenF]
  rw [e]
  exact mapS_made w2 Tryz.prog 9)
 have HB3:=Lib.hid (HB2.out.alloc (by omega) (.map #[] 0))
 have X3:=Lib.hid (X2.out.below ((Below.refl _ _).alloc (Nat.le_refl _) (.map #[] 0)) X2.out.lt)
 have H3:=Lib.hid (H2.out.below ((Below.refl _ _).alloc (Nat.le_refl _) (.map #[] 0)))
 have hz3:w2.heap.size< (w2.alloc (.map #[] 0)).heap.size:=by simp
 clear c6
 go_loopw [5,31] (fun ev i wr=> ∃(k:Nat) (seen:List (List UInt8)) (e:Int) (nm sz:Nat),k≤c.ifs.length∧i= .int .i64 k∧ev= .int .i64 e∧nm≤k∧Hid (MapS wr Tryz.prog 9 w2.heap.size nm (seenF seen) sz)∧Hid (Below w.heap.size w wr)∧Hid (Bx wr w.heap.size [.int .i64 c.minor, .int .i64 c.major, .slice A c.pool.length cap, .int .i64 c.acc, .int .i64 c.this, .int .i64 c.sup, .slice A2 c.ifs.length cap2,flds,mths] 94)∧Hid (BookOk wr ok c A cap (.slice A2 c.ifs.length cap2) flds mths)∧Hid (headE c=ifsE c.pool (c.ifs.drop k) seen e)∧w2.heap.size<wr.heap.size∧Hid (seen.length=k)) (fun _ i _=>c.ifs.length - (RowKit.intOf i).toNat)
 case atStart=>exact⟨0, [],e1,0,0,by omega,rfl,rfl,by omega,HM3,HB3,X3,H3,HE1,hz3,Lib.hid rfl⟩
 case round=>
  obtain⟨k,seen,e,nm,sz,hk,rfl,rfl,hnm,HMr,HBr,Xr,Hr,HEr,hzr,HLr⟩:=hrel
  by_cases hlt:k<c.ifs.length
  ·obtain⟨n,hn⟩: ∃n,c.ifs[k]?=some n:=⟨_,List.getElem?_eq_getElem hlt⟩
   have HDR:=Lib.hid (show c.ifs.drop k=n::c.ifs.drop (k+1) by
    rw [List.drop_eq_getElem_cons hlt]
    congr 1
    rw [List.getElem?_eq_getElem hlt] at hn
    injection hn)
   have HNF:=Lib.hid (HFI.out n (List.mem_of_getElem? hn))
   obtain⟨A',cap',ev,_,_,_,h5⟩:=HI.out.keep (Kept.of_below HBr.out)
   cases ev
   obtain⟨b,off,rfl,hbl,_,hc⟩:=h5 (by omega)
   have cn:=hc k (.int .i64 n) (by rw [List.getElem?_map,hn];rfl)
   clear hn hc h5
   by_cases he:e=0
   ·subst he
    have c0:=Xr.out.cell 0 rfl
    have c1:=Xr.out.cell 1 rfl
    have c2:=Xr.out.cell 2 rfl
    have c3:=Xr.out.cell 3 rfl
    have c4:=Xr.out.cell 4 rfl
    have c5:=Xr.out.cell 5 rfl
    have c6:=Xr.out.cell 6 rfl
    have c7:=Xr.out.cell 7 rfl
    have c8:=Xr.out.cell 8 rfl
    go_wp2_with (go_at_call 82;refine stop_here ?_)
    refine go_on ?_
    clear c0 c1 c2 c3 c4 c5 c6 c7 c8
    refine(name_book c A cap _ flds mths n ok _ Hr.out HNF.out HF.out).mono ?_
    rintro e w4 ⟨rfl,hb4⟩
    simp only [optV]
    have hz4:=hb4.size
    have HM4:=Lib.hid (HMr.out.keep (hb4.block _ hzr))
    have HB4:=Lib.hid (HBr.out.trans (hb4.mono (by omega)))
    have X4:=Lib.hid (Xr.out.below hb4 Xr.out.lt)
    have H4:=Lib.hid (Hr.out.below hb4)
    have hsz:((nameAt c.pool n).getD ⟨#[]⟩).size≤maxLen:=by have:=nameAt_size (n:=n) HFT.out;unfold maxLen;omega
    have HE4:=HEr.out
    rw [HDR.out,ifsE_go] at HE4
    have HE4:=Lib.hid HE4
    obtain⟨sv,hsv⟩: ∃s,(nameAt c.pool n).getD ⟨#[]⟩=s:=⟨_,rfl⟩
    obtain⟨kv,hkv⟩: ∃b,(nameAt c.pool n).isSome=b:=⟨_,rfl⟩
    rw [hsv,hkv] at HE4
    rw [hsv] at hsz
    rw [hsv,hkv]
    clear hb4 hsv hkv
    have hcb:seen.count sv.data.toList≤1048576:=Nat.le_trans List.count_le_length (by have:=HLr.out;omega)
    cases kv with
    |false=>
     have HE4:=Lib.hid (show headE c=ifsE c.pool (c.ifs.drop (k+1)) (sv.data.toList::seen) 20 from HE4.out.trans (by rw [if_pos rfl]))
     go_wp2_with (first
 | (at_lookup;refine wpl_get rfl _ _ rfl Tryz.underlying9 Tryz.underlying69 (zeroI _) rfl HM4.out rfl hsz ?_;rw [seenF_get])
 | (at_mapUpdate;refine wpl_put (u:= .int .i64 ((seen.count sv.data.toList:Int)+1)) rfl _ _ _ rfl Tryz.underlying9 Tryz.underlying69 rfl HM4.out (by unfold maxLen;omega) rfl hsz rfl ?_;intro w5 hm5 hg5;refine stop_here ?_))
     rw [seenF_put] at hm5
     have HM5:=Lib.hid (show∃sz',MapS w5 Tryz.prog 9 w2.heap.size (nm+1) (seenF (sv.data.toList::seen)) sz' from⟨_,hm5⟩)
     have HB5:=Lib.hid (HB4.out.grown hg5 (by omega) (fun q hq=>by injection hq with hq;omega))
     have X5:=Lib.hid ((hg5.block _ X4.out.lt (fun e=>by injection e with e;omega)).trans X4.out)
     have H5:=Lib.hid (H4.out.turned hg5 HM4.out)
     have hz5:=hg5.size
     clear hm5 hg5
     obtain⟨sz5,hm5⟩:=HM5.out
     have HM5':=Lib.hid hm5
     clear hm5
     refine go_on ?_
     go_wp2_with fail
     go_roundw
     case rel=>exact⟨k+1,sv.data.toList::seen,20,nm+1,sz5,by omega,by go_num,rfl,by omega,HM5',HB5,X5,H5,HE4,by omega,Lib.hid (by simp [HLr.out])⟩
     case measure=>simp [RowKit.intOf];omega
    |true=>
     by_cases hin:sv.data.toList∈seen
     ·have HE4:=Lib.hid (show headE c=ifsE c.pool (c.ifs.drop (k+1)) (sv.data.toList::seen) 24 from HE4.out.trans (by rw [if_neg (by simp),if_pos hin]))
      have hcnt:0<seen.count sv.data.toList:=List.count_pos_iff.2 hin
      clear hin
      go_wp2_with (first
 | (at_lookup;refine wpl_get rfl _ _ rfl Tryz.underlying9 Tryz.underlying69 (zeroI _) rfl HM4.out rfl hsz ?_;rw [seenF_get])
 | (at_mapUpdate;refine wpl_put (u:= .int .i64 ((seen.count sv.data.toList:Int)+1)) rfl _ _ _ rfl Tryz.underlying9 Tryz.underlying69 rfl HM4.out (by unfold maxLen;omega) rfl hsz rfl ?_;intro w5 hm5 hg5;refine stop_here ?_))
      rw [seenF_put] at hm5
      have HM5:=Lib.hid (show∃sz',MapS w5 Tryz.prog 9 w2.heap.size (nm+1) (seenF (sv.data.toList::seen)) sz' from⟨_,hm5⟩)
      have HB5:=Lib.hid (HB4.out.grown hg5 (by omega) (fun q hq=>by injection hq with hq;omega))
      have X5:=Lib.hid ((hg5.block _ X4.out.lt (fun e=>by injection e with e;omega)).trans X4.out)
      have H5:=Lib.hid (H4.out.turned hg5 HM4.out)
      have hz5:=hg5.size
      clear hm5 hg5
      obtain⟨sz5,hm5⟩:=HM5.out
      have HM5':=Lib.hid hm5
      clear hm5
      refine go_on ?_
      go_wp2_with fail
      go_roundw
      case rel=>exact⟨k+1,sv.data.toList::seen,24,nm+1,sz5,by omega,by go_num,rfl,by omega,HM5',HB5,X5,H5,HE4,by omega,Lib.hid (by simp [HLr.out])⟩
      case measure=>simp [RowKit.intOf];omega
     ·have HE4:=Lib.hid (show headE c=ifsE c.pool (c.ifs.drop (k+1)) (sv.data.toList::seen) 0 from HE4.out.trans (by rw [if_neg (by simp),if_neg hin]))
      have hcnt: ¬0<seen.count sv.data.toList:=by rw [List.count_eq_zero.2 hin];omega
      clear hin
      go_wp2_with (first
 | (at_lookup;refine wpl_get rfl _ _ rfl Tryz.underlying9 Tryz.underlying69 (zeroI _) rfl HM4.out rfl hsz ?_;rw [seenF_get])
 | (at_mapUpdate;refine wpl_put (u:= .int .i64 ((seen.count sv.data.toList:Int)+1)) rfl _ _ _ rfl Tryz.underlying9 Tryz.underlying69 rfl HM4.out (by unfold maxLen;omega) rfl hsz rfl ?_;intro w5 hm5 hg5;refine stop_here ?_))
      rw [seenF_put] at hm5
      have HM5:=Lib.hid (show∃sz',MapS w5 Tryz.prog 9 w2.heap.size (nm+1) (seenF (sv.data.toList::seen)) sz' from⟨_,hm5⟩)
      have HB5:=Lib.hid (HB4.out.grown hg5 (by omega) (fun q hq=>by injection hq with hq;omega))
      have X5:=Lib.hid ((hg5.block _ X4.out.lt (fun e=>by injection e with e;omega)).trans X4.out)
      have H5:=Lib.hid (H4.out.turned hg5 HM4.out)
      have hz5:=hg5.size
      clear hm5 hg5
      obtain⟨sz5,hm5⟩:=HM5.out
      have HM5':=Lib.hid hm5
      clear hm5
      refine go_on ?_
      go_wp2_with fail
      go_roundw
      case rel=>exact⟨k+1,sv.data.toList::seen,0,nm+1,sz5,by omega,by go_num,rfl,by omega,HM5',HB5,X5,H5,HE4,by omega,Lib.hid (by simp [HLr.out])⟩
      case measure=>simp [RowKit.intOf];omega
   ·have HR:=Lib.hid (show headE c=e by rw [HEr.out,HDR.out];exact ifsE_stop _ _ _ _ _ he)
    have heb:(e !=0)=true:=by simp [he]
    clear he
    go_wp2_with fail
    go_ret
    exact⟨by rw [HR.out];rfl,HBr.out⟩
  ·have hkk:k=c.ifs.length:=by omega
   have HR:=Lib.hid (show headE c=e by rw [HEr.out,hkk,List.drop_length];rfl)
   go_wp2_with fail
   go_ret
   exact⟨by rw [HR.out];rfl,HBr.out⟩
end Go.Proofs.YtlcidkiplidamaaGreatDoor
namespace Go.Proofs.YtlcidkiplidamaaGreatDoor
open Go Go.RowKit Lib
def longM (m:MethV):Bool:=decide (64<m.traps.length) ||decide (4096<m.code.length)
def longC (c:ClassV):Bool:=decide (1024<c.pool.length) ||decide (64<c.ifs.length) ||decide (64<c.flds.length) ||decide (64<c.mths.length) ||c.mths.any longM
theorem sl_len {w:World} {ok:Nat→Prop} {size n:Nat} {cells:List Value} {v:Value} (h:SlAt w ok size n cells v): ∃A cap,v= .slice A n cap∧n≤cap∧n≤1048576:=by
 obtain⟨A,cap,e,h1,h2,_⟩:=h
 exact⟨A,cap,e,h1,h2⟩
theorem long_rows (c:ClassV) (p i f m:Value) (ok:Nat→Prop) (w:World) (h:ClassAt w ok c p i f m) (hl:1024<c.pool.length∨64<c.ifs.length∨64<c.flds.length∨64<c.mths.length):
  Calls Tryz.prog 35 #[bookV c p i f m] w fun e w'=>e= .returned (.bool true)∧Below w.heap.size w w':=by
 obtain⟨A1,k1,rfl,q1,z1⟩:=sl_len h.hpool
 obtain⟨A2,k2,rfl,q2,z2⟩:=sl_len h.hifs
 obtain⟨A3,k3,rfl,q3,z3⟩:=sl_len h.hflds
 obtain⟨_,_,h4,_⟩:=h.hmths
 obtain⟨A4,k4,rfl,q4,z4⟩:=sl_len h4
 clear h h4
 have HW:=Lib.hid ((Below.refl w.heap.size w).alloc (Nat.le_refl _) (.cells #[.int .i64 c.minor, .int .i64 c.major, .slice A1 c.pool.length k1, .int .i64 c.acc, .int .i64 c.this, .int .i64 c.sup, .slice A2 c.ifs.length k2, .slice A3 c.flds.length k3, .slice A4 c.mths.length k4] 28))
 rw [bookV_open]
 generalize c.pool.length=n1 at*
 generalize c.ifs.length=n2 at*
 generalize c.flds.length=n3 at*
 generalize c.mths.length=n4 at*
 by_cases h1:1024<n1
 ·clear hl
  go_enter Tryz.func35,Tryz.ntmps35
  go_wp2
  go_ret
  exact⟨rfl,HW.out⟩
 ·by_cases h2:64<n2
  ·clear hl
   go_enter Tryz.func35,Tryz.ntmps35
   go_wp2
   go_ret
   exact⟨rfl,HW.out⟩
  ·by_cases h3:64<n3
   ·clear hl
    go_enter Tryz.func35,Tryz.ntmps35
    go_wp2
    go_ret
    exact⟨rfl,HW.out⟩
   ·have h4:64<n4:=by omega
    clear hl
    go_enter Tryz.func35,Tryz.ntmps35
    go_wp2
    go_ret
    exact⟨rfl,HW.out⟩
theorem long_meths (c:ClassV) (p i f m:Value) (ok:Nat→Prop) (w:World) (h:ClassAt w ok c p i f m) (hl1:c.pool.length≤1024) (hl2:c.ifs.length≤64) (hl3:c.flds.length≤64) (hl4:c.mths.length≤64):
  Calls Tryz.prog 35 #[bookV c p i f m] w fun e w'=>e= .returned (.bool (c.mths.any longM))∧Below w.heap.size w w':=by
 obtain⟨A1,k1,rfl,q1,z1⟩:=sl_len h.hpool
 obtain⟨A2,k2,rfl,q2,z2⟩:=sl_len h.hifs
 obtain⟨A3,k3,rfl,q3,z3⟩:=sl_len h.hflds
 obtain⟨ms,hms,h4,h5⟩:=h.hmths
 obtain⟨A4,k4,rfl,q4,z4⟩:=sl_len h4
 have g1: ¬1024<c.pool.length:=by omega
 have g2: ¬64<c.ifs.length:=by omega
 have g3: ¬64<c.flds.length:=by omega
 have g4: ¬64<c.mths.length:=by omega
 have H4:=Lib.hid h4
 have H5:=Lib.hid h5
 have HMS:=Lib.hid hms
 have HW:=Lib.hid ((Below.refl w.heap.size w).alloc (Nat.le_refl _) (.cells #[.int .i64 c.minor, .int .i64 c.major, .slice A1 c.pool.length k1, .int .i64 c.acc, .int .i64 c.this, .int .i64 c.sup, .slice A2 c.ifs.length k2, .slice A3 c.flds.length k3, .slice A4 c.mths.length k4] 28))
 clear h h4 h5 hms
 rw [bookV_open]
 go_enter Tryz.func35,Tryz.ntmps35
 go_wp2_with fail
 go_loopw [30] (fun i wr=> ∃k:Nat,k≤c.mths.length∧i= .int .i64 k∧Hid (Below w.heap.size w wr)∧Hid (c.mths.any longM=(c.mths.drop k).any longM)) (fun i _=>c.mths.length - (RowKit.intOf i).toNat)
 case atStart=>exact⟨0,by omega,rfl,HW,Lib.hid (by rw [List.drop_zero])⟩
 case round=>
  obtain⟨k,hk,rfl,HBr,HEr⟩:=hrel
  by_cases hlt:k<c.mths.length
  ·have hmsl:ms.length=c.mths.length:=by rw [←HMS.out,List.length_map]
   obtain⟨q,hq⟩: ∃q,ms[k]?=some q:=⟨_,List.getElem?_eq_getElem (by omega)⟩
   obtain⟨mv,code,traps⟩:=q
   have hcm:c.mths[k]?=some mv:=by rw [←HMS.out,List.getElem?_map,hq];rfl
   have hM:MethAt w ok mv code traps:=H5.out _ (List.mem_of_getElem? hq)
   obtain⟨Ac,kc,rfl,_,zc⟩:=sl_len hM.hcode
   obtain⟨At,kt,rfl,_,zt⟩:=sl_len hM.htraps
   obtain⟨A',cap',ev,_,_,_,h6⟩:=H4.out.keep (Kept.of_below HBr.out)
   cases ev
   obtain⟨b,off,rfl,hbl,_,hc⟩:=h6 (by omega)
   have hr:=rows_at (fun m:MethV×Value×Value=>m.1.cells m.2.1 m.2.2) 8 (fun _=>rfl) ms k _ hq
   have m0:=hc _ _ ((hr 0 (by omega)).trans rfl)
   have m1:=hc _ _ ((hr 1 (by omega)).trans rfl)
   have m2:=hc _ _ ((hr 2 (by omega)).trans rfl)
   have m3:=hc _ _ ((hr 3 (by omega)).trans rfl)
   have m4:=hc _ _ ((hr 4 (by omega)).trans rfl)
   have m5:=hc _ _ ((hr 5 (by omega)).trans rfl)
   have m6:=hc _ _ ((hr 6 (by omega)).trans rfl)
   have m7:=hc _ _ ((hr 7 (by omega)).trans rfl)
   simp only [Nat.add_zero] at m0
   rw [←Nat.add_assoc] at m1 m2 m3 m4 m5 m6 m7
   have HDR:=Lib.hid (show c.mths.drop k=mv::c.mths.drop (k+1) by
    rw [List.drop_eq_getElem_cons hlt]
    congr 1
    rw [List.getElem?_eq_getElem hlt] at hcm
    injection hcm)
   have HB2:=Lib.hid (HBr.out.alloc HBr.out.size (.cells #[.int .i64 mv.acc, .int .i64 mv.name, .int .i64 mv.desc, .bool mv.has, .int .i64 mv.stack, .int .i64 mv.locals, .slice Ac mv.code.length kc, .slice At mv.traps.length kt] 37))
   clear hq hcm hM hc hr h6 hmsl
   by_cases t1:64<mv.traps.length
   ·have HR:=Lib.hid (show c.mths.any longM=true by rw [HEr.out,HDR.out,List.any_cons];simp [longM,t1])
    go_wp2_with fail
    go_ret
    exact⟨by rw [HR.out];rfl,HB2.out⟩
   ·by_cases t2:4096<mv.code.length
    ·have HR:=Lib.hid (show c.mths.any longM=true by rw [HEr.out,HDR.out,List.any_cons];simp [longM,t2])
     go_wp2_with fail
     go_ret
     exact⟨by rw [HR.out];rfl,HB2.out⟩
    ·have HE2:=Lib.hid (show c.mths.any longM=(c.mths.drop (k+1)).any longM by rw [HEr.out,HDR.out,List.any_cons];simp [longM,t1,t2])
     go_wp2_with fail
     go_roundw
     case rel=>exact⟨k+1,by omega,by go_num,HB2,HE2⟩
     case measure=>simp [RowKit.intOf];omega
  ·have HR:=Lib.hid (show c.mths.any longM=false by rw [HEr.out,List.drop_of_length_le (by omega)];rfl)
   go_wp2_with fail
   go_ret
   exact⟨by rw [HR.out];rfl,HBr.out⟩
end Go.Proofs.YtlcidkiplidamaaGreatDoor
