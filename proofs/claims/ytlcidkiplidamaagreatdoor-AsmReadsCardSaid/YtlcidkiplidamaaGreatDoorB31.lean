/-
  What the laws rest on, part 31: walks of the program's functions and plain laws. Conditions: none but those that each theorem names.
-/
import Derived.Test.YtlcidkiplidamaaGreatDoorB00
import Derived.Test.YtlcidkiplidamaaGreatDoorB30
import Derived.Laws.EntriesVeiled
import Derived.WalkMore
import Derived.Lib.SmallJoins
import Derived.Test.YtlcidkiplidamaaGreatDoorB29
import Derived.Test.YtlcidkiplidamaaGreatDoorB22
import Derived.Test.YtlcidkiplidamaaGreatDoorB25
set_option linter.unusedSimpArgs false
set_option linter.unusedVariables false
set_option maxRecDepth 100000
set_option maxHeartbeats 4000000
namespace Go.Proofs.YtlcidkiplidamaaGreatDoor
open Go Go.RowKit Lib Go.Maps
theorem oqK (HIN:InstrC) (HEN:EndC) (text:ByteArray) (mx:Int) (w:World) (hmx:w.cell? ⟨Tryz.maxB,0,none⟩=some (.int .i64 mx)) (hts:text.size≤1000000) (hls: ∀s∈aqI text,oqV s∨s.size≤65536):
  Calls Tryz.prog 9 #[.string text] w (dq3 w (cq9 aq1 text)):=by
 have hmf: ∀(fn:Fn) (first cap:Array Value) (w:World),(Instr.makeFunc fn first cap).run Tryz.prog w= .ok (.func fn first cap) w:=fun _ _ _ _=>rfl
 have hmm:= @run_makeMap Tryz.prog
 have hxw:Tryz.maxB<w.heap.size:=World.block_lt_of_cell? _ _ hmx
 obtain⟨L,z,hsp,hLl,hal⟩:=nqF text
 have hcnt:L.length≤text.size:=by rw [hLl];exact Lib.countB_le ⟨#[10]⟩ (by decide) text.size text (Nat.le_refl _)
 have XC0:=Hq (((aqo w aqZ 28).below ((Below.refl _ _).alloc (Nat.le_refl _) (.cells #[.int .i64 0] 3)) (by simp)).below ((Below.refl _ _).alloc (Nat.le_refl _) (.cells #[.int .i64 0] 29)) (by simp;omega))
 have XP0:=Hq ((aql (w.alloc (.cells aqZ.toArray 28)) [.int .i64 0] 3 (w.heap.size+1) (by simp)).below ((Below.refl _ _).alloc (Nat.le_refl _) (.cells #[.int .i64 0] 29)) (by simp))
 have XE0:=Hq (aql ((w.alloc (.cells aqZ.toArray 28)).alloc (.cells #[.int .i64 0] 3)) [.int .i64 0] 29 (w.heap.size+1+1) (by simp))
 have HB0:=Hq ((((Below.refl w.heap.size w).alloc (Nat.le_refl _) (.cells aqZ.toArray 28)).alloc (by simp) (.cells #[.int .i64 0] 3)).alloc (by simp;omega) (.cells #[.int .i64 0] 29))
 have HSP:=Hq (show∀W:World,W.cell? ⟨Tryz.maxB,0,none⟩=some (.int .i64 mx)→Calls Tryz.prog 22 #[.string text, .string ⟨#[10]⟩] W fun e w'=>e= .returned (.slice (some ⟨W.heap.size,0,none⟩) (L.length+1) (L.length+1))∧w'=W.alloc (.cells ((L++ [z]).map Value.string).toArray 9) from fun W h=>by
  have:=Tryz.strings_Split text ⟨#[10]⟩ mx W (by omega) h (by decide)
  rw [hsp, ←hLl] at this
  exact this)
 have HMX:=Hq hmx
 have HAL:=Hq hal
 have HLS:=Hq hls
 clear hsp hmx hal hls hLl
 go_enter_defers Tryz.func9,Tryz.ntmps9
 go_wp2_with (go_at_call 22;refine aqa ?_)
 refine aqb ?_
 refine(HSP.out _ ((HB0.out.cell (p:=⟨Tryz.maxB,0,none⟩) hxw).trans HMX.out)).mono ?_
 rintro e w1 ⟨rfl,hw1⟩
 simp only [World.size_alloc] at hw1⊢
 have XL:=Hq (show Bx w1 (w.heap.size+1+1+1) ((L++ [z]).map Value.string) 9 by rw [hw1];exact aql _ _ _ _ (by simp))
 have HB1:=Hq (show Below w.heap.size w w1 by rw [hw1];exact HB0.out.alloc (by simp;omega) _)
 have BB:=(Below.refl (((w.alloc (.cells aqZ.toArray 28)).alloc (.cells #[.int .i64 0] 3)).alloc (.cells #[.int .i64 0] 29)).heap.size (((w.alloc (.cells aqZ.toArray 28)).alloc (.cells #[.int .i64 0] 3)).alloc (.cells #[.int .i64 0] 29))).alloc (Nat.le_refl _) (.cells ((L++ [z]).map Value.string).toArray 9)
 have XC1:=Hq (show Bx w1 w.heap.size aqZ 28 by rw [hw1];exact XC0.out.below BB XC0.out.lt)
 have XP1:=Hq (show Bx w1 (w.heap.size+1) [.int .i64 0] 3 by rw [hw1];exact XP0.out.below BB XP0.out.lt)
 have XE1:=Hq (show Bx w1 (w.heap.size+1+1) [.int .i64 0] 29 by rw [hw1];exact XE0.out.below BB XE0.out.lt)
 have hz1:w1.heap.size=w.heap.size+1+1+1+1:=by rw [hw1];simp
 clear hw1 BB XC0 XP0 XE0 HB0
 have cz:w1.cell? ⟨w.heap.size+1+1+1,L.length,none⟩=some (.string z):=XL.out.cell L.length (by simp)
 have HLC:=Hq (show∀(j:Nat) s,(aqI text)[j]?=some s→w1.cell? ⟨w.heap.size+1+1+1,j,none⟩=some (.string s) from fun j s hs=>XL.out.cell j (by
  have hs2:(L++ [z])[j]?=some s:=by
   rw [HAL.out] at hs
   split at hs
   ·rw [List.getElem?_append_left (List.getElem?_eq_some_iff.1 hs).1];exact hs
   exact hs
  rw [List.getElem?_map,hs2]
  rfl))
 obtain⟨k1,hk1⟩: ∃k1,L.length=k1:=⟨_,rfl⟩
 rw [hk1] at cz hcnt
 rw [hk1]
 have HK1:=Hq hk1
 clear hk1
 have hw64:IntKind.i64.wrap (((k1:Int)+1) - 1)=(k1:Int):=by rw [IntWalk.i64_in _ (by omega)];omega
 have hw65:RowKit.wrap64 (((k1:Int)+1) - 1)=(k1:Int):=by rw [show RowKit.wrap64 (((k1:Int)+1) - 1)=IntKind.i64.wrap (((k1:Int)+1) - 1) by unfold RowKit.wrap64;rw [IntKind.wrap_i64]];exact hw64
 have hb1:(k1:Int) < ((k1+1:Nat):Int):=by omega
 obtain⟨zb,hzb⟩: ∃zb,z.toList=zb:=⟨_,rfl⟩
 rcases Nat.eq_zero_or_pos z.size with hz0|hz0
 focus
  have hz1:z.toList= []:=by rw [ByteArray.toList_eq];have hl:z.data.toList.length=z.size:=Array.length_toList;exact List.eq_nil_of_length_eq_zero (by omega)
  have hze:(z.toList== [])=true:=by rw [hz1];rfl
  have hzf:z.toList.isEmpty=true:=by rw [hz1];rfl
  have HLEN:=Hq (show(aqI text).length=k1 by rw [HAL.out,if_pos hz0,HK1.out])
  clear hz0 hz1 hzb
  by_cases hA:262144<text.size
  ·have hq1:decide ((262144:Int) < (text.size:Int))=true:=by rw [decide_eq_true_eq];omega
   have hq2:(262144:Int) < (text.size:Int):=by omega
   have HP:=Hq (show cq9 aq1 text= .error (0,2) by unfold cq9;rw [if_pos (.inl hA)])
   clear hA
   go_wp2_with fail
   refine leaves_cons (f:=21) (args:= #[.pointer (some ⟨w.heap.size,0,none⟩), .pointer (some ⟨w.heap.size+1,0,none⟩), .pointer (some ⟨w.heap.size+1+1,0,none⟩)]) (by simp) (by simp [go_sem]) ?_
   refine(bqC w.heap.size (w.heap.size+1) (w.heap.size+1+1) 0 2 aqZ _ _ _ XC1.out rfl XP1.out XE1.out (by omega) (by omega) (by omega) []).mono ?_
   rintro e u' w'' ⟨rfl,rfl,hC,hP,hE,hb⟩
   exact⟨_,cqp rfl rfl rfl rfl hC hP hE Tryz.underlying28 rfl (by kernel_rfl) Tryz.underlying3 rfl Tryz.underlying29 rfl,bqD HP.out rfl (HB1.out.trans (bqi hb (by omega) (by intro k hk;simp at hk;omega)))⟩
  have hq1:decide ((262144:Int) < (text.size:Int))=false:=by rw [decide_eq_false_iff_not];omega
  have hq2: ¬(262144:Int) < (text.size:Int):=by omega
  by_cases hB:8000<k1
  ·have hq3:decide ((8000:Int) < (k1:Int))=true:=by rw [decide_eq_true_eq];omega
   have hq4:(8000:Int) < (k1:Int):=by omega
   have HP:=Hq (show cq9 aq1 text= .error (0,2) by unfold cq9;rw [if_pos (.inr (by rw [HLEN.out];exact hB))])
   clear hB
   go_wp2_with fail
   refine leaves_cons (f:=21) (args:= #[.pointer (some ⟨w.heap.size,0,none⟩), .pointer (some ⟨w.heap.size+1,0,none⟩), .pointer (some ⟨w.heap.size+1+1,0,none⟩)]) (by simp) (by simp [go_sem]) ?_
   refine(bqC w.heap.size (w.heap.size+1) (w.heap.size+1+1) 0 2 aqZ _ _ _ XC1.out rfl XP1.out XE1.out (by omega) (by omega) (by omega) []).mono ?_
   rintro e u' w'' ⟨rfl,rfl,hC,hP,hE,hb⟩
   exact⟨_,cqp rfl rfl rfl rfl hC hP hE Tryz.underlying28 rfl (by kernel_rfl) Tryz.underlying3 rfl Tryz.underlying29 rfl,bqD HP.out rfl (HB1.out.trans (bqi hb (by omega) (by intro k hk;simp at hk;omega)))⟩
  have hq3:decide ((8000:Int) < (k1:Int))=false:=by rw [decide_eq_false_iff_not];omega
  have hq4: ¬(8000:Int) < (k1:Int):=by omega
  have HBIG:=Hq (show¬(262144<text.size∨8000< (aqI text).length) by rw [HLEN.out];omega)
  have hkB:k1≤8000:=by omega
  clear hA hB
  go_wp2_with fail
  obtain⟨kk,hkk⟩: ∃kk,kk=k1:=⟨_,rfl⟩
  rw [←hkk]
  rw [←hkk] at HLEN hkB
  clear hkk
 rotate_left
 focus
  have hz1:z.toList≠ []:=by rw [ByteArray.toList_eq];have hl:z.data.toList.length=z.size:=Array.length_toList;intro e;rw [e] at hl;simp at hl;omega
  have hze:(z.toList== [])=false:=by rw [beq_eq_false_iff_ne];exact hz1
  have hzf:z.toList.isEmpty=false:=by cases h:z.toList with|nil=>exact absurd h hz1|cons a l=>rfl
  have HLEN:=Hq (show(aqI text).length=k1+1 by rw [HAL.out,if_neg (by omega),List.length_append,HK1.out];rfl)
  clear hz0 hz1 hzb
  by_cases hA:262144<text.size
  ·have hq1:decide ((262144:Int) < (text.size:Int))=true:=by rw [decide_eq_true_eq];omega
   have hq2:(262144:Int) < (text.size:Int):=by omega
   have HP:=Hq (show cq9 aq1 text= .error (0,2) by unfold cq9;rw [if_pos (.inl hA)])
   clear hA
   go_wp2_with fail
   refine leaves_cons (f:=21) (args:= #[.pointer (some ⟨w.heap.size,0,none⟩), .pointer (some ⟨w.heap.size+1,0,none⟩), .pointer (some ⟨w.heap.size+1+1,0,none⟩)]) (by simp) (by simp [go_sem]) ?_
   refine(bqC w.heap.size (w.heap.size+1) (w.heap.size+1+1) 0 2 aqZ _ _ _ XC1.out rfl XP1.out XE1.out (by omega) (by omega) (by omega) []).mono ?_
   rintro e u' w'' ⟨rfl,rfl,hC,hP,hE,hb⟩
   exact⟨_,cqp rfl rfl rfl rfl hC hP hE Tryz.underlying28 rfl (by kernel_rfl) Tryz.underlying3 rfl Tryz.underlying29 rfl,bqD HP.out rfl (HB1.out.trans (bqi hb (by omega) (by intro k hk;simp at hk;omega)))⟩
  have hq1:decide ((262144:Int) < (text.size:Int))=false:=by rw [decide_eq_false_iff_not];omega
  have hq2: ¬(262144:Int) < (text.size:Int):=by omega
  by_cases hB:8000<k1+1
  ·have hq3:decide ((8000:Int) < ((k1:Int)+1))=true:=by rw [decide_eq_true_eq];omega
   have hq4:(8000:Int) < ((k1:Int)+1):=by omega
   have HP:=Hq (show cq9 aq1 text= .error (0,2) by unfold cq9;rw [if_pos (.inr (by rw [HLEN.out];exact hB))])
   clear hB
   go_wp2_with fail
   refine leaves_cons (f:=21) (args:= #[.pointer (some ⟨w.heap.size,0,none⟩), .pointer (some ⟨w.heap.size+1,0,none⟩), .pointer (some ⟨w.heap.size+1+1,0,none⟩)]) (by simp) (by simp [go_sem]) ?_
   refine(bqC w.heap.size (w.heap.size+1) (w.heap.size+1+1) 0 2 aqZ _ _ _ XC1.out rfl XP1.out XE1.out (by omega) (by omega) (by omega) []).mono ?_
   rintro e u' w'' ⟨rfl,rfl,hC,hP,hE,hb⟩
   exact⟨_,cqp rfl rfl rfl rfl hC hP hE Tryz.underlying28 rfl (by kernel_rfl) Tryz.underlying3 rfl Tryz.underlying29 rfl,bqD HP.out rfl (HB1.out.trans (bqi hb (by omega) (by intro k hk;simp at hk;omega)))⟩
  have hq3:decide ((8000:Int) < ((k1:Int)+1))=false:=by rw [decide_eq_false_iff_not];omega
  have hq4: ¬(8000:Int) < ((k1:Int)+1):=by omega
  have HBIG:=Hq (show¬(262144<text.size∨8000< (aqI text).length) by rw [HLEN.out];omega)
  have hkB:k1+1≤8000:=by omega
  clear hA hB
  go_wp2_with fail
  obtain⟨kk,hkk⟩: ∃kk,kk=k1+1:=⟨_,rfl⟩
  rw [show(k1:Int)+1=(kk:Int) by omega, ←hkk]
  rw [←hkk] at HLEN hkB
  clear hkk
 all_goals
  obtain⟨w2,hw2⟩: ∃W,W=(w1.alloc (.map #[] 0)).alloc (.cells #[.int .i64 0, .int .i64 52, .slice none 0 0, .int .i64 0, .int .i64 0, .int .i64 0, .slice none 0 0, .slice none 0 0, .slice none 0 0, .map (some (w.heap.size+1+1+1+1)), .int .i64 0, .int .i64 0, .pointer none] 67):=⟨_,rfl⟩
  rw [←hw2]
  have B2:=((Below.refl w1.heap.size w1).alloc (Nat.le_refl _) (.map #[] 0)).alloc (by simp) (.cells #[.int .i64 0, .int .i64 52, .slice none 0 0, .int .i64 0, .int .i64 0, .int .i64 0, .slice none 0 0, .slice none 0 0, .slice none 0 0, .map (some (w.heap.size+1+1+1+1)), .int .i64 0, .int .i64 0, .pointer none] 67)
  rw [←hw2] at B2
  have HB2:=Hq (HB1.out.trans (B2.mono (by omega)))
  have XC2:=Hq (XC1.out.below B2 XC1.out.lt)
  have XP2:=Hq (XP1.out.below B2 XP1.out.lt)
  have XE2:=Hq (XE1.out.below B2 XE1.out.lt)
  have HLC2:=Hq (show∀(j:Nat) s,(aqI text)[j]?=some s→w2.cell? ⟨w.heap.size+1+1+1,j,none⟩=some (.string s) from fun j s hs=> (B2.cell (p:=⟨w.heap.size+1+1+1,j,none⟩) (by show w.heap.size+1+1+1<_;omega)).trans (HLC.out j s hs))
  have hz2:w2.heap.size=w.heap.size+1+1+1+1+1+1:=by rw [hw2];simp [hz1]
  have MK0:=Hq (show MkC w2 (paint (paint (fun _=>0) (w.heap.size+1+1+1+1+1) 1) (w.heap.size+1+1+1+1) 2) (w.heap.size+1+1+1+1) (w.heap.size+1+1+1+1+1) .new ⟨.slice none 0 0, .slice none 0 0, .slice none 0 0, .slice none 0 0,w.heap.size+1+1+1+1, .pointer none⟩ from oq4 (by omega) (by omega) (by omega) (by omega) (by omega) (by rw [hw2];exact aql _ _ _ _ (by simp [hz1])) (by rw [hw2];have h:=(lqf w1).keep (w':=(w1.alloc (.map #[] 0)).alloc (.cells #[.int .i64 0, .int .i64 52, .slice none 0 0, .int .i64 0, .int .i64 0, .int .i64 0, .slice none 0 0, .slice none 0 0, .slice none 0 0, .map (some (w.heap.size+1+1+1+1)), .int .i64 0, .int .i64 0, .pointer none] 67)) (Below.heap_alloc _ _ _ (by simp));rw [hz1] at h;exact h) (by omega))
  obtain⟨ρ0,hρ⟩: ∃r,paint (paint (fun _=>0) (w.heap.size+1+1+1+1+1) 1) (w.heap.size+1+1+1+1) 2=r:=⟨_,rfl⟩
  have RC:=Hq (show ρ0 w.heap.size=0∧ρ0 (w.heap.size+1)=0∧ρ0 (w.heap.size+1+1)=0∧ρ0 (w.heap.size+1+1+1)=0 by rw [←hρ];refine⟨?_, ?_, ?_, ?_⟩ <;> (rw [aqi (by omega),aqi (by omega)]))
  rw [hρ] at MK0
  have HZ2:=Hq hz2
  clear hw2 B2 hρ hz1 hz2 hcnt cz hw64 hw65 hze hzf hq1 hq2 hq3 hq4 hb1 hxw
  go_loopw [7,8,9,45,60,71] (fun _ _ _ i _ _ wr=> ∃(j:Nat) (σ:AsK) (ρ:Nat→Nat) (V:MkV),i= .int .i64 j∧j≤kk∧Hid (eq3 (aqI text) 0 .new=eq3 ((aqI text).drop j) j σ)∧Hid (MkC wr ρ (w.heap.size+1+1+1+1) (w.heap.size+1+1+1+1+1) σ V)∧Hid (cqZ wr ρ (w.heap.size+1+1+1+1) V.mv σ.m)∧Hid (cqB σ (20*j))∧Hid (Chg [1,2,3,4,5,6,7,8,9,10,11,12,13] w2 ρ0 wr ρ)) (fun _ _ _ i _ _ _=> (kk) - (RowKit.intOf i).toNat)
  case atStart=>exact⟨0, .new,ρ0,_,rfl,by omega,Hq rfl,MK0,Hq (show cqZ _ _ _ _ none from rfl),Hq (hqC _),Hq (Chg.refl _ _ _)⟩
  case round=>
   obtain⟨wr1,hwr⟩: ∃W,W=wr:=⟨_,rfl⟩
   subst hwr
   obtain⟨j,σ,ρ,V,rfl,hj,HR,HK,HO,HS,HG⟩:=hrel
   have hkl:=HK.out.box.lt
   have hsz2:=HG.out.size
   obtain⟨t1,t2,t3,t4,t5,t6,t7,t8,t9,t10,t11,t12⟩:=far (w.heap.size+1+1+1+1+1) wr1.heap.size hkl
   by_cases hlt:j<kk
   ·obtain⟨s,hs⟩: ∃s,(aqI text)[j]?=some s:=⟨_,List.getElem?_eq_getElem (by rw [HLEN.out];exact hlt)⟩
    have hss:=eq2 (List.mem_of_getElem? hs)
    have HSS:=Hq hs
    have HLL:=Hq (HLS.out s (List.mem_of_getElem? hs))
    have cs:=(HG.out.cell0 (by decide) (show w.heap.size+1+1+1<w2.heap.size by rw [HZ2.out];omega) RC.out.2.2.2 j).trans (HLC2.out j s hs)
    have z11:=HK.out.box.frozen 11
    have x11:=HK.out.box.cell 11 rfl
    clear hs
    go_wp2_with (go_at_call 23;refine aqa ?_)
    refine aqb ?_
    have S1:=HK.out.setc 11 (.int .i64 (((j+1:Nat)):Int)) (σ':={ σ with line:=j+1 }) (V':=V) rfl rfl rfl rfl rfl ⟨rfl,rfl,rfl,rfl,rfl⟩
    obtain⟨w3,hw3⟩: ∃W,W=wr1.setCell ⟨w.heap.size+1+1+1+1+1,11,none⟩ (.int .i64 (((j+1:Nat)):Int)):=⟨_,rfl⟩
    rw [←hw3] at S1
    first|rw [←hw3] | (rw [show wr1.setCell ⟨w.heap.size+1+1+1+1+1,11,none⟩ (.int .i64 ((j:Int)+1))=w3 from hw3.symm])
    have K1:=Hq S1.1
    have O1:=Hq (show cqZ w3 ρ (w.heap.size+1+1+1+1) V.mv σ.m from by
     have h:=HO.out
     cases hm:σ.m with
     |none=>rw [hm] at h;exact h
     |some m=>rw [hm] at h;obtain⟨xb,U,h1,h2⟩:=h;exact⟨xb,U,h1,h2.keep S1.2 (by intro c h1 h2 hm;simp at hm;omega)⟩)
    have G1:=Hq (HG.out.trans (S1.2.mono (by simp)))
    have SM1:=Hq (eqY HS.out (j+1))
    clear hw3 S1 cs z11 x11 t1 t2 t3 t4 t5 t6 t7 t8 t9 t10 t11 t12
    refine(kq1 s w3 (by omega)).mono ?_
    rintro e w4 ⟨v,rfl,hb4,hown⟩
    obtain⟨A,cap,rfl,hwd⟩:=lqM (ρ:=ρ) hown (fun g hg=>K1.out.low.fresh ((hown.lt g hg).1))
    have K2:=Hq (K1.out.below hb4)
    have O2:=Hq (show cqZ w4 ρ (w.heap.size+1+1+1+1) V.mv σ.m from by
     have h:=O1.out
     cases hm:σ.m with
     |none=>rw [hm] at h;exact h
     |some m=>rw [hm] at h;obtain⟨xb,U,h1,h2⟩:=h;exact⟨xb,U,h1,h2.below hb4⟩)
    have G2:=Hq (G1.out.trans (Chg.of_below hb4))
    have WD:=Hq hwd
    have hjn:20*j≤160000:=by omega
    have hwz:=dqp s
    obtain⟨ws,hws⟩: ∃ws,bqj s=ws:=⟨_,rfl⟩
    have HWS:=Hq hws
    rw [hws] at hwd WD hwz
    rw [hws]
    clear hown hb4 hws
    cases ws with
    |nil=>
     have HD:=Hq (show AsK.doLine { σ with line:=j+1 } s= .ok { σ with line:=j+1 } by rw [cqW,HWS.out];exact if_pos (.inl rfl))
     have hl0:(((([]:List ByteArray).length:Nat):Int)==0)=true:=rfl
     clear hwd
     go_wp2_with fail
     have HR2:=Hq (HR.out.trans (cqJ HSS.out HD.out))
     go_roundw
     case rel=>exact⟨j+1,{ σ with line:=j+1 },ρ,V,by go_num,by omega,HR2,K2,O2,Hq (SM1.out.mono (by omega)),G2⟩
     case measure=>simp [RowKit.intOf];omega
    |cons s0 ws=>
     have hl0:((((s0::ws).length:Nat):Int)==0)=false:=by rw [beq_eq_false_iff_ne];simp only [List.length_cons];omega
     have hl1:(((ws.length:Int)+1)==0)=false:=by rw [beq_eq_false_iff_ne];omega
     obtain⟨b,off,hA,hbl,hub,hcc⟩:=hwd.hat (by simp)
     have c0:=hcc 0 s0 rfl
     rw [Nat.add_zero] at c0
     have hs0:=(hwz s0 (by simp)).2
     have hs01:=(hwz s0 (by simp)).1
     subst hA
     obtain⟨u,hu⟩: ∃u,s0[0]'hs0=u:=⟨_,rfl⟩
     have HU:=Hq (show s0.data.toList.headD 0=u by rw [←hu];exact(dqQ s0 hs0).symm)
     have hle:=hwd.le
     have hlm:=hwd.max
     simp only [List.length_cons] at hle
     clear hwd hcc hwz
     by_cases h35:u=35
     ·have hq35:((u.toNat:Int)==35)=true:=by rw [h35];rfl
      have HD:=Hq (show AsK.doLine { σ with line:=j+1 } s= .ok { σ with line:=j+1 } by rw [cqW,HWS.out];exact if_pos (.inr (by rw [List.headD_cons,HU.out,h35])))
      clear h35
      go_wp2_with fail
      have HR2:=Hq (HR.out.trans (cqJ HSS.out HD.out))
      go_roundw
      case rel=>exact⟨j+1,{ σ with line:=j+1 },ρ,V,by go_num,by omega,HR2,K2,O2,Hq (SM1.out.mono (by omega)),G2⟩
      case measure=>simp [RowKit.intOf];omega
     have hq35:((u.toNat:Int)==35)=false:=by
      rw [beq_eq_false_iff_ne]
      intro e
      exact h35 (UInt8.toNat_inj.1 (by show u.toNat=35;omega))
     have HNM:=Hq (show¬(bqj s= []∨((bqj s).headD ⟨#[]⟩).data.toList.headD 0=35) by rw [HWS.out];rintro(h|h);cases h;rw [List.headD_cons,HU.out] at h;exact h35 h)
     have hs16:s.size≤65536:=by
      rcases HLL.out with h|h
      ·exact absurd h HNM.out
      exact h
     have HSW:=Hq (show SmW (s0::ws) by rw [←HWS.out];exact fqn hs16)
     have HNE:=Hq (show∀x∈s0::ws,0<x.size by rw [←HWS.out];exact fun x hx=> (dqp s x hx).2)
     clear h35
     have c12:=K2.out.box.cell 12 rfl
     cases hm:σ.m with
     |none=>
      have hmv:V.mv= .pointer none:=by have h:=O2.out;rw [hm] at h;exact h
      rw [hmv] at c12
      go_wp2_with (go_at_call 25;refine aqa ?_)
      refine aqb ?_
      refine(iqm ρ (w.heap.size+1+1+1+1) (w.heap.size+1+1+1+1+1) { σ with line:=j+1 } V _ _ _ (s0::ws) w4 K2.out O2.out WD.out HSW.out (by simp) (by have:=HS.out.npool;show σ.c.pool.length≤_;omega) (by have:=HS.out.nflds;show σ.c.flds.length≤_;omega) (by have:=HS.out.nmths;show σ.c.mths.length≤_;omega) (by have:=HS.out.nifs;show σ.c.ifs.length≤_;omega)).mono ?_
      intro e w5 hq
      cases hout:AsK.outside { σ with line:=j+1 } (s0::ws) with
      |none=>
       rw [hout] at hq
       obtain⟨he,hb5⟩:=hq
       obtain⟨nl,hnl⟩: ∃nl,nl=j+1:=⟨_,rfl⟩
       replace he:e= .panicked [{ v:=cqg (nl:Int) 60,recovered:=false }]:=by rw [hnl];exact he
       rw [he]
       have HD:=Hq (show AsK.doLine { σ with line:=j+1 } s= .error nl by rw [hnl];exact fq4 HNM.out hm (by rw [HWS.out];exact hout))
       clear hnl
       have HP:=Hq (show cq9 aq1 text= .error (nl,60) from eqQ HBIG.out (HR.out.trans (eqP HSS.out HD.out)))
       have XC5:=Hq (show Bx w5 _ _ _ from(G2.out.bx XC2.out (by rw [RC.out.1];decide)).below hb5 (by omega))
       have XP5:=Hq (show Bx w5 _ _ _ from(G2.out.bx XP2.out (by rw [RC.out.2.1];decide)).below hb5 (by omega))
       have XE5:=Hq (show Bx w5 _ _ _ from(G2.out.bx XE2.out (by rw [RC.out.2.2.1];decide)).below hb5 (by omega))
       have HBW5:=Hq (show Below w.heap.size w w5 from HB2.out.trans (((G2.out.below MK0.out.low MK0.out.hB (by decide)).trans hb5).mono (by omega)))
       have hz5:=HBW5.out.size
       have h5a:=XC5.out.lt
       have h5b:=XP5.out.lt
       have h5c:=XE5.out.lt
       clear hb5 he c12
       go_wp2_with fail
       refine leaves_cons (f:=21) (args:= #[.pointer (some ⟨w.heap.size,0,none⟩), .pointer (some ⟨w.heap.size+1,0,none⟩), .pointer (some ⟨w.heap.size+1+1,0,none⟩)]) (by simp) (by simp [go_sem]) ?_
       refine(bqC w.heap.size (w.heap.size+1) (w.heap.size+1+1) nl 60 aqZ _ _ _ XC5.out rfl XP5.out XE5.out (by omega) (by omega) (by omega) []).mono ?_
       rintro e u' w'' ⟨rfl,rfl,hC,hP,hE,hb⟩
       exact⟨_,cqp rfl rfl rfl rfl hC hP hE Tryz.underlying28 rfl (by kernel_rfl) Tryz.underlying3 rfl Tryz.underlying29 rfl,bqD HP.out rfl (HBW5.out.trans (bqi hb (by omega) (by intro k hk;simp at hk;omega)))⟩
      |some σ'=>
       rw [hout] at hq
       obtain⟨he,ρ5,V5,hk5,ho5,hg5⟩:=hq
       rw [he]
       have HD:=Hq (show AsK.doLine { σ with line:=j+1 } s= .ok σ' from fq5 HNM.out hm (by rw [HWS.out];exact hout))
       have K5:=Hq hk5
       have O5:=Hq ho5
       have G5:=Hq (G2.out.trans (hg5.mono (by simp [lq6])))
       have S5:=Hq (cqv SM1.out (by omega) HLL.out HD.out)
       have HR2:=Hq (HR.out.trans (cqJ HSS.out HD.out))
       clear hk5 ho5 hg5 he c12
       go_wp2_with fail
       go_roundw
       case rel=>exact⟨j+1,σ',ρ5,V5,by go_num,by omega,HR2,K5,O5,Hq (S5.out.mono (by omega)),G5⟩
       case measure=>simp [RowKit.intOf];omega
     |some m=>
      have hmo: ∃xb U,V.mv= .pointer (some ⟨xb,0,none⟩)∧MtC w4 ρ (w.heap.size+1+1+1+1) xb m U:=by have h:=O2.out;rw [hm] at h;exact h
      obtain⟨xb,U,hmv,hmt⟩:=hmo
      rw [hmv] at c12
      go_wp2_with (go_at_call 24;refine aqa ?_)
      refine aqb ?_
      refine(jq6 HIN HEN ρ (w.heap.size+1+1+1+1) (w.heap.size+1+1+1+1+1) xb { σ with line:=j+1 } V m U _ _ _ (s0::ws) w4 (20*j) K2.out hmv hmt WD.out HSW.out (by simp) HNE.out SM1.out (HS.out.op m hm) (by omega)).mono ?_
      intro e w5 hq
      cases hout:AsK.inside { σ with line:=j+1 } m (s0::ws) with
      |error nl=>
       rw [hout] at hq
       obtain⟨he,hb5⟩:=hq
       replace he:e= .panicked [{ v:=cqg (nl:Int) 60,recovered:=false }]:=he
       rw [he]
       have HD:=Hq (show AsK.doLine { σ with line:=j+1 } s= .error nl from(dqs (σ:={ σ with line:=j+1 }) HNM.out hm).trans (by rw [HWS.out];exact hout))
       have HP:=Hq (show cq9 aq1 text= .error (nl,60) from eqQ HBIG.out (HR.out.trans (eqP HSS.out HD.out)))
       have XC5:=Hq (show Bx w5 _ _ _ from(G2.out.bx XC2.out (by rw [RC.out.1];decide)).below hb5 (by omega))
       have XP5:=Hq (show Bx w5 _ _ _ from(G2.out.bx XP2.out (by rw [RC.out.2.1];decide)).below hb5 (by omega))
       have XE5:=Hq (show Bx w5 _ _ _ from(G2.out.bx XE2.out (by rw [RC.out.2.2.1];decide)).below hb5 (by omega))
       have HBW5:=Hq (show Below w.heap.size w w5 from HB2.out.trans (((G2.out.below MK0.out.low MK0.out.hB (by decide)).trans hb5).mono (by omega)))
       have hz5:=HBW5.out.size
       have h5a:=XC5.out.lt
       have h5b:=XP5.out.lt
       have h5c:=XE5.out.lt
       clear hb5 he c12
       go_wp2_with fail
       refine leaves_cons (f:=21) (args:= #[.pointer (some ⟨w.heap.size,0,none⟩), .pointer (some ⟨w.heap.size+1,0,none⟩), .pointer (some ⟨w.heap.size+1+1,0,none⟩)]) (by simp) (by simp [go_sem]) ?_
       refine(bqC w.heap.size (w.heap.size+1) (w.heap.size+1+1) nl 60 aqZ _ _ _ XC5.out rfl XP5.out XE5.out (by omega) (by omega) (by omega) []).mono ?_
       rintro e u' w'' ⟨rfl,rfl,hC,hP,hE,hb⟩
       exact⟨_,cqp rfl rfl rfl rfl hC hP hE Tryz.underlying28 rfl (by kernel_rfl) Tryz.underlying3 rfl Tryz.underlying29 rfl,bqD HP.out rfl (HBW5.out.trans (bqi hb (by omega) (by intro k hk;simp at hk;omega)))⟩
      |ok σ'=>
       rw [hout] at hq
       obtain⟨he,ρ5,V5,hk5,ho5,hg5⟩:=hq
       rw [he]
       have HD:=Hq (show AsK.doLine { σ with line:=j+1 } s= .ok σ' from(dqs (σ:={ σ with line:=j+1 }) HNM.out hm).trans (by rw [HWS.out];exact hout))
       have K5:=Hq hk5
       have O5:=Hq ho5
       have G5:=Hq (G2.out.trans (hg5.mono (by simp [lq6])))
       have S5:=Hq (cqv SM1.out (by omega) HLL.out HD.out)
       have HR2:=Hq (HR.out.trans (cqJ HSS.out HD.out))
       clear hk5 ho5 hg5 he c12
       go_wp2_with fail
       go_roundw
       case rel=>exact⟨j+1,σ',ρ5,V5,by go_num,by omega,HR2,K5,O5,Hq (S5.out.mono (by omega)),G5⟩
       case measure=>simp [RowKit.intOf];omega
   have hjK:j=kk:=by omega
   have HRE:=Hq (show eq3 (aqI text) 0 .new= .ok σ by rw [HR.out,List.drop_of_length_le (by rw [HLEN.out];omega)];rfl)
   have c12:=HK.out.box.cell 12 rfl
   have XC5:=Hq (show Bx wr1 _ _ _ from(HG.out.bx XC2.out (by rw [RC.out.1];decide)))
   have XP5:=Hq (show Bx wr1 _ _ _ from(HG.out.bx XP2.out (by rw [RC.out.2.1];decide)))
   have XE5:=Hq (show Bx wr1 _ _ _ from(HG.out.bx XE2.out (by rw [RC.out.2.2.1];decide)))
   have HBW5:=Hq (show Below w.heap.size w wr1 from HB2.out.trans (((HG.out.below MK0.out.low MK0.out.hB (by decide))).mono (by omega)))
   have h5a:=XC5.out.lt
   have h5b:=XP5.out.lt
   have h5c:=XE5.out.lt
   cases hm:σ.m with
   |some m=>
    have hmo: ∃xb U,V.mv= .pointer (some ⟨xb,0,none⟩)∧MtC wr1 ρ (w.heap.size+1+1+1+1) xb m U:=by have h:=HO.out;rw [hm] at h;exact h
    obtain⟨xb,U,hmv,hmt⟩:=hmo
    rw [hmv] at c12
    have x8:=hmt.box.cell 8 rfl
    have HP:=Hq (show cq9 aq1 text= .error (m.line,60) from jqb HBIG.out HRE.out hm)
    clear hmt hm
    go_wp2_with fail
    refine leaves_cons (f:=21) (args:= #[.pointer (some ⟨w.heap.size,0,none⟩), .pointer (some ⟨w.heap.size+1,0,none⟩), .pointer (some ⟨w.heap.size+1+1,0,none⟩)]) (by simp) (by simp [go_sem]) ?_
    refine(bqC w.heap.size (w.heap.size+1) (w.heap.size+1+1) m.line 60 aqZ _ _ _ XC5.out rfl XP5.out XE5.out (by omega) (by omega) (by omega) []).mono ?_
    rintro e u' w'' ⟨rfl,rfl,hC,hP,hE,hb⟩
    exact⟨_,cqp rfl rfl rfl rfl hC hP hE Tryz.underlying28 rfl (by kernel_rfl) Tryz.underlying3 rfl Tryz.underlying29 rfl,bqD HP.out rfl (HBW5.out.trans (bqi hb (by omega) (by intro k hk;simp at hk;omega)))⟩
   |none=>
    have hmv:V.mv= .pointer none:=by have h:=HO.out;rw [hm] at h;exact h
    rw [hmv] at c12
    have HM:=Hq hm
    have HMV:=Hq hmv
    have z11:=HK.out.box.frozen 11
    have x11:=HK.out.box.cell 11 rfl
    have x10:=HK.out.box.cell 10 rfl
    have S1:=HK.out.setc 11 (.int .i64 ((0:Nat):Int)) (σ':={ σ with line:=0 }) (V':=V) rfl rfl rfl rfl rfl ⟨rfl,rfl,rfl,rfl,rfl⟩
    obtain⟨w3,hw3⟩: ∃W,W=wr1.setCell ⟨w.heap.size+1+1+1+1+1,11,none⟩ (.int .i64 ((0:Nat):Int)):=⟨_,rfl⟩
    rw [←hw3] at S1
    have K1:=Hq S1.1
    have G1:=Hq (HG.out.trans (S1.2.mono (by simp)))
    have SM1:=Hq (eqY HS.out 0)
    clear S1 hm hmv
    by_cases hp:σ.part=0
    ·have hq1:((σ.part:Int) !=0)=false:=by rw [hp];rfl
     have HP:=Hq (show cq9 aq1 text= .error (0,60) from jqc HBIG.out HRE.out HM.out hp)
     have HW3:=Hq hw3
     clear hp hw3
     go_wp2_with (go_at_call 26;refine aqa ?_)
     refine aqb ?_
     rw [show wr1.setCell ⟨w.heap.size+1+1+1+1+1,11,none⟩ (.int .i64 0)=w3 from HW3.out.symm]
     refine(aqG (w.heap.size+1+1+1+1+1) _ 0 _ K1.out.box rfl).mono ?_
     rintro e w5 ⟨rfl,rfl⟩
     have XC6:=Hq (show Bx w5 _ _ _ from(G1.out.bx XC2.out (by rw [RC.out.1];decide)))
     have XP6:=Hq (show Bx w5 _ _ _ from(G1.out.bx XP2.out (by rw [RC.out.2.1];decide)))
     have XE6:=Hq (show Bx w5 _ _ _ from(G1.out.bx XE2.out (by rw [RC.out.2.2.1];decide)))
     have HBW6:=Hq (show Below w.heap.size w w5 from HB2.out.trans (((G1.out.below MK0.out.low MK0.out.hB (by decide))).mono (by omega)))
     have h6a:=XC6.out.lt
     have h6b:=XP6.out.lt
     have h6c:=XE6.out.lt
     go_wp2_with fail
     refine leaves_cons (f:=21) (args:= #[.pointer (some ⟨w.heap.size,0,none⟩), .pointer (some ⟨w.heap.size+1,0,none⟩), .pointer (some ⟨w.heap.size+1+1,0,none⟩)]) (by simp) (by simp [go_sem]) ?_
     refine(bqC w.heap.size (w.heap.size+1) (w.heap.size+1+1) 0 60 aqZ _ _ _ XC6.out rfl XP6.out XE6.out (by omega) (by omega) (by omega) []).mono ?_
     rintro e u' w'' ⟨rfl,rfl,hC,hP,hE,hb⟩
     exact⟨_,cqp rfl rfl rfl rfl hC hP hE Tryz.underlying28 rfl (by kernel_rfl) Tryz.underlying3 rfl Tryz.underlying29 rfl,bqD HP.out rfl (HBW6.out.trans (bqi hb (by omega) (by intro k hk;simp at hk;omega)))⟩
    have hq1:((σ.part:Int) !=0)=true:=by rw [bne_iff_ne];omega
    have HPT:=Hq hp
    have HW3:=Hq hw3
    clear hp hw3
    go_wp2_with (go_at_call 26;refine aqa ?_)
    refine aqb ?_
    rw [show wr1.setCell ⟨w.heap.size+1+1+1+1+1,11,none⟩ (.int .i64 0)=w3 from HW3.out.symm]
    refine(aq0 (w.heap.size+1+1+1+1+1) _ 0 _ K1.out.box rfl).mono ?_
    rintro e w5 ⟨rfl,rfl⟩
    clear z11 x11 x10 c12
    go_wp2_with (go_at_call 27;refine aqa ?_)
    refine aqb ?_
    refine(bqH ρ (w.heap.size+1+1+1+1) (w.heap.size+1+1+1+1+1) { σ with line:=0 } V _ K1.out (by have:=HS.out.npool;show σ.c.pool.length≤_;omega)).mono ?_
    rintro e w6 ⟨rfl,ρ6,pv6,hk6,hg6⟩
    obtain⟨σ6,hσ6⟩: ∃x,({ σ with line:=0 }:AsK).object=x:=⟨_,rfl⟩
    rw [hσ6] at hk6
    have HC6:=Hq (show σ.object.c=σ6.c by rw [←hσ6];exact(lqP σ).symm)
    have SM6:=Hq (show cqB σ6 (20*j+2) by rw [←hσ6];exact dqX SM1.out (by omega))
    obtain⟨V6,hV6⟩: ∃x:MkV,{ V with pv:=pv6 }=x:=⟨_,rfl⟩
    rw [hV6] at hk6
    have K6:=Hq hk6
    have G6:=Hq (G1.out.trans (hg6.mono (by simp)))
    clear hk6 hg6 hσ6 hV6
    go_wp2_with (first| (refine cq5 rfl _ _ rfl (w.heap.size+1+1+1+1+1) rfl (σ6.c.cells V6.pv V6.iv V6.fv V6.tv) (nq8 K6.out.box) _ Tryz.underlying28 rfl (by kernel_rfl) ?_) | (go_at_call 17;refine aqa ?_))
    refine aqb ?_
    refine(jqt σ6.c V6.pv V6.iv V6.fv V6.tv _ _ (jqa K6.out SM6.out (by omega)) (fqb SM6.out)).mono ?_
    rintro e w7 ⟨rfl,hb7⟩
    have K7:=Hq (K6.out.below hb7)
    have G7:=Hq (G6.out.trans (Chg.of_below hb7))
    clear hb7
    have XC7:=Hq (show Bx w7 _ _ _ from(G7.out.bx XC2.out (by rw [RC.out.1];decide)))
    have XP7:=Hq (show Bx w7 _ _ _ from(G7.out.bx XP2.out (by rw [RC.out.2.1];decide)))
    have XE7:=Hq (show Bx w7 _ _ _ from(G7.out.bx XE2.out (by rw [RC.out.2.2.1];decide)))
    have HBW7:=Hq (show Below w.heap.size w w7 from HB2.out.trans (((G7.out.below MK0.out.low MK0.out.hB (by decide))).mono (by omega)))
    have h7a:=XC7.out.lt
    have h7b:=XP7.out.lt
    have h7c:=XE7.out.lt
    obtain⟨ck,hck⟩: ∃ck,aq1 σ6.c=ck:=⟨_,rfl⟩
    have HCK:=Hq hck
    rw [hck]
    clear hck
    by_cases hk0:ck=0
    ·have HP:=Hq (show cq9 aq1 text= .ok σ6.c by rw [←HC6.out];exact jqd HBIG.out HRE.out HM.out HPT.out (by rw [HC6.out,HCK.out];exact hk0))
     subst hk0
     have cP:=(XP7.out.row_other w.heap.size (σ6.c.cells V6.pv V6.iv V6.fv V6.tv) (by omega)).cell 0 rfl
     have zP:=(XP7.out.row_other w.heap.size (σ6.c.cells V6.pv V6.iv V6.fv V6.tv) (by omega)).frozen 0
     have cE:=(XE7.out.row_other w.heap.size (σ6.c.cells V6.pv V6.iv V6.fv V6.tv) (by omega)).cell 0 rfl
     have zE:=(XE7.out.row_other w.heap.size (σ6.c.cells V6.pv V6.iv V6.fv V6.tv) (by omega)).frozen 0
     go_wp2_with (first| (refine cq5 rfl _ _ rfl (w.heap.size+1+1+1+1+1) rfl (σ6.c.cells V6.pv V6.iv V6.fv V6.tv) (nq8 K7.out.box) _ Tryz.underlying28 rfl (by kernel_rfl) ?_) | (refine wpList_store_row rfl _ _ _ rfl w.heap.size (σ6.c.cells V6.pv V6.iv V6.fv V6.tv).toArray rfl rfl _ _ XC7.out (by kernel_rfl) rfl (lqO K7.out) ?_))
     refine leaves_cons (f:=21) (args:= #[.pointer (some ⟨w.heap.size,0,none⟩), .pointer (some ⟨w.heap.size+1,0,none⟩), .pointer (some ⟨w.heap.size+1+1,0,none⟩)]) (by simp) (by simp [go_sem]) ?_
     refine(iqB ⟨w.heap.size,0,none⟩ ⟨w.heap.size+1,0,none⟩ ⟨w.heap.size+1+1,0,none⟩ _).mono ?_
     rintro e u' w'' ⟨rfl,rfl,rfl⟩
     have hC:=((XC7.out.row (σ6.c.cells V6.pv V6.iv V6.fv V6.tv)).set_other ⟨w.heap.size+1,0,none⟩ (.int .i64 0) (by simp)).set_other ⟨w.heap.size+1+1,0,none⟩ (.int .i64 0) (by simp;omega)
     have hP:=((XP7.out.row_other w.heap.size (σ6.c.cells V6.pv V6.iv V6.fv V6.tv) (by omega)).set 0 (.int .i64 0)).set_other ⟨w.heap.size+1+1,0,none⟩ (.int .i64 0) (by simp)
     have hE:=((XE7.out.row_other w.heap.size (σ6.c.cells V6.pv V6.iv V6.fv V6.tv) (by omega)).set_other ⟨w.heap.size+1,0,none⟩ (.int .i64 0) (by simp)).set 0 (.int .i64 0)
     have rC:ρ6 w.heap.size=0:=(G7.out.blk _ XC2.out.lt (by rw [RC.out.1];decide)).2.trans RC.out.1
     have rP:ρ6 (w.heap.size+1)=0:=(G7.out.blk _ XP2.out.lt (by rw [RC.out.2.1];decide)).2.trans RC.out.2.1
     have rE:ρ6 (w.heap.size+1+1)=0:=(G7.out.blk _ XE2.out.lt (by rw [RC.out.2.2.1];decide)).2.trans RC.out.2.2.1
     have gC:=hqJ (hqJ (jqe (w:=w7) rC (σ6.c.cells V6.pv V6.iv V6.fv V6.tv).toArray) (p:=⟨w.heap.size+1,0,none⟩) rP (.int .i64 0)) (p:=⟨w.heap.size+1+1,0,none⟩) rE (.int .i64 0)
     refine⟨_,cqp rfl rfl rfl rfl hC hP hE Tryz.underlying28 rfl (by kernel_rfl) Tryz.underlying3 rfl Tryz.underlying29 rfl,jq7 HP.out (show w.heap.size≤w.heap.size+1+1+1+1 by omega) rfl (SM6.out.mono (by omega)) (K7.out.keep gC (K7.out.low.mono gC.size) (by intro c h1 h2 hm;simp at hm;omega)) rfl ?_⟩
     exact((bqz HBW7.out _ _ (Nat.le_refl _)).setCell (by simp) _).setCell (by simp;omega) _
    have hk1:(ck !=0)=true:=by rw [bne_iff_ne];exact hk0
    have HP:=Hq (show cq9 aq1 text= .error (0,ck) by have h:=lqN (ck:=aq1) HBIG.out HRE.out HM.out HPT.out (by rw [HC6.out,HCK.out];exact hk0);rw [HC6.out,HCK.out] at h;exact h)
    go_wp2_with fail
    refine leaves_cons (f:=21) (args:= #[.pointer (some ⟨w.heap.size,0,none⟩), .pointer (some ⟨w.heap.size+1,0,none⟩), .pointer (some ⟨w.heap.size+1+1,0,none⟩)]) (by simp) (by simp [go_sem]) ?_
    refine(bqC w.heap.size (w.heap.size+1) (w.heap.size+1+1) 0 ck aqZ _ _ _ XC7.out rfl XP7.out XE7.out (by omega) (by omega) (by omega) []).mono ?_
    rintro e u' w'' ⟨rfl,rfl,hC,hP,hE,hb⟩
    exact⟨_,cqp rfl rfl rfl rfl hC hP hE Tryz.underlying28 rfl (by kernel_rfl) Tryz.underlying3 rfl Tryz.underlying29 rfl,bqD HP.out rfl (HBW7.out.trans (bqi hb (by omega) (by intro k hk;simp at hk;omega)))⟩
theorem dqt (v:Int) (w:World):
  Calls Tryz.prog 68 #[.int .i64 v, .int .i64 2] w fun e w'=> ∃r,e= .returned r∧w'.ownsRow w.heap.size 5 1 r 2 [.int .u8 (v/256%256), .int .u8 (v%256)]∧Below w.heap.size w w':=by
 go_enter Tryz.func68,Tryz.ntmps68
 go_wp2
 refine wp_loop_rounds 3 ?_
 rw [rounds_succ]
 go_wp2_with (at_builtin;refine bqG rfl _ _ 34 rfl Tryz.underlying34 aqu rfl (by omega) w.heap.size rfl (World.ownsRow_nil _ _ _ _) rfl rfl (eqw _ _ _) (by simp [Value.oneCell']) (by simp [maxLen]) (by omega) (by simp) ?_;intro v1 w1 ho1 hg1 hb1)
 rw [rounds_succ]
 go_wp2_with (at_builtin;refine bqG rfl _ _ 34 rfl Tryz.underlying34 aqu rfl (by omega) w.heap.size rfl (ho1.alloc _) rfl rfl (eqw _ _ _) (by simp [Value.oneCell']) (by simp [maxLen]) (by omega) (by have:=hb1.size;simp at this⊢;omega) ?_;intro v2 w2 ho2 hg2 hb2)
 rw [rounds_succ]
 go_wp2
 go_ret
 refine⟨_,rfl,ho2, ?_⟩
 exact(((Below.refl _ _).alloc (Nat.le_refl _) _).trans hb1).alloc (by have:=hb1.size;simp at this;omega) _|>.trans hb2
theorem jq8 (v:Int): [Value.int .u8 (v/256%256),Value.int .u8 (v%256)]=(aqT v).map bV:=by
 have h1:=aqF (v/256)
 have h2:=aqF v
 unfold aqT
 rw [List.map_cons,List.map_cons,List.map_nil, ←h1, ←h2]
 rfl
structure InK (w:World) (ρ:Nat→Nat) (B kb:Nat) (m:AsM) (U:RtV) (σ':AsK) (W:World) (ρ':Nat→Nat) (V':RkV):Prop where
 k:RkC W ρ' B kb σ' V' (aq4 m U)
 mt:RtC W ρ' B m U
 chg:Chg [1,3,11] w ρ W ρ'
theorem InK.below {w:World} {ρ:Nat→Nat} {B kb:Nat} {m:AsM} {U:RtV} {σ':AsK} {W W2:World} {ρ':Nat→Nat} {V':RkV} (h:InK w ρ B kb m U σ' W ρ' V') (hb:Below W.heap.size W W2):InK w ρ B kb m U σ' W2 ρ' V':=⟨h.k.below hb,h.mt.below hb,h.chg.trans (Chg.of_below hb)⟩
theorem InK.step {w:World} {ρ:Nat→Nat} {B kb:Nat} {m:AsM} {U:RtV} {σ' σ2:AsK} {W W2:World} {ρ' ρ2:Nat→Nat} {V' V2:RkV} (h:InK w ρ B kb m U σ' W ρ' V') (hk:RkC W2 ρ2 B kb σ2 V2 (aq4 m U)) (hc:Chg [1,3] W ρ' W2 ρ2):InK w ρ B kb m U σ2 W2 ρ2 V2:=
 ⟨hk,h.mt.keep hc (by intro c h1 h2 hm;simp at hm;omega),h.chg.trans (hc.mono (by simp))⟩
structure RwB (w W:World) (ρ':Nat→Nat) (g cap:Nat) (bytes:List UInt8):Prop where
 own:W.ownsRow w.heap.size 5 1 (.slice (some ⟨g,0,none⟩) bytes.length cap) bytes.length (bytes.map bV)
 un:ρ' g=0
theorem RwB.lt {w W:World} {ρ':Nat→Nat} {g cap:Nat} {bytes:List UInt8} (h:RwB w W ρ' g cap bytes):w.heap.size≤g∧g<W.heap.size:=h.own.lt g rfl
theorem RwB.chg {w W W2:World} {ρ' ρ2:Nat→Nat} {g cap:Nat} {bytes:List UInt8} {cs:List Nat} (h:RwB w W ρ' g cap bytes) (k:Chg cs W ρ' W2 ρ2) (h0:0∉cs):RwB w W2 ρ2 g cap bytes:=by
 have hb:=k.blk g h.lt.2 (by rw [h.un];exact h0)
 exact⟨iqU h.own fun q hq=>by
  obtain rfl:g=q:=by simpa [Value.ownBlock] using hq
  exact hb.1,hb.2.trans h.un⟩
theorem RwB.cells {w W:World} {ρ':Nat→Nat} {g cap:Nat} {bytes:List UInt8} (h:RwB w W ρ' g cap bytes): ∀j u,(bytes.map bV)[j]?=some u→W.cell? ((⟨g,0,none⟩:Addr).add j)=some u:=fun j u hu=>by
 have hj:=(List.getElem?_eq_some_iff.1 hu).1
 rw [List.length_map] at hj
 have:=h.own.cellAt j (by omega)
 rw [dqv,Nat.zero_add,this,hu]
theorem InK.app {w:World} {ρ:Nat→Nat} {B kb:Nat} {m:AsM} {U:RtV} {σ':AsK} {W W2:World} {ρ':Nat→Nat} {V':RkV} {g cap:Nat} {bytes:List UInt8} (h:InK w ρ B kb m U σ' W ρ' V') (hr:RwB w W ρ' g cap bytes) (hg:W.grownBy W2 (some g)):InK w ρ B kb m U σ' W2 ρ' V':=by
 have hC:Chg [0] W ρ' W2 ρ':=⟨hg.os,hg.tape,hg.output,hg.size,fun q hq hc=> ⟨hg.block q hq (fun e=>hc (by injection e with e;rw [e,hr.un];simp)),rfl⟩⟩
 refine⟨h.k.keep hC (h.k.low.mono hg.size) (by intro c h1 _ hm;simp at hm;omega),h.mt.keep hC (by intro c h1 _ hm;simp at hm;omega),⟨hC.os.trans h.chg.os,hC.tape.trans h.chg.tape,hC.output.trans h.chg.output,Nat.le_trans h.chg.size hC.size,fun q hq hc=> ?_⟩⟩
 have h1:=h.chg.blk q hq hc
 exact⟨(hg.block q (Nat.lt_of_lt_of_le hq h.chg.size) (fun e=>by injection e with e;have:=hr.lt.1;omega)).trans h1.1,h1.2⟩
theorem RwB.more {w W W2:World} {ρ':Nat→Nat} {B g cap g3 cap3 n:Nat} {bytes more:List UInt8} {news:List Value} (hl:Low W ρ' B) (hr:RwB w W ρ' g cap bytes) (ho:W2.ownsRow w.heap.size 5 1 (.slice (some ⟨g3,0,none⟩) (bytes.length+n) cap3) (bytes.length+n) (bytes.map bV++news)) (hn:news=more.map bV) (hgg:(Value.slice (some ⟨g,0,none⟩) bytes.length cap).ownBlock=some g3∨g3=W.heap.size):RwB w W2 ρ' g3 cap3 (bytes++more):=by
 have hln:n=more.length:=by
  have h1:=ho.1
  rw [hn] at h1
  simp at h1
  omega
 refine⟨?_, ?_⟩
 ·rw [List.length_append, ←hln,List.map_append, ←hn]
  exact ho
 rcases hgg with e|e
 ·obtain rfl:g=g3:=by simpa [Value.ownBlock] using e
  exact hr.un
 exact hl.fresh (by omega)
theorem InK.fin {w:World} {ρ:Nat→Nat} {B kb:Nat} {m:AsM} {U:RtV} {σ':AsK} {W W2:World} {ρ':Nat→Nat} {V':RkV} {bytes:List UInt8} {news:List Value} {n g6 cap6:Nat} (h:InK w ρ B kb m U σ' W ρ' V') (hso:σ'.m.isSome=true) (hg:W.grownBy W2 U.cv.ownBlock)
  (ho:W2.ownsRow B 5 1 (.slice (some ⟨g6,0,none⟩) (m.mv.code.length+n) cap6) (m.mv.code.length+n) (m.mv.code.map bV++news)) (hn:news=bytes.map bV) (hgg:U.cv.ownBlock=some g6∨g6=W.heap.size):
  ∃(ρ2:Nat→Nat) (U2:RtV),RkC (W2.setCell ⟨kb,19,none⟩ (.slice (some ⟨g6,0,none⟩) (m.mv.code.length+n) cap6)) ρ2 B kb { σ' with m:=some { m with mv:={ m.mv with code:=m.mv.code++bytes } } } V' (aq4 { m with mv:={ m.mv with code:=m.mv.code++bytes } } U2)∧
   RtC (W2.setCell ⟨kb,19,none⟩ (.slice (some ⟨g6,0,none⟩) (m.mv.code.length+n) cap6)) ρ2 B { m with mv:={ m.mv with code:=m.mv.code++bytes } } U2∧Chg [1,3,10,11] w ρ (W2.setCell ⟨kb,19,none⟩ (.slice (some ⟨g6,0,none⟩) (m.mv.code.length+n) cap6)) ρ2:=by
 have hln:n=bytes.length:=by
  have h1:=ho.1
  rw [hn] at h1
  simp at h1
  omega
 have hgv:U.cv.ownBlock=some g6∨W.heap.size≤g6:=hgg.imp id (fun e=>by omega)
 have hkl:=h.k.box.lt
 have hgk:g6≠kb:=by
  rintro rfl
  rcases hgv with e|e
  ·exact absurd ((h.mt.code.2 _ e).symm.trans h.k.kc) (by decide)
  omega
 have hkU:U.cv.ownBlock≠some kb:=fun e=>absurd ((h.mt.code.2 _ e).symm.trans h.k.kc) (by decide)
 have hbx:Bx W2 kb (aq3 σ' V'++aq4 m U) 80:=(hg.block kb hkl (fun e=>hkU e.symm)).trans h.k.box
 obtain⟨hC,hl,hk,hoc⟩:=h.k.addR (w':=W2.setCell ⟨kb,19,none⟩ (.slice (some ⟨g6,0,none⟩) (m.mv.code.length+n) cap6)) (c:=10) hg.os hg.tape hg.output (by simpa using hg.size) h.mt.code.2
  (fun q hq h1 h2=> (Below.heap_setCell _ _ _ _ h1).trans (hg.block q hq (fun e=>h2 e.symm))) (hbx.set 19 _) (aqY ho hgk _) hgv (by decide)
 refine⟨paint ρ' g6 10,⟨.slice (some ⟨g6,0,none⟩) (m.mv.code.length+n) cap6,U.lv,U.jv,U.tv⟩, ?_, ?_,(h.chg.mono (by simp)).trans (hC.mono (by simp))⟩
 ·refine h.k.turn hC hl hk ?_ rfl rfl rfl rfl rfl (by intro c h1 h2 hm;simp at hm;omega)
  have:=hbx.set 19 (.slice (some ⟨g6,0,none⟩) (m.mv.code.length+n) cap6)
  unfold aq3 at this⊢
  rw [hso] at this
  exact this
 exact⟨⟨bqq hoc.1 (by simp [hln]) (by simp [hn]),hoc.2⟩,hC.own h.mt.labs (by decide),hC.own h.mt.jumps (by decide),hC.own h.mt.traps (by decide),h.mt.none⟩
end Go.Proofs.YtlcidkiplidamaaGreatDoor
