/-
  What the laws rest on, part 31: walks of the program's functions and plain laws. Conditions: none but those that each theorem names.
-/
import Derived.Test.YtlcidkiplidamaaGreatDoorR29
import Derived.Laws.EntriesVeiled
import Derived.WalkMore
import Derived.Lib.SmallJoins
import Derived.Test.YtlcidkiplidamaaGreatDoorR30
import Derived.Test.YtlcidkiplidamaaGreatDoorR28
import Derived.Test.YtlcidkiplidamaaGreatDoorR13
import Derived.Test.YtlcidkiplidamaaGreatDoorR00
import Derived.BigRegion
import Derived.Deep.RegionHeld2
import Derived.RegionTactic
set_option linter.unusedSimpArgs false
set_option linter.unusedVariables false
set_option maxRecDepth 100000
set_option maxHeartbeats 4000000
namespace Go.Proofs.YtlcidkiplidamaaGreatDoor
open Go Go.RowKit Lib Go.Maps
theorem asm_any (HIN:InstrC) (HEN:EndC) (text:ByteArray) (mx:Int) (w:World) (hmx:w.cell? ⟨Tryz.maxB,0,none⟩=some (.int .i64 mx)) (hts:text.size≤1000000) (hls: ∀s∈aLines text,Mute s∨s.size≤65536):
  Calls Tryz.prog 9 #[.string text] w (AsmPost w (aAsm checkF text)):=by
 have hmf: ∀(fn:Fn) (first cap:Array Value) (w:World),(Instr.makeFunc fn first cap).run Tryz.prog w= .ok (.func fn first cap) w:=fun _ _ _ _=>rfl
 have hmm:= @run_makeMap Tryz.prog
 have hxw:Tryz.maxB<w.heap.size:=World.block_lt_of_cell? _ _ hmx
 obtain⟨L,z,hsp,hLl,hal⟩:=lines_of text
 have hcnt:L.length≤text.size:=by rw [hLl];exact Lib.countB_le ⟨#[10]⟩ (by decide) text.size text (Nat.le_refl _)
 have XC0:=Lib.hid (((bx_new w zeroA 28).below ((Below.refl _ _).alloc (Nat.le_refl _) (.cells #[.int .i64 0] 3)) (by simp)).below ((Below.refl _ _).alloc (Nat.le_refl _) (.cells #[.int .i64 0] 29)) (by simp;omega))
 have XP0:=Lib.hid ((bx_new_at (w.alloc (.cells zeroA.toArray 28)) [.int .i64 0] 3 (w.heap.size+1) (by simp)).below ((Below.refl _ _).alloc (Nat.le_refl _) (.cells #[.int .i64 0] 29)) (by simp))
 have XE0:=Lib.hid (bx_new_at ((w.alloc (.cells zeroA.toArray 28)).alloc (.cells #[.int .i64 0] 3)) [.int .i64 0] 29 (w.heap.size+1+1) (by simp))
 have HB0:=Lib.hid ((((Below.refl w.heap.size w).alloc (Nat.le_refl _) (.cells zeroA.toArray 28)).alloc (by simp) (.cells #[.int .i64 0] 3)).alloc (by simp;omega) (.cells #[.int .i64 0] 29))
 have HSP:=Lib.hid (show∀W:World,W.cell? ⟨Tryz.maxB,0,none⟩=some (.int .i64 mx)→Calls Tryz.prog 22 #[.string text, .string ⟨#[10]⟩] W fun e w'=>e= .returned (.slice (some ⟨W.heap.size,0,none⟩) (L.length+1) (L.length+1))∧w'=W.alloc (.cells ((L++ [z]).map Value.string).toArray 9) from fun W h=>by
  have:=Tryz.strings_Split text ⟨#[10]⟩ mx W (by omega) h (by decide)
  rw [hsp, ←hLl] at this
  exact this)
 have HMX:=Lib.hid hmx
 have HAL:=Lib.hid hal
 have HLS:=Lib.hid hls
 clear hsp hmx hal hls hLl
 go_enter_defers Tryz.func9,Tryz.ntmps9
 go_wp2_with (go_at_call 22;refine stop_here ?_)
 refine go_on ?_
 refine(HSP.out _ ((HB0.out.cell (p:=⟨Tryz.maxB,0,none⟩) hxw).trans HMX.out)).mono ?_
 rintro e w1 ⟨rfl,hw1⟩
 simp only [World.size_alloc] at hw1⊢
 have XL:=Lib.hid (show Bx w1 (w.heap.size+1+1+1) ((L++ [z]).map Value.string) 9 by rw [hw1];exact bx_new_at _ _ _ _ (by simp))
 have HB1:=Lib.hid (show Below w.heap.size w w1 by rw [hw1];exact HB0.out.alloc (by simp;omega) _)
 have BB:=(Below.refl (((w.alloc (.cells zeroA.toArray 28)).alloc (.cells #[.int .i64 0] 3)).alloc (.cells #[.int .i64 0] 29)).heap.size (((w.alloc (.cells zeroA.toArray 28)).alloc (.cells #[.int .i64 0] 3)).alloc (.cells #[.int .i64 0] 29))).alloc (Nat.le_refl _) (.cells ((L++ [z]).map Value.string).toArray 9)
 have XC1:=Lib.hid (show Bx w1 w.heap.size zeroA 28 by rw [hw1];exact XC0.out.below BB XC0.out.lt)
 have XP1:=Lib.hid (show Bx w1 (w.heap.size+1) [.int .i64 0] 3 by rw [hw1];exact XP0.out.below BB XP0.out.lt)
 have XE1:=Lib.hid (show Bx w1 (w.heap.size+1+1) [.int .i64 0] 29 by rw [hw1];exact XE0.out.below BB XE0.out.lt)
 have hz1:w1.heap.size=w.heap.size+1+1+1+1:=by rw [hw1];simp
 clear hw1 BB XC0 XP0 XE0 HB0
 have cz:w1.cell? ⟨w.heap.size+1+1+1,L.length,none⟩=some (.string z):=XL.out.cell L.length (by simp)
 have HLC:=Lib.hid (show∀(j:Nat) s,(aLines text)[j]?=some s→w1.cell? ⟨w.heap.size+1+1+1,j,none⟩=some (.string s) from fun j s hs=>XL.out.cell j (by
  have hs2:(L++ [z])[j]?=some s:=by
   rw [HAL.out] at hs
   split at hs
   ·rw [List.getElem?_append_left (List.getElem?_eq_some_iff.1 hs).1];exact hs
   ·exact hs
  rw [List.getElem?_map,hs2]
  rfl))
 obtain⟨k1,hk1⟩: ∃k1,L.length=k1:=⟨_,rfl⟩
 rw [hk1] at cz hcnt
 rw [hk1]
 have HK1:=Lib.hid hk1
 clear hk1
 have hw64:IntKind.i64.wrap (((k1:Int)+1) - 1)=(k1:Int):=by rw [IntWalk.i64_in _ (by omega)];omega
 have hw65:RowKit.wrap64 (((k1:Int)+1) - 1)=(k1:Int):=by rw [show RowKit.wrap64 (((k1:Int)+1) - 1)=IntKind.i64.wrap (((k1:Int)+1) - 1) by unfold RowKit.wrap64;rw [IntKind.wrap_i64]];exact hw64
 have hb1:(k1:Int) < ((k1+1:Nat):Int):=by omega
 obtain⟨zb,hzb⟩: ∃zb,z.toList=zb:=⟨_,rfl⟩
 rcases Nat.eq_zero_or_pos z.size with hz0|hz0
 focus
  have hz1:z.toList= []:=by rw [ByteArray.toList_eq];have hl:z.data.toList.length=z.size:=Array.length_toList;exact List.eq_nil_of_length_eq_zero (by omega)
  have hze:(z.toList== [])=true:=by rw [hz1];rfl
  have hzf:z.toList.isEmpty=true:=by rw [hz1];rfl
  have HLEN:=Lib.hid (show(aLines text).length=k1 by rw [HAL.out,if_pos hz0,HK1.out])
  clear hz0 hz1 hzb
  by_cases hA:262144<text.size
  ·have hq1:decide ((262144:Int) < (text.size:Int))=true:=by rw [decide_eq_true_eq];omega
   have hq2:(262144:Int) < (text.size:Int):=by omega
   have HP:=Lib.hid (show aAsm checkF text= .error (0,2) by unfold aAsm;rw [if_pos (.inl hA)])
   clear hA
   go_wp2_with fail
   refine leaves_cons (f:=21) (args:= #[.pointer (some ⟨w.heap.size,0,none⟩), .pointer (some ⟨w.heap.size+1,0,none⟩), .pointer (some ⟨w.heap.size+1+1,0,none⟩)]) (by simp) (by simp [go_sem]) ?_
   refine(acatch_stop w.heap.size (w.heap.size+1) (w.heap.size+1+1) 0 2 zeroA _ _ _ XC1.out rfl XP1.out XE1.out (by omega) (by omega) (by omega) []).mono ?_
   rintro e u' w'' ⟨rfl,rfl,hC,hP,hE,hb⟩
   exact⟨_,resultsA rfl rfl rfl rfl hC hP hE Tryz.underlying28 rfl (by kernel_rfl) Tryz.underlying3 rfl Tryz.underlying29 rfl,asmpost_err HP.out rfl (HB1.out.trans (below_of_butA hb (by omega) (by intro k hk;simp at hk;omega)))⟩
  have hq1:decide ((262144:Int) < (text.size:Int))=false:=by rw [decide_eq_false_iff_not];omega
  have hq2: ¬(262144:Int) < (text.size:Int):=by omega
  by_cases hB:8000<k1
  ·have hq3:decide ((8000:Int) < (k1:Int))=true:=by rw [decide_eq_true_eq];omega
   have hq4:(8000:Int) < (k1:Int):=by omega
   have HP:=Lib.hid (show aAsm checkF text= .error (0,2) by unfold aAsm;rw [if_pos (.inr (by rw [HLEN.out];exact hB))])
   clear hB
   go_wp2_with fail
   refine leaves_cons (f:=21) (args:= #[.pointer (some ⟨w.heap.size,0,none⟩), .pointer (some ⟨w.heap.size+1,0,none⟩), .pointer (some ⟨w.heap.size+1+1,0,none⟩)]) (by simp) (by simp [go_sem]) ?_
   refine(acatch_stop w.heap.size (w.heap.size+1) (w.heap.size+1+1) 0 2 zeroA _ _ _ XC1.out rfl XP1.out XE1.out (by omega) (by omega) (by omega) []).mono ?_
   rintro e u' w'' ⟨rfl,rfl,hC,hP,hE,hb⟩
   exact⟨_,resultsA rfl rfl rfl rfl hC hP hE Tryz.underlying28 rfl (by kernel_rfl) Tryz.underlying3 rfl Tryz.underlying29 rfl,asmpost_err HP.out rfl (HB1.out.trans (below_of_butA hb (by omega) (by intro k hk;simp at hk;omega)))⟩
  have hq3:decide ((8000:Int) < (k1:Int))=false:=by rw [decide_eq_false_iff_not];omega
  have hq4: ¬(8000:Int) < (k1:Int):=by omega
  have HBIG:=Lib.hid (show¬(262144<text.size∨8000< (aLines text).length) by rw [HLEN.out];omega)
  have hkB:k1≤8000:=by omega
  clear hA hB
  go_wp2_with fail
  obtain⟨kk,hkk⟩: ∃kk,kk=k1:=⟨_,rfl⟩
  rw [←hkk]
  rw [←hkk] at HLEN hkB
  clear hkk
 rotate_left
 focus
  have hz1:z.toList≠ []:=by rw [ByteArray.toList_eq];have hl:z.data.toList.length=z.size:=Array.length_toList;intro e;rw [e] at hl;simp at hl;omega
  have hze:(z.toList== [])=false:=by rw [beq_eq_false_iff_ne];exact hz1
  have hzf:z.toList.isEmpty=false:=by cases h:z.toList with|nil=>exact absurd h hz1|cons a l=>rfl
  have HLEN:=Lib.hid (show(aLines text).length=k1+1 by rw [HAL.out,if_neg (by omega),List.length_append,HK1.out];rfl)
  clear hz0 hz1 hzb
  by_cases hA:262144<text.size
  ·have hq1:decide ((262144:Int) < (text.size:Int))=true:=by rw [decide_eq_true_eq];omega
   have hq2:(262144:Int) < (text.size:Int):=by omega
   have HP:=Lib.hid (show aAsm checkF text= .error (0,2) by unfold aAsm;rw [if_pos (.inl hA)])
   clear hA
   go_wp2_with fail
   refine leaves_cons (f:=21) (args:= #[.pointer (some ⟨w.heap.size,0,none⟩), .pointer (some ⟨w.heap.size+1,0,none⟩), .pointer (some ⟨w.heap.size+1+1,0,none⟩)]) (by simp) (by simp [go_sem]) ?_
   refine(acatch_stop w.heap.size (w.heap.size+1) (w.heap.size+1+1) 0 2 zeroA _ _ _ XC1.out rfl XP1.out XE1.out (by omega) (by omega) (by omega) []).mono ?_
   rintro e u' w'' ⟨rfl,rfl,hC,hP,hE,hb⟩
   exact⟨_,resultsA rfl rfl rfl rfl hC hP hE Tryz.underlying28 rfl (by kernel_rfl) Tryz.underlying3 rfl Tryz.underlying29 rfl,asmpost_err HP.out rfl (HB1.out.trans (below_of_butA hb (by omega) (by intro k hk;simp at hk;omega)))⟩
  have hq1:decide ((262144:Int) < (text.size:Int))=false:=by rw [decide_eq_false_iff_not];omega
  have hq2: ¬(262144:Int) < (text.size:Int):=by omega
  by_cases hB:8000<k1+1
  ·have hq3:decide ((8000:Int) < ((k1:Int)+1))=true:=by rw [decide_eq_true_eq];omega
   have hq4:(8000:Int) < ((k1:Int)+1):=by omega
   have HP:=Lib.hid (show aAsm checkF text= .error (0,2) by unfold aAsm;rw [if_pos (.inr (by rw [HLEN.out];exact hB))])
   clear hB
   go_wp2_with fail
   refine leaves_cons (f:=21) (args:= #[.pointer (some ⟨w.heap.size,0,none⟩), .pointer (some ⟨w.heap.size+1,0,none⟩), .pointer (some ⟨w.heap.size+1+1,0,none⟩)]) (by simp) (by simp [go_sem]) ?_
   refine(acatch_stop w.heap.size (w.heap.size+1) (w.heap.size+1+1) 0 2 zeroA _ _ _ XC1.out rfl XP1.out XE1.out (by omega) (by omega) (by omega) []).mono ?_
   rintro e u' w'' ⟨rfl,rfl,hC,hP,hE,hb⟩
   exact⟨_,resultsA rfl rfl rfl rfl hC hP hE Tryz.underlying28 rfl (by kernel_rfl) Tryz.underlying3 rfl Tryz.underlying29 rfl,asmpost_err HP.out rfl (HB1.out.trans (below_of_butA hb (by omega) (by intro k hk;simp at hk;omega)))⟩
  have hq3:decide ((8000:Int) < ((k1:Int)+1))=false:=by rw [decide_eq_false_iff_not];omega
  have hq4: ¬(8000:Int) < ((k1:Int)+1):=by omega
  have HBIG:=Lib.hid (show¬(262144<text.size∨8000< (aLines text).length) by rw [HLEN.out];omega)
  have hkB:k1+1≤8000:=by omega
  clear hA hB
  go_wp2_with fail
  obtain⟨kk,hkk⟩: ∃kk,kk=k1+1:=⟨_,rfl⟩
  rw [show(k1:Int)+1=(kk:Int) by omega, ←hkk]
  rw [←hkk] at HLEN hkB
  clear hkk
 all_goals
  obtain⟨w2,hw2⟩: ∃W,W=(w1.alloc (.map #[] 0)).alloc (.cells #[.int .i64 0, .int .i64 52, .slice none 0 0, .int .i64 0, .int .i64 0, .int .i64 0, .slice none 0 0, .slice none 0 0, .slice none 0 0, .map (some (w.heap.size+1+1+1+1)), .int .i64 0, .int .i64 0, .pointer none] 67):=⟨_,rfl⟩
  rw [←hw2]
  have B2:=((Below.refl w1.heap.size w1).alloc (Nat.le_refl _) (.map #[] 0)).alloc (by simp) (.cells #[.int .i64 0, .int .i64 52, .slice none 0 0, .int .i64 0, .int .i64 0, .int .i64 0, .slice none 0 0, .slice none 0 0, .slice none 0 0, .map (some (w.heap.size+1+1+1+1)), .int .i64 0, .int .i64 0, .pointer none] 67)
  rw [←hw2] at B2
  have HB2:=Lib.hid (HB1.out.trans (B2.mono (by omega)))
  have XC2:=Lib.hid (XC1.out.below B2 XC1.out.lt)
  have XP2:=Lib.hid (XP1.out.below B2 XP1.out.lt)
  have XE2:=Lib.hid (XE1.out.below B2 XE1.out.lt)
  have HLC2:=Lib.hid (show∀(j:Nat) s,(aLines text)[j]?=some s→w2.cell? ⟨w.heap.size+1+1+1,j,none⟩=some (.string s) from fun j s hs=> (B2.cell (p:=⟨w.heap.size+1+1+1,j,none⟩) (by show w.heap.size+1+1+1<_;omega)).trans (HLC.out j s hs))
  have hz2:w2.heap.size=w.heap.size+1+1+1+1+1+1:=by rw [hw2];simp [hz1]
  have MK0:=Lib.hid (show MkC w2 (paint (paint (fun _=>0) (w.heap.size+1+1+1+1+1) 1) (w.heap.size+1+1+1+1) 2) (w.heap.size+1+1+1+1) (w.heap.size+1+1+1+1+1) .new ⟨.slice none 0 0, .slice none 0 0, .slice none 0 0, .slice none 0 0,w.heap.size+1+1+1+1, .pointer none⟩ from mk_new (by omega) (by omega) (by omega) (by omega) (by omega) (by rw [hw2];exact bx_new_at _ _ _ _ (by simp [hz1])) (by rw [hw2];have h:=(poolM_new w1).keep (w':=(w1.alloc (.map #[] 0)).alloc (.cells #[.int .i64 0, .int .i64 52, .slice none 0 0, .int .i64 0, .int .i64 0, .int .i64 0, .slice none 0 0, .slice none 0 0, .slice none 0 0, .map (some (w.heap.size+1+1+1+1)), .int .i64 0, .int .i64 0, .pointer none] 67)) (Below.heap_alloc _ _ _ (by simp));rw [hz1] at h;exact h) (by omega))
  obtain⟨ρ0,hρ⟩: ∃r,paint (paint (fun _=>0) (w.heap.size+1+1+1+1+1) 1) (w.heap.size+1+1+1+1) 2=r:=⟨_,rfl⟩
  have RC:=Lib.hid (show ρ0 w.heap.size=0∧ρ0 (w.heap.size+1)=0∧ρ0 (w.heap.size+1+1)=0∧ρ0 (w.heap.size+1+1+1)=0 by rw [←hρ];refine⟨?_, ?_, ?_, ?_⟩ <;> (rw [paint_other (by omega),paint_other (by omega)]))
  rw [hρ] at MK0
  have HZ2:=Lib.hid hz2
  clear hw2 B2 hρ hz1 hz2 hcnt cz hw64 hw65 hze hzf hq1 hq2 hq3 hq4 hb1 hxw
  go_loopw [7,8,9,45,60,71] (fun _ _ _ i _ _ wr=> ∃(j:Nat) (σ:AsK) (ρ:Nat→Nat) (V:MkV),i= .int .i64 j∧j≤kk∧Hid (aRun (aLines text) 0 .new=aRun ((aLines text).drop j) j σ)∧Hid (MkC wr ρ (w.heap.size+1+1+1+1) (w.heap.size+1+1+1+1+1) σ V)∧Hid (OpenC wr ρ (w.heap.size+1+1+1+1) V.mv σ.m)∧Hid (AsSm σ (20*j))∧Hid (Chg [1,2,3,4,5,6,7,8,9,10,11,12,13] w2 ρ0 wr ρ)) (fun _ _ _ i _ _ _=> (kk) - (RowKit.intOf i).toNat)
  case atStart=>exact⟨0, .new,ρ0,_,rfl,by omega,Lib.hid rfl,MK0,Lib.hid (show OpenC _ _ _ _ none from rfl),Lib.hid (new_small _),Lib.hid (Chg.refl _ _ _)⟩
  case round=>
   obtain⟨wr1,hwr⟩: ∃W,W=wr:=⟨_,rfl⟩
   subst hwr
   obtain⟨j,σ,ρ,V,rfl,hj,HR,HK,HO,HS,HG⟩:=hrel
   have hkl:=HK.out.box.lt
   have hsz2:=HG.out.size
   obtain⟨t1,t2,t3,t4,t5,t6,t7,t8,t9,t10,t11,t12⟩:=far (w.heap.size+1+1+1+1+1) wr1.heap.size hkl
   by_cases hlt:j<kk
   ·obtain⟨s,hs⟩: ∃s,(aLines text)[j]?=some s:=⟨_,List.getElem?_eq_getElem (by rw [HLEN.out];exact hlt)⟩
    have hss:=line_le (List.mem_of_getElem? hs)
    have HSS:=Lib.hid hs
    have HLL:=Lib.hid (HLS.out s (List.mem_of_getElem? hs))
    have cs:=(HG.out.cell0 (by decide) (show w.heap.size+1+1+1<w2.heap.size by rw [HZ2.out];omega) RC.out.2.2.2 j).trans (HLC2.out j s hs)
    have z11:=HK.out.box.frozen 11
    have x11:=HK.out.box.cell 11 rfl
    clear hs
    go_wp2_with (go_at_call 23;refine stop_here ?_)
    refine go_on ?_
    have S1:=HK.out.setc 11 (.int .i64 (((j+1:Nat)):Int)) (σ':={ σ with line:=j+1 }) (V':=V) rfl rfl rfl rfl rfl ⟨rfl,rfl,rfl,rfl,rfl⟩
    obtain⟨w3,hw3⟩: ∃W,W=wr1.setCell ⟨w.heap.size+1+1+1+1+1,11,none⟩ (.int .i64 (((j+1:Nat)):Int)):=⟨_,rfl⟩
    rw [←hw3] at S1
    first|rw [←hw3] | (rw [show wr1.setCell ⟨w.heap.size+1+1+1+1+1,11,none⟩ (.int .i64 ((j:Int)+1))=w3 from hw3.symm])
    have K1:=Lib.hid S1.1
    have O1:=Lib.hid (show OpenC w3 ρ (w.heap.size+1+1+1+1) V.mv σ.m from by
     have h:=HO.out
     cases hm:σ.m with
     |none=>rw [hm] at h;exact h
     |some m=>rw [hm] at h;obtain⟨xb,U,h1,h2⟩:=h;exact⟨xb,U,h1,h2.keep S1.2 (by intro c h1 h2 hm;simp at hm;omega)⟩)
    have G1:=Lib.hid (HG.out.trans (S1.2.mono (by simp)))
    have SM1:=Lib.hid (line_small HS.out (j+1))
    clear hw3 S1 cs z11 x11 t1 t2 t3 t4 t5 t6 t7 t8 t9 t10 t11 t12
    refine(words_any s w3 (by omega)).mono ?_
    rintro e w4 ⟨v,rfl,hb4,hown⟩
    obtain⟨A,cap,rfl,hwd⟩:=wd_own (ρ:=ρ) hown (fun g hg=>K1.out.low.fresh ((hown.lt g hg).1))
    have K2:=Lib.hid (K1.out.below hb4)
    have O2:=Lib.hid (show OpenC w4 ρ (w.heap.size+1+1+1+1) V.mv σ.m from by
     have h:=O1.out
     cases hm:σ.m with
     |none=>rw [hm] at h;exact h
     |some m=>rw [hm] at h;obtain⟨xb,U,h1,h2⟩:=h;exact⟨xb,U,h1,h2.below hb4⟩)
    have G2:=Lib.hid (G1.out.trans (Chg.of_below hb4))
    have WD:=Lib.hid hwd
    have hjn:20*j≤160000:=by omega
    have hwz:=words_size s
    obtain⟨ws,hws⟩: ∃ws,aWords s=ws:=⟨_,rfl⟩
    have HWS:=Lib.hid hws
    rw [hws] at hwd WD hwz
    rw [hws]
    clear hown hb4 hws
    cases ws with
    |nil=>
     have HD:=Lib.hid (show AsK.doLine { σ with line:=j+1 } s= .ok { σ with line:=j+1 } by rw [doLine_eq,HWS.out];exact if_pos (.inl rfl))
     have hl0:(((([]:List ByteArray).length:Nat):Int)==0)=true:=rfl
     clear hwd
     go_wp2_with fail
     have HR2:=Lib.hid (HR.out.trans (run_next HSS.out HD.out))
     go_roundw
     case rel=>exact⟨j+1,{ σ with line:=j+1 },ρ,V,by go_num,by omega,HR2,K2,O2,Lib.hid (SM1.out.mono (by omega)),G2⟩
     case measure=>simp [RowKit.intOf];omega
    |cons s0 ws=>
     have hl0:((((s0::ws).length:Nat):Int)==0)=false:=by rw [beq_eq_false_iff_ne];simp only [List.length_cons];omega
     have hl1:(((ws.length:Int)+1)==0)=false:=by rw [beq_eq_false_iff_ne];omega
     obtain⟨b,off,hA,hbl,hub,hcc⟩:=hwd.hat (by simp)
     have c0:=hcc 0 s0 rfl
     rw [Nat.add_zero] at c0
     have hs0:=(hwz s0 (by simp)).2
     have hs01:=(hwz s0 (by simp)).1
     subst hA
     obtain⟨u,hu⟩: ∃u,s0[0]'hs0=u:=⟨_,rfl⟩
     have HU:=Lib.hid (show s0.data.toList.headD 0=u by rw [←hu];exact(head_at s0 hs0).symm)
     have hle:=hwd.le
     have hlm:=hwd.max
     simp only [List.length_cons] at hle
     clear hwd hcc hwz
     by_cases h35:u=35
     ·have hq35:((u.toNat:Int)==35)=true:=by rw [h35];rfl
      have HD:=Lib.hid (show AsK.doLine { σ with line:=j+1 } s= .ok { σ with line:=j+1 } by rw [doLine_eq,HWS.out];exact if_pos (.inr (by rw [List.headD_cons,HU.out,h35])))
      clear h35
      go_wp2_with fail
      have HR2:=Lib.hid (HR.out.trans (run_next HSS.out HD.out))
      go_roundw
      case rel=>exact⟨j+1,{ σ with line:=j+1 },ρ,V,by go_num,by omega,HR2,K2,O2,Lib.hid (SM1.out.mono (by omega)),G2⟩
      case measure=>simp [RowKit.intOf];omega
     ·have hq35:((u.toNat:Int)==35)=false:=by
       rw [beq_eq_false_iff_ne]
       intro e
       exact h35 (UInt8.toNat_inj.1 (by show u.toNat=35;omega))
      have HNM:=Lib.hid (show¬(aWords s= []∨((aWords s).headD ⟨#[]⟩).data.toList.headD 0=35) by rw [HWS.out];rintro(h|h);cases h;rw [List.headD_cons,HU.out] at h;exact h35 h)
      have hs16:s.size≤65536:=by
       rcases HLL.out with h|h
       ·exact absurd h HNM.out
       ·exact h
      have HSW:=Lib.hid (show SmW (s0::ws) by rw [←HWS.out];exact words_sm hs16)
      have HNE:=Lib.hid (show∀x∈s0::ws,0<x.size by rw [←HWS.out];exact fun x hx=> (words_size s x hx).2)
      clear h35
      have c12:=K2.out.box.cell 12 rfl
      cases hm:σ.m with
      |none=>
       have hmv:V.mv= .pointer none:=by have h:=O2.out;rw [hm] at h;exact h
       rw [hmv] at c12
       go_wp2_with (go_at_call 25;refine stop_here ?_)
       refine go_on ?_
       refine(outside_any ρ (w.heap.size+1+1+1+1) (w.heap.size+1+1+1+1+1) { σ with line:=j+1 } V _ _ _ (s0::ws) w4 K2.out O2.out WD.out HSW.out (by simp) (by have:=HS.out.npool;show σ.c.pool.length≤_;omega) (by have:=HS.out.nflds;show σ.c.flds.length≤_;omega) (by have:=HS.out.nmths;show σ.c.mths.length≤_;omega) (by have:=HS.out.nifs;show σ.c.ifs.length≤_;omega)).mono ?_
       intro e w5 hq
       cases hout:AsK.outside { σ with line:=j+1 } (s0::ws) with
       |none=>
        rw [hout] at hq
        obtain⟨he,hb5⟩:=hq
        obtain⟨nl,hnl⟩: ∃nl,nl=j+1:=⟨_,rfl⟩
        replace he:e= .panicked [{ v:=stopA (nl:Int) 60,recovered:=false }]:=by rw [hnl];exact he
        rw [he]
        have HD:=Lib.hid (show AsK.doLine { σ with line:=j+1 } s= .error nl by rw [hnl];exact doLine_none HNM.out hm (by rw [HWS.out];exact hout))
        clear hnl
        have HP:=Lib.hid (show aAsm checkF text= .error (nl,60) from asm_stop HBIG.out (HR.out.trans (run_stop HSS.out HD.out)))
        have XC5:=Lib.hid (show Bx w5 _ _ _ from(G2.out.bx XC2.out (by rw [RC.out.1];decide)).below hb5 (by omega))
        have XP5:=Lib.hid (show Bx w5 _ _ _ from(G2.out.bx XP2.out (by rw [RC.out.2.1];decide)).below hb5 (by omega))
        have XE5:=Lib.hid (show Bx w5 _ _ _ from(G2.out.bx XE2.out (by rw [RC.out.2.2.1];decide)).below hb5 (by omega))
        have HBW5:=Lib.hid (show Below w.heap.size w w5 from HB2.out.trans (((G2.out.below MK0.out.low MK0.out.hB (by decide)).trans hb5).mono (by omega)))
        have hz5:=HBW5.out.size
        have h5a:=XC5.out.lt
        have h5b:=XP5.out.lt
        have h5c:=XE5.out.lt
        clear hb5 he c12
        go_wp2_with fail
        refine leaves_cons (f:=21) (args:= #[.pointer (some ⟨w.heap.size,0,none⟩), .pointer (some ⟨w.heap.size+1,0,none⟩), .pointer (some ⟨w.heap.size+1+1,0,none⟩)]) (by simp) (by simp [go_sem]) ?_
        refine(acatch_stop w.heap.size (w.heap.size+1) (w.heap.size+1+1) nl 60 zeroA _ _ _ XC5.out rfl XP5.out XE5.out (by omega) (by omega) (by omega) []).mono ?_
        rintro e u' w'' ⟨rfl,rfl,hC,hP,hE,hb⟩
        exact⟨_,resultsA rfl rfl rfl rfl hC hP hE Tryz.underlying28 rfl (by kernel_rfl) Tryz.underlying3 rfl Tryz.underlying29 rfl,asmpost_err HP.out rfl (HBW5.out.trans (below_of_butA hb (by omega) (by intro k hk;simp at hk;omega)))⟩
       |some σ'=>
        rw [hout] at hq
        obtain⟨he,ρ5,V5,hk5,ho5,hg5⟩:=hq
        rw [he]
        have HD:=Lib.hid (show AsK.doLine { σ with line:=j+1 } s= .ok σ' from doLine_some HNM.out hm (by rw [HWS.out];exact hout))
        have K5:=Lib.hid hk5
        have O5:=Lib.hid ho5
        have G5:=Lib.hid (G2.out.trans (hg5.mono (by simp [allC])))
        have S5:=Lib.hid (doLine_small SM1.out (by omega) HLL.out HD.out)
        have HR2:=Lib.hid (HR.out.trans (run_next HSS.out HD.out))
        clear hk5 ho5 hg5 he c12
        go_wp2_with fail
        go_roundw
        case rel=>exact⟨j+1,σ',ρ5,V5,by go_num,by omega,HR2,K5,O5,Lib.hid (S5.out.mono (by omega)),G5⟩
        case measure=>simp [RowKit.intOf];omega
      |some m=>
       have hmo: ∃xb U,V.mv= .pointer (some ⟨xb,0,none⟩)∧MtC w4 ρ (w.heap.size+1+1+1+1) xb m U:=by have h:=O2.out;rw [hm] at h;exact h
       obtain⟨xb,U,hmv,hmt⟩:=hmo
       rw [hmv] at c12
       go_wp2_with (go_at_call 24;refine stop_here ?_)
       refine go_on ?_
       refine(inside_any HIN HEN ρ (w.heap.size+1+1+1+1) (w.heap.size+1+1+1+1+1) xb { σ with line:=j+1 } V m U _ _ _ (s0::ws) w4 (20*j) K2.out hmv hmt WD.out HSW.out (by simp) HNE.out SM1.out (HS.out.op m hm) (by omega)).mono ?_
       intro e w5 hq
       cases hout:AsK.inside { σ with line:=j+1 } m (s0::ws) with
       |error nl=>
        rw [hout] at hq
        obtain⟨he,hb5⟩:=hq
        replace he:e= .panicked [{ v:=stopA (nl:Int) 60,recovered:=false }]:=he
        rw [he]
        have HD:=Lib.hid (show AsK.doLine { σ with line:=j+1 } s= .error nl from(doLine_in (σ:={ σ with line:=j+1 }) HNM.out hm).trans (by rw [HWS.out];exact hout))
        have HP:=Lib.hid (show aAsm checkF text= .error (nl,60) from asm_stop HBIG.out (HR.out.trans (run_stop HSS.out HD.out)))
        have XC5:=Lib.hid (show Bx w5 _ _ _ from(G2.out.bx XC2.out (by rw [RC.out.1];decide)).below hb5 (by omega))
        have XP5:=Lib.hid (show Bx w5 _ _ _ from(G2.out.bx XP2.out (by rw [RC.out.2.1];decide)).below hb5 (by omega))
        have XE5:=Lib.hid (show Bx w5 _ _ _ from(G2.out.bx XE2.out (by rw [RC.out.2.2.1];decide)).below hb5 (by omega))
        have HBW5:=Lib.hid (show Below w.heap.size w w5 from HB2.out.trans (((G2.out.below MK0.out.low MK0.out.hB (by decide)).trans hb5).mono (by omega)))
        have hz5:=HBW5.out.size
        have h5a:=XC5.out.lt
        have h5b:=XP5.out.lt
        have h5c:=XE5.out.lt
        clear hb5 he c12
        go_wp2_with fail
        refine leaves_cons (f:=21) (args:= #[.pointer (some ⟨w.heap.size,0,none⟩), .pointer (some ⟨w.heap.size+1,0,none⟩), .pointer (some ⟨w.heap.size+1+1,0,none⟩)]) (by simp) (by simp [go_sem]) ?_
        refine(acatch_stop w.heap.size (w.heap.size+1) (w.heap.size+1+1) nl 60 zeroA _ _ _ XC5.out rfl XP5.out XE5.out (by omega) (by omega) (by omega) []).mono ?_
        rintro e u' w'' ⟨rfl,rfl,hC,hP,hE,hb⟩
        exact⟨_,resultsA rfl rfl rfl rfl hC hP hE Tryz.underlying28 rfl (by kernel_rfl) Tryz.underlying3 rfl Tryz.underlying29 rfl,asmpost_err HP.out rfl (HBW5.out.trans (below_of_butA hb (by omega) (by intro k hk;simp at hk;omega)))⟩
       |ok σ'=>
        rw [hout] at hq
        obtain⟨he,ρ5,V5,hk5,ho5,hg5⟩:=hq
        rw [he]
        have HD:=Lib.hid (show AsK.doLine { σ with line:=j+1 } s= .ok σ' from(doLine_in (σ:={ σ with line:=j+1 }) HNM.out hm).trans (by rw [HWS.out];exact hout))
        have K5:=Lib.hid hk5
        have O5:=Lib.hid ho5
        have G5:=Lib.hid (G2.out.trans (hg5.mono (by simp [allC])))
        have S5:=Lib.hid (doLine_small SM1.out (by omega) HLL.out HD.out)
        have HR2:=Lib.hid (HR.out.trans (run_next HSS.out HD.out))
        clear hk5 ho5 hg5 he c12
        go_wp2_with fail
        go_roundw
        case rel=>exact⟨j+1,σ',ρ5,V5,by go_num,by omega,HR2,K5,O5,Lib.hid (S5.out.mono (by omega)),G5⟩
        case measure=>simp [RowKit.intOf];omega
   ·have hjK:j=kk:=by omega
    have HRE:=Lib.hid (show aRun (aLines text) 0 .new= .ok σ by rw [HR.out,List.drop_of_length_le (by rw [HLEN.out];omega)];rfl)
    have c12:=HK.out.box.cell 12 rfl
    have XC5:=Lib.hid (show Bx wr1 _ _ _ from(HG.out.bx XC2.out (by rw [RC.out.1];decide)))
    have XP5:=Lib.hid (show Bx wr1 _ _ _ from(HG.out.bx XP2.out (by rw [RC.out.2.1];decide)))
    have XE5:=Lib.hid (show Bx wr1 _ _ _ from(HG.out.bx XE2.out (by rw [RC.out.2.2.1];decide)))
    have HBW5:=Lib.hid (show Below w.heap.size w wr1 from HB2.out.trans (((HG.out.below MK0.out.low MK0.out.hB (by decide))).mono (by omega)))
    have h5a:=XC5.out.lt
    have h5b:=XP5.out.lt
    have h5c:=XE5.out.lt
    cases hm:σ.m with
    |some m=>
     have hmo: ∃xb U,V.mv= .pointer (some ⟨xb,0,none⟩)∧MtC wr1 ρ (w.heap.size+1+1+1+1) xb m U:=by have h:=HO.out;rw [hm] at h;exact h
     obtain⟨xb,U,hmv,hmt⟩:=hmo
     rw [hmv] at c12
     have x8:=hmt.box.cell 8 rfl
     have HP:=Lib.hid (show aAsm checkF text= .error (m.line,60) from asm_open HBIG.out HRE.out hm)
     clear hmt hm
     go_wp2_with fail
     refine leaves_cons (f:=21) (args:= #[.pointer (some ⟨w.heap.size,0,none⟩), .pointer (some ⟨w.heap.size+1,0,none⟩), .pointer (some ⟨w.heap.size+1+1,0,none⟩)]) (by simp) (by simp [go_sem]) ?_
     refine(acatch_stop w.heap.size (w.heap.size+1) (w.heap.size+1+1) m.line 60 zeroA _ _ _ XC5.out rfl XP5.out XE5.out (by omega) (by omega) (by omega) []).mono ?_
     rintro e u' w'' ⟨rfl,rfl,hC,hP,hE,hb⟩
     exact⟨_,resultsA rfl rfl rfl rfl hC hP hE Tryz.underlying28 rfl (by kernel_rfl) Tryz.underlying3 rfl Tryz.underlying29 rfl,asmpost_err HP.out rfl (HBW5.out.trans (below_of_butA hb (by omega) (by intro k hk;simp at hk;omega)))⟩
    |none=>
     have hmv:V.mv= .pointer none:=by have h:=HO.out;rw [hm] at h;exact h
     rw [hmv] at c12
     have HM:=Lib.hid hm
     have HMV:=Lib.hid hmv
     have z11:=HK.out.box.frozen 11
     have x11:=HK.out.box.cell 11 rfl
     have x10:=HK.out.box.cell 10 rfl
     have S1:=HK.out.setc 11 (.int .i64 ((0:Nat):Int)) (σ':={ σ with line:=0 }) (V':=V) rfl rfl rfl rfl rfl ⟨rfl,rfl,rfl,rfl,rfl⟩
     obtain⟨w3,hw3⟩: ∃W,W=wr1.setCell ⟨w.heap.size+1+1+1+1+1,11,none⟩ (.int .i64 ((0:Nat):Int)):=⟨_,rfl⟩
     rw [←hw3] at S1
     have K1:=Lib.hid S1.1
     have G1:=Lib.hid (HG.out.trans (S1.2.mono (by simp)))
     have SM1:=Lib.hid (line_small HS.out 0)
     clear S1 hm hmv
     by_cases hp:σ.part=0
     ·have hq1:((σ.part:Int) !=0)=false:=by rw [hp];rfl
      have HP:=Lib.hid (show aAsm checkF text= .error (0,60) from asm_none HBIG.out HRE.out HM.out hp)
      have HW3:=Lib.hid hw3
      clear hp hw3
      go_wp2_with (go_at_call 26;refine stop_here ?_)
      refine go_on ?_
      rw [show wr1.setCell ⟨w.heap.size+1+1+1+1+1,11,none⟩ (.int .i64 0)=w3 from HW3.out.symm]
      refine(must_no (w.heap.size+1+1+1+1+1) _ 0 _ K1.out.box rfl).mono ?_
      rintro e w5 ⟨rfl,rfl⟩
      have XC6:=Lib.hid (show Bx w5 _ _ _ from(G1.out.bx XC2.out (by rw [RC.out.1];decide)))
      have XP6:=Lib.hid (show Bx w5 _ _ _ from(G1.out.bx XP2.out (by rw [RC.out.2.1];decide)))
      have XE6:=Lib.hid (show Bx w5 _ _ _ from(G1.out.bx XE2.out (by rw [RC.out.2.2.1];decide)))
      have HBW6:=Lib.hid (show Below w.heap.size w w5 from HB2.out.trans (((G1.out.below MK0.out.low MK0.out.hB (by decide))).mono (by omega)))
      have h6a:=XC6.out.lt
      have h6b:=XP6.out.lt
      have h6c:=XE6.out.lt
      go_wp2_with fail
      refine leaves_cons (f:=21) (args:= #[.pointer (some ⟨w.heap.size,0,none⟩), .pointer (some ⟨w.heap.size+1,0,none⟩), .pointer (some ⟨w.heap.size+1+1,0,none⟩)]) (by simp) (by simp [go_sem]) ?_
      refine(acatch_stop w.heap.size (w.heap.size+1) (w.heap.size+1+1) 0 60 zeroA _ _ _ XC6.out rfl XP6.out XE6.out (by omega) (by omega) (by omega) []).mono ?_
      rintro e u' w'' ⟨rfl,rfl,hC,hP,hE,hb⟩
      exact⟨_,resultsA rfl rfl rfl rfl hC hP hE Tryz.underlying28 rfl (by kernel_rfl) Tryz.underlying3 rfl Tryz.underlying29 rfl,asmpost_err HP.out rfl (HBW6.out.trans (below_of_butA hb (by omega) (by intro k hk;simp at hk;omega)))⟩
     ·have hq1:((σ.part:Int) !=0)=true:=by rw [bne_iff_ne];omega
      have HPT:=Lib.hid hp
      have HW3:=Lib.hid hw3
      clear hp hw3
      go_wp2_with (go_at_call 26;refine stop_here ?_)
      refine go_on ?_
      rw [show wr1.setCell ⟨w.heap.size+1+1+1+1+1,11,none⟩ (.int .i64 0)=w3 from HW3.out.symm]
      refine(must_yes (w.heap.size+1+1+1+1+1) _ 0 _ K1.out.box rfl).mono ?_
      rintro e w5 ⟨rfl,rfl⟩
      clear z11 x11 x10 c12
      go_wp2_with (go_at_call 27;refine stop_here ?_)
      refine go_on ?_
      refine(object_any ρ (w.heap.size+1+1+1+1) (w.heap.size+1+1+1+1+1) { σ with line:=0 } V _ K1.out (by have:=HS.out.npool;show σ.c.pool.length≤_;omega)).mono ?_
      rintro e w6 ⟨rfl,ρ6,pv6,hk6,hg6⟩
      obtain⟨σ6,hσ6⟩: ∃x,({ σ with line:=0 }:AsK).object=x:=⟨_,rfl⟩
      rw [hσ6] at hk6
      have HC6:=Lib.hid (show σ.object.c=σ6.c by rw [←hσ6];exact(object_c0 σ).symm)
      have SM6:=Lib.hid (show AsSm σ6 (20*j+2) by rw [←hσ6];exact object_small SM1.out (by omega))
      obtain⟨V6,hV6⟩: ∃x:MkV,{ V with pv:=pv6 }=x:=⟨_,rfl⟩
      rw [hV6] at hk6
      have K6:=Lib.hid hk6
      have G6:=Lib.hid (G1.out.trans (hg6.mono (by simp)))
      clear hk6 hg6 hσ6 hV6
      go_wp2_with (first| (refine wpl_load_pre rfl _ _ rfl (w.heap.size+1+1+1+1+1) rfl (σ6.c.cells V6.pv V6.iv V6.fv V6.tv) (mk_pre K6.out.box) _ Tryz.underlying28 rfl (by kernel_rfl) ?_) | (go_at_call 17;refine stop_here ?_))
      refine go_on ?_
      refine(check_full σ6.c V6.pv V6.iv V6.fv V6.tv _ _ (class_mk K6.out SM6.out (by omega)) (classFine_of SM6.out)).mono ?_
      rintro e w7 ⟨rfl,hb7⟩
      have K7:=Lib.hid (K6.out.below hb7)
      have G7:=Lib.hid (G6.out.trans (Chg.of_below hb7))
      clear hb7
      have XC7:=Lib.hid (show Bx w7 _ _ _ from(G7.out.bx XC2.out (by rw [RC.out.1];decide)))
      have XP7:=Lib.hid (show Bx w7 _ _ _ from(G7.out.bx XP2.out (by rw [RC.out.2.1];decide)))
      have XE7:=Lib.hid (show Bx w7 _ _ _ from(G7.out.bx XE2.out (by rw [RC.out.2.2.1];decide)))
      have HBW7:=Lib.hid (show Below w.heap.size w w7 from HB2.out.trans (((G7.out.below MK0.out.low MK0.out.hB (by decide))).mono (by omega)))
      have h7a:=XC7.out.lt
      have h7b:=XP7.out.lt
      have h7c:=XE7.out.lt
      obtain⟨ck,hck⟩: ∃ck,checkF σ6.c=ck:=⟨_,rfl⟩
      have HCK:=Lib.hid hck
      rw [hck]
      clear hck
      by_cases hk0:ck=0
      ·have HP:=Lib.hid (show aAsm checkF text= .ok σ6.c by rw [←HC6.out];exact asm_good HBIG.out HRE.out HM.out HPT.out (by rw [HC6.out,HCK.out];exact hk0))
       subst hk0
       have cP:=(XP7.out.row_other w.heap.size (σ6.c.cells V6.pv V6.iv V6.fv V6.tv) (by omega)).cell 0 rfl
       have zP:=(XP7.out.row_other w.heap.size (σ6.c.cells V6.pv V6.iv V6.fv V6.tv) (by omega)).frozen 0
       have cE:=(XE7.out.row_other w.heap.size (σ6.c.cells V6.pv V6.iv V6.fv V6.tv) (by omega)).cell 0 rfl
       have zE:=(XE7.out.row_other w.heap.size (σ6.c.cells V6.pv V6.iv V6.fv V6.tv) (by omega)).frozen 0
       go_wp2_with (first| (refine wpl_load_pre rfl _ _ rfl (w.heap.size+1+1+1+1+1) rfl (σ6.c.cells V6.pv V6.iv V6.fv V6.tv) (mk_pre K7.out.box) _ Tryz.underlying28 rfl (by kernel_rfl) ?_) | (refine wpList_store_row rfl _ _ _ rfl w.heap.size (σ6.c.cells V6.pv V6.iv V6.fv V6.tv).toArray rfl rfl _ _ XC7.out (by kernel_rfl) rfl (cells_one K7.out) ?_))
       refine leaves_cons (f:=21) (args:= #[.pointer (some ⟨w.heap.size,0,none⟩), .pointer (some ⟨w.heap.size+1,0,none⟩), .pointer (some ⟨w.heap.size+1+1,0,none⟩)]) (by simp) (by simp [go_sem]) ?_
       refine(acatch_idle ⟨w.heap.size,0,none⟩ ⟨w.heap.size+1,0,none⟩ ⟨w.heap.size+1+1,0,none⟩ _).mono ?_
       rintro e u' w'' ⟨rfl,rfl,rfl⟩
       have hC:=((XC7.out.row (σ6.c.cells V6.pv V6.iv V6.fv V6.tv)).set_other ⟨w.heap.size+1,0,none⟩ (.int .i64 0) (by simp)).set_other ⟨w.heap.size+1+1,0,none⟩ (.int .i64 0) (by simp;omega)
       have hP:=((XP7.out.row_other w.heap.size (σ6.c.cells V6.pv V6.iv V6.fv V6.tv) (by omega)).set 0 (.int .i64 0)).set_other ⟨w.heap.size+1+1,0,none⟩ (.int .i64 0) (by simp)
       have hE:=((XE7.out.row_other w.heap.size (σ6.c.cells V6.pv V6.iv V6.fv V6.tv) (by omega)).set_other ⟨w.heap.size+1,0,none⟩ (.int .i64 0) (by simp)).set 0 (.int .i64 0)
       have rC:ρ6 w.heap.size=0:=(G7.out.blk _ XC2.out.lt (by rw [RC.out.1];decide)).2.trans RC.out.1
       have rP:ρ6 (w.heap.size+1)=0:=(G7.out.blk _ XP2.out.lt (by rw [RC.out.2.1];decide)).2.trans RC.out.2.1
       have rE:ρ6 (w.heap.size+1+1)=0:=(G7.out.blk _ XE2.out.lt (by rw [RC.out.2.2.1];decide)).2.trans RC.out.2.2.1
       have gC:=chg0_cell (chg0_cell (chg0_row (w:=w7) rC (σ6.c.cells V6.pv V6.iv V6.fv V6.tv).toArray) (p:=⟨w.heap.size+1,0,none⟩) rP (.int .i64 0)) (p:=⟨w.heap.size+1+1,0,none⟩) rE (.int .i64 0)
       refine⟨_,resultsA rfl rfl rfl rfl hC hP hE Tryz.underlying28 rfl (by kernel_rfl) Tryz.underlying3 rfl Tryz.underlying29 rfl,asmpost_ok HP.out (show w.heap.size≤w.heap.size+1+1+1+1 by omega) rfl (SM6.out.mono (by omega)) (K7.out.keep gC (K7.out.low.mono gC.size) (by intro c h1 h2 hm;simp at hm;omega)) rfl ?_⟩
       exact((below_rowA HBW7.out _ _ (Nat.le_refl _)).setCell (by simp) _).setCell (by simp;omega) _
      ·have hk1:(ck !=0)=true:=by rw [bne_iff_ne];exact hk0
       have HP:=Lib.hid (show aAsm checkF text= .error (0,ck) by have h:=asm_bad (ck:=checkF) HBIG.out HRE.out HM.out HPT.out (by rw [HC6.out,HCK.out];exact hk0);rw [HC6.out,HCK.out] at h;exact h)
       go_wp2_with fail
       refine leaves_cons (f:=21) (args:= #[.pointer (some ⟨w.heap.size,0,none⟩), .pointer (some ⟨w.heap.size+1,0,none⟩), .pointer (some ⟨w.heap.size+1+1,0,none⟩)]) (by simp) (by simp [go_sem]) ?_
       refine(acatch_stop w.heap.size (w.heap.size+1) (w.heap.size+1+1) 0 ck zeroA _ _ _ XC7.out rfl XP7.out XE7.out (by omega) (by omega) (by omega) []).mono ?_
       rintro e u' w'' ⟨rfl,rfl,hC,hP,hE,hb⟩
       exact⟨_,resultsA rfl rfl rfl rfl hC hP hE Tryz.underlying28 rfl (by kernel_rfl) Tryz.underlying3 rfl Tryz.underlying29 rfl,asmpost_err HP.out rfl (HBW7.out.trans (below_of_butA hb (by omega) (by intro k hk;simp at hk;omega)))⟩
set_option maxHeartbeats 2000000
theorem end_c:EndC:=fun ρ B kb xb σ V m U w N hK hV hM hS hMS hN=>end_any ρ B kb xb σ V m U w N hK hV hM hS hMS hN
theorem asm_all (text:ByteArray) (mx:Int) (w:World) (hmx:w.cell? ⟨Tryz.maxB,0,none⟩=some (.int .i64 mx)) (hts:text.size≤1000000) (hls: ∀s∈aLines text,Mute s∨s.size≤65536):
  Calls Tryz.prog 9 #[.string text] w (AsmPost w (aAsm checkF text)):=asm_any instr_all end_c text mx w hmx hts hls
set_option maxHeartbeats 4000000
theorem num_any (x:Int) (w:World):Calls Tryz.prog 11 #[.int .i64 x] w fun e w'=>e= .returned (.int .i64 x)∧w'=w:=by
 go_enter Tryz.func11,Tryz.ntmps11
 go_wp2_with fail
 go_ret
 exact⟨rfl,rfl⟩
theorem alive_at: ∃(c:ClassV) (m:MethV),aAsm checkF aliveT= .ok c∧c.pool.length=19∧c.mths= [m]∧m.code= [178,0,13,184,0,19,177]:=by
 have h:=alive_plain
 unfold aliveOk at h
 cases hc:aAsm checkF aliveT with
 |error e=>rw [hc] at h;cases h
 |ok c=>
  rw [hc] at h
  simp only [Bool.and_eq_true,decide_eq_true_eq] at h
  obtain⟨h1,h2⟩:=h
  cases hm:c.mths with
  |nil=>rw [hm] at h2;cases h2
  |cons m l=>
   rw [hm] at h2
   cases l with
   |nil=>exact⟨c,m,rfl,h1,hm,by simpa using h2⟩
   |cons a b=>cases h2
theorem code_at {w:World} {ρ:Nat→Nat} {B kb:Nat} {σ:AsK} {V:MkV} {m:MethV} (h:MkC w ρ B kb σ V) (hm:σ.c.mths= [m]): ∃g k A cc,V.tv= .slice (some ⟨g,0,none⟩) 1 k∧w.cell? ⟨g,6,none⟩=some (.slice A m.code.length cc)∧RdB w A m.code.length cc m.code∧g<w.heap.size:=by
 obtain⟨ms,m1,m2,m3⟩:=h.mths
 rw [hm] at m1
 obtain⟨q,rfl,rfl⟩: ∃q,ms= [q]∧q.1=m:=by
  cases ms with
  |nil=>cases m1
  |cons q l=>
   cases l with
   |nil=>exact⟨q,rfl,by simpa using m1⟩
   |cons a b=>simp at m1
 obtain⟨g,k,e⟩: ∃g k,V.tv= .slice (some ⟨g,0,none⟩) 1 k:=by
  rcases Go.Joins.ownsRow_forms m2.1 with⟨_,h0⟩ | ⟨g,cap,e⟩
  ·exact absurd h0 (by simp)
  ·exact⟨g,cap,e⟩
 have hrow:=m2.1
 rw [e] at hrow
 have h6:=hrow.cellAt 6 (by simp)
 have hc:=(m3 q (by simp)).hcode
 obtain⟨A,cc,hv,hle,hmx,hl,hat⟩:=hc
 refine⟨g,k,A,cc,e, ?_, ?_,(hrow.lt g rfl).2⟩
 ·rw [h6]
  simp [methCells,MethV.cells,hv]
 ·exact⟨rfl,hle,by omega,fun h0=>by
   obtain⟨b,off,e1,hb,ho,hcc⟩:=hat h0
   exact⟨b,off,e1,hb,fun i hi=>by
    rw [hcc i _ (by rw [List.getElem?_map,List.getElem?_eq_getElem hi];rfl)]
    simp [bV,byt,List.getD,List.getElem?_eq_getElem hi]⟩⟩
theorem conv7 (b off cap:Nat) (W:World) (h0:W.cell? ⟨b,off,none⟩=some (.int .u8 178)) (h1:W.cell? ⟨b,off+1,none⟩=some (.int .u8 0)) (h2:W.cell? ⟨b,off+2,none⟩=some (.int .u8 13)) (h3:W.cell? ⟨b,off+3,none⟩=some (.int .u8 184)) (h4:W.cell? ⟨b,off+4,none⟩=some (.int .u8 0)) (h5:W.cell? ⟨b,off+5,none⟩=some (.int .u8 19)) (h6:W.cell? ⟨b,off+6,none⟩=some (.int .u8 177)):
  (convert 34 9 (.slice (some ⟨b,off,none⟩) 7 cap)).run Tryz.prog W= .ok (.string ⟨#[178,0,13,184,0,19,177]⟩) W:=by
 have:=run_convert_bytes_arg (P:=Tryz.prog) W 34 5 Tryz.underlying34 Tryz.underlying5 b off 7 cap [178,0,13,184,0,19,177] rfl (fun i hi=>by
  match i,hi with
  |0,_=>exact h0
  |1,_=>exact h1
  |2,_=>exact h2
  |3,_=>exact h3
  |4,_=>exact h4
  |5,_=>exact h5
  |6,_=>exact h6) 9 Tryz.underlying9
 rw [this]
 rfl
theorem post_ok {w w':World} {p:Except (Nat×Int) ClassV} {c:ClassV} {e:Ending} (h:AsmPost w p e w') (hp:p= .ok c):Below w.heap.size w w'∧ ∃ρ B kb σ V,w.heap.size≤B∧σ.c=c∧AsSm σ 900000∧MkC w' ρ B kb σ V∧e= .returned (.tuple #[.agg (c.cells V.pv V.iv V.fv V.tv).toArray, .int .i64 0, .int .i64 0]):=by
 subst hp
 exact h
theorem post_err {w w':World} {p:Except (Nat×Int) ClassV} {n:Nat} {er:Int} {e:Ending} (h:AsmPost w p e w') (hp:p= .error (n,er)):Below w.heap.size w w'∧e= .returned (.tuple #[.agg zeroA.toArray, .int .i64 n, .int .i64 er]):=by
 subst hp
 exact h
theorem alive_asm (mx:Int) (w:World) (hmx:w.cell? ⟨Tryz.maxB,0,none⟩=some (.int .i64 mx)):
  Calls Tryz.prog 8 #[] w fun e w'=>e= .returned (.bool true)∧Below w.heap.size w w':=by
 have hxw:Tryz.maxB<w.heap.size:=World.block_lt_of_cell? _ _ hmx
 have HMX:=Lib.hid hmx
 obtain⟨c,m,hac,hpl,hml,hcd⟩:=alive_at
 clear hmx
 go_enter Tryz.func8,Tryz.ntmps8
 go_wp2_with (go_at_call 9;refine stop_here ?_)
 refine go_on ?_
 refine(asm_all aliveT mx w HMX.out (by decide) (fun s hs=> .inr (Nat.le_trans (line_le hs) (by decide)))).mono ?_
 intro e w1 hq
 obtain⟨hb1,ρ,B,kb,σ,V,hB,hσ,hsm,hk,he⟩:=post_ok hq hac
 subst hσ
 rw [he]
 obtain⟨g,k4,A,cc,hv,c6,hrd,hg⟩:=code_at hk hml
 obtain⟨Ap,kp,hpv⟩:=own_slice hk.pool.1
 obtain⟨Ai,ki,hiv⟩:=own_slice hk.ifs.1
 obtain⟨Af,kf,hfv⟩:=own_slice hk.flds.1
 rw [show σ.c.pool.length=19 from hpl] at hpv
 rw [hpv,hiv,hfv,hv]
 have HK:=Lib.hid hk
 have HB1:=Lib.hid hb1
 have hz1:=hb1.size
 have HRD:=Lib.hid hrd
 have XZ:=Lib.hid (bx_new w1 zeroA 28)
 rw [hcd] at hrd c6
 replace HRD:=Lib.hid hrd
 clear hq hk hb1 hrd he hv hpv hiv hfv hcd hml hac
 go_wp2_with (first| (refine wpList_store_row rfl _ _ _ rfl w1.heap.size (σ.c.cells (.slice Ap 19 kp) (.slice Ai σ.c.ifs.length ki) (.slice Af σ.c.flds.length kf) (.slice (some ⟨g,0,none⟩) 1 k4)).toArray rfl rfl _ _ XZ.out (by kernel_rfl) rfl (by simp [ClassV.cells,Value.oneCell']) ?_) | (go_at_call 9;refine stop_here ?_))
 refine go_on ?_
 obtain⟨w2,hw2⟩: ∃W,W=(w1.alloc (.cells #[.int .i64 0, .int .i64 0, .slice none 0 0, .int .i64 0, .int .i64 0, .int .i64 0, .slice none 0 0, .slice none 0 0, .slice none 0 0] 28)).setRow w1.heap.size (σ.c.cells (.slice Ap 19 kp) (.slice Ai σ.c.ifs.length ki) (.slice Af σ.c.flds.length kf) (.slice (some ⟨g,0,none⟩) 1 k4)).toArray:=⟨_,rfl⟩
 rw [←hw2]
 have XA:=Lib.hid (show Bx w2 w1.heap.size (σ.c.cells (.slice Ap 19 kp) (.slice Ai σ.c.ifs.length ki) (.slice Af σ.c.flds.length kf) (.slice (some ⟨g,0,none⟩) 1 k4)) 28 by rw [hw2];exact XZ.out.row (σ.c.cells (.slice Ap 19 kp) (.slice Ai σ.c.ifs.length ki) (.slice Af σ.c.flds.length kf) (.slice (some ⟨g,0,none⟩) 1 k4)))
 have hB2:Below w1.heap.size w1 w2:=by rw [hw2];exact below_rowA ((Below.refl _ _).alloc (Nat.le_refl _) _) _ _ (Nat.le_refl _)
 have HB2:=Lib.hid (HB1.out.trans (hB2.mono (by omega)))
 have hz2:=hB2.size
 have c62:=(hB2.cell (p:=⟨g,6,none⟩) (by show g<w1.heap.size;omega)).trans c6
 have HRD2:=Lib.hid (HRD.out.below hB2)
 have hx2:=XA.out.lt
 clear hw2 hB2 XZ c6
 refine(asm_all ⟨#[]⟩ mx w2 ((HB2.out.cell (p:=⟨Tryz.maxB,0,none⟩) hxw).trans HMX.out) (by decide) (fun s hs=> .inr (Nat.le_trans (line_le hs) (by decide)))).mono ?_
 intro e w3 hq
 obtain⟨hb3,he⟩:=post_err hq empty_plain
 rw [he]
 have HB3:=Lib.hid (HB2.out.trans (hb3.mono (by have:=HB2.out.size;omega)))
 have XB:=Lib.hid (XA.out.below hb3 hx2)
 have hz3:=hb3.size
 have c63:=(hb3.cell (p:=⟨g,6,none⟩) (by show g<w2.heap.size;omega)).trans c62
 have HRD3:=Lib.hid (HRD2.out.below hb3)
 have XZ3:=Lib.hid (bx_new w3 zeroA 28)
 clear hq hb3 he c62
 have hzz:Value.agg zeroA.toArray= .agg #[.int .i64 0, .int .i64 0, .slice none 0 0, .int .i64 0, .int .i64 0, .int .i64 0, .slice none 0 0, .slice none 0 0, .slice none 0 0]:=rfl
 rw [hzz]
 go_wp2_with (first| (refine wpList_store_row rfl _ _ _ rfl w3.heap.size zeroA.toArray rfl rfl _ _ XZ3.out (by kernel_rfl) rfl (by decide) ?_))
 obtain⟨w4,hw4⟩: ∃W,W=w3.alloc (.cells #[.int .i64 0, .int .i64 0, .slice none 0 0, .int .i64 0, .int .i64 0, .int .i64 0, .slice none 0 0, .slice none 0 0, .slice none 0 0] 28):=⟨_,rfl⟩
 rw [←hw4]
 have hb4:Below w3.heap.size w3 w4:=by rw [hw4];exact(Below.refl _ _).alloc (Nat.le_refl _) _
 have HB4:=Lib.hid (HB3.out.trans (hb4.mono (by have:=HB3.out.size;omega)))
 have XB4:=Lib.hid (XB.out.below hb4 XB.out.lt)
 have c64:=(hb4.cell (p:=⟨g,6,none⟩) (by show g<w3.heap.size;omega)).trans c63
 have hrd4:=HRD3.out.below hb4
 obtain⟨b,off,rfl,hbl,hcc⟩:=hrd4.hat (by decide)
 have e0:w4.cell? ⟨b,off,none⟩=some (.int .u8 178):=hcc 0 (by decide)
 have e1:w4.cell? ⟨b,off+1,none⟩=some (.int .u8 0):=hcc 1 (by decide)
 have e2:w4.cell? ⟨b,off+2,none⟩=some (.int .u8 13):=hcc 2 (by decide)
 have e3:w4.cell? ⟨b,off+3,none⟩=some (.int .u8 184):=hcc 3 (by decide)
 have e4:w4.cell? ⟨b,off+4,none⟩=some (.int .u8 0):=hcc 4 (by decide)
 have e5:w4.cell? ⟨b,off+5,none⟩=some (.int .u8 19):=hcc 5 (by decide)
 have e6:w4.cell? ⟨b,off+6,none⟩=some (.int .u8 177):=hcc 6 (by decide)
 have d2:=XB4.out.cell 2 rfl
 have d8:=XB4.out.cell 8 rfl
 obtain⟨y1,y2,y3,y4,y5,y6,y7,y8,y9,y10,y11,y12⟩:=far b w4.heap.size hbl
 obtain⟨v1,v2,v3,v4,v5,v6,v7,v8,v9,v10,v11,v12⟩:=far g w4.heap.size (by have:=hb4.size;omega)
 obtain⟨t1,t2,t3,t4,t5,t6,t7,t8,t9,t10,t11,t12⟩:=far w1.heap.size w4.heap.size XB4.out.lt
 have HW4:=Lib.hid hw4
 clear hw4 hb4 hcc hrd4 c63 HRD HRD2 HRD3 XA XB XB4 XZ3 hpl
 have hcv:=conv7
 have HCL:=Lib.hid (fun(x:Int) (W:World)=>num_any x W)
 go_region_law (first| (go_simp;go_at_call 11;go_loud (with_reducible refine(HCL.out _ _).mono ?_;rintro e w9 ⟨rfl,rfl⟩)))
 all_goals
  have hz4:=HB4.out.size
  go_wp2_with fail
  go_ret
  refine⟨by first|rfl| (simp;done) |decide, ?_⟩
  repeat' (first|with_reducible exact HB4.out|with_reducible refine Below.drew ?_|with_reducible refine Below.alloc ?_ (by first|omega| (simp;omega)) _)
theorem asm_err (text:ByteArray) (mx:Int) (w:World) (n:Nat) (er:Int) (hmx:w.cell? ⟨Tryz.maxB,0,none⟩=some (.int .i64 mx)) (hts:text.size≤1000000) (hls: ∀s∈aLines text,Mute s∨s.size≤65536) (hp:aAsm checkF text= .error (n,er)):
  Calls Tryz.prog 9 #[.string text] w fun e w'=>Below w.heap.size w w'∧e= .returned (.tuple #[.agg zeroA.toArray, .int .i64 n, .int .i64 er]):=(asm_all text mx w hmx hts hls).mono fun e w' hq=>post_err hq hp
end Go.Proofs.YtlcidkiplidamaaGreatDoor
