/-
  What the laws rest on, part 26: walks of the program's functions and plain laws. Conditions: none but those that each theorem names.
-/
import Derived.Test.YtlcidkiplidamaaGreatDoorR00
import Derived.Test.YtlcidkiplidamaaGreatDoorR01
import Derived.Test.YtlcidkiplidamaaGreatDoorR25
import Derived.Lib.Hide
import Derived.Deep.QuietTactic
import Derived.BigQuiet
import Derived.Deep.RegionHeld2
import Derived.RegionTactic
import Derived.Test.YtlcidkiplidamaaGreatDoorR18
set_option maxRecDepth 100000
set_option maxHeartbeats 4000000
set_option linter.unusedSimpArgs false
set_option linter.unusedVariables false
namespace Go.Proofs.YtlcidkiplidamaaGreatDoor
open Go Go.RowKit
theorem idxa2 (w:World) (k:IntKind) (cs:Array Value) (x:Int) (h0:0≤x) (hx:x< (7:Nat)) (hs:cs.size=7):(Instr.index 140 (.agg cs) (.int k x)).run Tryz.prog w= .ok (cs.getD x.toNat undef) w:=
 run_index_arr (n:=7) Tryz.underlying140 Tryz.underlying9 rfl info_string w k cs x h0 hx hs
theorem idxb2 (w:World) (k:IntKind) (cs:Array Value) (x:Int) (h0:0≤x) (hx:x< (15:Nat)) (hs:cs.size=15):(Instr.index 141 (.agg cs) (.int k x)).run Tryz.prog w= .ok (cs.getD x.toNat undef) w:=
 run_index_arr (n:=15) Tryz.underlying141 Tryz.underlying9 rfl info_string w k cs x h0 hx hs
attribute [local go_sem] idxa2 idxb2
theorem table_2 (w:World):Calls Tryz.prog 33 #[.int .i64 2] w fun e w'=>e= .returned (.agg #[.string ⟨(rowOf 2).1.toArray⟩, .string ⟨(rowOf 2).2.toArray⟩])∧Below w.heap.size w w':=by
 rw [rowOf_2]
 go_enter Tryz.func33,Tryz.ntmps33
 go_wp2
 refine bodyPost_ret (v:= .agg #[.string ⟨#[105,99,111,110,115,116,95,109,49]⟩, .string ⟨#[]⟩]) ?_ rfl ⟨rfl, ?_⟩
 ·simp [results,Tryz.results33,go_sem] <;>rfl
 ·repeat' (first|exact Below.refl _ _|refine Below.drew ?_|refine Below.alloc ?_ ?_ _|refine Below.setCell ?_ ?_ _| (simp;done) | (simp;omega))
theorem table_5 (w:World):Calls Tryz.prog 33 #[.int .i64 5] w fun e w'=>e= .returned (.agg #[.string ⟨(rowOf 5).1.toArray⟩, .string ⟨(rowOf 5).2.toArray⟩])∧Below w.heap.size w w':=by
 rw [rowOf_5]
 go_enter Tryz.func33,Tryz.ntmps33
 go_wp2
 refine bodyPost_ret (v:= .agg #[.string ⟨#[105,99,111,110,115,116,95,50]⟩, .string ⟨#[]⟩]) ?_ rfl ⟨rfl, ?_⟩
 ·simp [results,Tryz.results33,go_sem] <;>rfl
 ·repeat' (first|exact Below.refl _ _|refine Below.drew ?_|refine Below.alloc ?_ ?_ _|refine Below.setCell ?_ ?_ _| (simp;done) | (simp;omega))
theorem table_8 (w:World):Calls Tryz.prog 33 #[.int .i64 8] w fun e w'=>e= .returned (.agg #[.string ⟨(rowOf 8).1.toArray⟩, .string ⟨(rowOf 8).2.toArray⟩])∧Below w.heap.size w w':=by
 rw [rowOf_8]
 go_enter Tryz.func33,Tryz.ntmps33
 go_wp2
 refine bodyPost_ret (v:= .agg #[.string ⟨#[105,99,111,110,115,116,95,53]⟩, .string ⟨#[]⟩]) ?_ rfl ⟨rfl, ?_⟩
 ·simp [results,Tryz.results33,go_sem] <;>rfl
 ·repeat' (first|exact Below.refl _ _|refine Below.drew ?_|refine Below.alloc ?_ ?_ _|refine Below.setCell ?_ ?_ _| (simp;done) | (simp;omega))
theorem table_18 (w:World):Calls Tryz.prog 33 #[.int .i64 18] w fun e w'=>e= .returned (.agg #[.string ⟨(rowOf 18).1.toArray⟩, .string ⟨(rowOf 18).2.toArray⟩])∧Below w.heap.size w w':=by
 rw [rowOf_18]
 go_enter Tryz.func33,Tryz.ntmps33
 go_wp2
 refine bodyPost_ret (v:= .agg #[.string ⟨#[108,100,99]⟩, .string ⟨#[117]⟩]) ?_ rfl ⟨rfl, ?_⟩
 ·simp [results,Tryz.results33,go_sem] <;>rfl
 ·repeat' (first|exact Below.refl _ _|refine Below.drew ?_|refine Below.alloc ?_ ?_ _|refine Below.setCell ?_ ?_ _| (simp;done) | (simp;omega))
theorem table_26 (w:World):Calls Tryz.prog 33 #[.int .i64 26] w fun e w'=>e= .returned (.agg #[.string ⟨(rowOf 26).1.toArray⟩, .string ⟨(rowOf 26).2.toArray⟩])∧Below w.heap.size w w':=by
 rw [rowOf_26]
 go_enter Tryz.func33,Tryz.ntmps33
 go_wp2
 refine bodyPost_ret (v:= .agg #[.string ⟨#[105,108,111,97,100,95,48]⟩, .string ⟨#[]⟩]) ?_ rfl ⟨rfl, ?_⟩
 ·simp [results,Tryz.results33,go_sem] <;>rfl
 ·repeat' (first|exact Below.refl _ _|refine Below.drew ?_|refine Below.alloc ?_ ?_ _|refine Below.setCell ?_ ?_ _| (simp;done) | (simp;omega))
theorem table_29 (w:World):Calls Tryz.prog 33 #[.int .i64 29] w fun e w'=>e= .returned (.agg #[.string ⟨(rowOf 29).1.toArray⟩, .string ⟨(rowOf 29).2.toArray⟩])∧Below w.heap.size w w':=by
 rw [rowOf_29]
 go_enter Tryz.func33,Tryz.ntmps33
 go_wp2
 refine bodyPost_ret (v:= .agg #[.string ⟨#[105,108,111,97,100,95,51]⟩, .string ⟨#[]⟩]) ?_ rfl ⟨rfl, ?_⟩
 ·simp [results,Tryz.results33,go_sem] <;>rfl
 ·repeat' (first|exact Below.refl _ _|refine Below.drew ?_|refine Below.alloc ?_ ?_ _|refine Below.setCell ?_ ?_ _| (simp;done) | (simp;omega))
theorem table_44 (w:World):Calls Tryz.prog 33 #[.int .i64 44] w fun e w'=>e= .returned (.agg #[.string ⟨(rowOf 44).1.toArray⟩, .string ⟨(rowOf 44).2.toArray⟩])∧Below w.heap.size w w':=by
 rw [rowOf_44]
 go_enter Tryz.func33,Tryz.ntmps33
 go_wp2
 refine bodyPost_ret (v:= .agg #[.string ⟨#[97,108,111,97,100,95,50]⟩, .string ⟨#[]⟩]) ?_ rfl ⟨rfl, ?_⟩
 ·simp [results,Tryz.results33,go_sem] <;>rfl
 ·repeat' (first|exact Below.refl _ _|refine Below.drew ?_|refine Below.alloc ?_ ?_ _|refine Below.setCell ?_ ?_ _| (simp;done) | (simp;omega))
theorem table_58 (w:World):Calls Tryz.prog 33 #[.int .i64 58] w fun e w'=>e= .returned (.agg #[.string ⟨(rowOf 58).1.toArray⟩, .string ⟨(rowOf 58).2.toArray⟩])∧Below w.heap.size w w':=by
 rw [rowOf_58]
 go_enter Tryz.func33,Tryz.ntmps33
 go_wp2
 refine bodyPost_ret (v:= .agg #[.string ⟨#[97,115,116,111,114,101]⟩, .string ⟨#[117]⟩]) ?_ rfl ⟨rfl, ?_⟩
 ·simp [results,Tryz.results33,go_sem] <;>rfl
 ·repeat' (first|exact Below.refl _ _|refine Below.drew ?_|refine Below.alloc ?_ ?_ _|refine Below.setCell ?_ ?_ _| (simp;done) | (simp;omega))
theorem table_61 (w:World):Calls Tryz.prog 33 #[.int .i64 61] w fun e w'=>e= .returned (.agg #[.string ⟨(rowOf 61).1.toArray⟩, .string ⟨(rowOf 61).2.toArray⟩])∧Below w.heap.size w w':=by
 rw [rowOf_61]
 go_enter Tryz.func33,Tryz.ntmps33
 go_wp2
 refine bodyPost_ret (v:= .agg #[.string ⟨#[105,115,116,111,114,101,95,50]⟩, .string ⟨#[]⟩]) ?_ rfl ⟨rfl, ?_⟩
 ·simp [results,Tryz.results33,go_sem] <;>rfl
 ·repeat' (first|exact Below.refl _ _|refine Below.drew ?_|refine Below.alloc ?_ ?_ _|refine Below.setCell ?_ ?_ _| (simp;done) | (simp;omega))
theorem table_76 (w:World):Calls Tryz.prog 33 #[.int .i64 76] w fun e w'=>e= .returned (.agg #[.string ⟨(rowOf 76).1.toArray⟩, .string ⟨(rowOf 76).2.toArray⟩])∧Below w.heap.size w w':=by
 rw [rowOf_76]
 go_enter Tryz.func33,Tryz.ntmps33
 go_wp2
 refine bodyPost_ret (v:= .agg #[.string ⟨#[97,115,116,111,114,101,95,49]⟩, .string ⟨#[]⟩]) ?_ rfl ⟨rfl, ?_⟩
 ·simp [results,Tryz.results33,go_sem] <;>rfl
 ·repeat' (first|exact Below.refl _ _|refine Below.drew ?_|refine Below.alloc ?_ ?_ _|refine Below.setCell ?_ ?_ _| (simp;done) | (simp;omega))
theorem table_153 (w:World):Calls Tryz.prog 33 #[.int .i64 153] w fun e w'=>e= .returned (.agg #[.string ⟨(rowOf 153).1.toArray⟩, .string ⟨(rowOf 153).2.toArray⟩])∧Below w.heap.size w w':=by
 rw [rowOf_153]
 go_enter Tryz.func33,Tryz.ntmps33
 go_wp2
 refine bodyPost_ret (v:= .agg #[.string ⟨#[105,102,101,113]⟩, .string ⟨#[106]⟩]) ?_ rfl ⟨rfl, ?_⟩
 ·simp [results,Tryz.results33,go_sem] <;>rfl
 ·repeat' (first|exact Below.refl _ _|refine Below.drew ?_|refine Below.alloc ?_ ?_ _|refine Below.setCell ?_ ?_ _| (simp;done) | (simp;omega))
theorem table_156 (w:World):Calls Tryz.prog 33 #[.int .i64 156] w fun e w'=>e= .returned (.agg #[.string ⟨(rowOf 156).1.toArray⟩, .string ⟨(rowOf 156).2.toArray⟩])∧Below w.heap.size w w':=by
 rw [rowOf_156]
 go_enter Tryz.func33,Tryz.ntmps33
 go_wp2
 refine bodyPost_ret (v:= .agg #[.string ⟨#[105,102,103,101]⟩, .string ⟨#[106]⟩]) ?_ rfl ⟨rfl, ?_⟩
 ·simp [results,Tryz.results33,go_sem] <;>rfl
 ·repeat' (first|exact Below.refl _ _|refine Below.drew ?_|refine Below.alloc ?_ ?_ _|refine Below.setCell ?_ ?_ _| (simp;done) | (simp;omega))
theorem table_159 (w:World):Calls Tryz.prog 33 #[.int .i64 159] w fun e w'=>e= .returned (.agg #[.string ⟨(rowOf 159).1.toArray⟩, .string ⟨(rowOf 159).2.toArray⟩])∧Below w.heap.size w w':=by
 rw [rowOf_159]
 go_enter Tryz.func33,Tryz.ntmps33
 go_wp2
 refine bodyPost_ret (v:= .agg #[.string ⟨#[105,102,95,105,99,109,112,101,113]⟩, .string ⟨#[106]⟩]) ?_ rfl ⟨rfl, ?_⟩
 ·simp [results,Tryz.results33,go_sem] <;>rfl
 ·repeat' (first|exact Below.refl _ _|refine Below.drew ?_|refine Below.alloc ?_ ?_ _|refine Below.setCell ?_ ?_ _| (simp;done) | (simp;omega))
theorem table_162 (w:World):Calls Tryz.prog 33 #[.int .i64 162] w fun e w'=>e= .returned (.agg #[.string ⟨(rowOf 162).1.toArray⟩, .string ⟨(rowOf 162).2.toArray⟩])∧Below w.heap.size w w':=by
 rw [rowOf_162]
 go_enter Tryz.func33,Tryz.ntmps33
 go_wp2
 refine bodyPost_ret (v:= .agg #[.string ⟨#[105,102,95,105,99,109,112,103,101]⟩, .string ⟨#[106]⟩]) ?_ rfl ⟨rfl, ?_⟩
 ·simp [results,Tryz.results33,go_sem] <;>rfl
 ·repeat' (first|exact Below.refl _ _|refine Below.drew ?_|refine Below.alloc ?_ ?_ _|refine Below.setCell ?_ ?_ _| (simp;done) | (simp;omega))
theorem table_165 (w:World):Calls Tryz.prog 33 #[.int .i64 165] w fun e w'=>e= .returned (.agg #[.string ⟨(rowOf 165).1.toArray⟩, .string ⟨(rowOf 165).2.toArray⟩])∧Below w.heap.size w w':=by
 rw [rowOf_165]
 go_enter Tryz.func33,Tryz.ntmps33
 go_wp2
 refine bodyPost_ret (v:= .agg #[.string ⟨#[105,102,95,97,99,109,112,101,113]⟩, .string ⟨#[106]⟩]) ?_ rfl ⟨rfl, ?_⟩
 ·simp [results,Tryz.results33,go_sem] <;>rfl
 ·repeat' (first|exact Below.refl _ _|refine Below.drew ?_|refine Below.alloc ?_ ?_ _|refine Below.setCell ?_ ?_ _| (simp;done) | (simp;omega))
theorem reckons_any (c:Int) (w:World) (h1:87≤c) (h2:c≤147):
  Calls Tryz.prog 74 #[.int .i64 c] w fun e w'=>e= .returned (.agg #[.string ⟨(rowOf c).1.toArray⟩, .string ⟨(rowOf c).2.toArray⟩])∧Below w.heap.size w w':=by
 go_enter Tryz.func74,Tryz.ntmps74
 go_wp2
 all_goals
  simp only [beq_iff_eq,beq_eq_false_iff_ne,ne_eq] at*
  subst_vars
  refine bodyPost_ret (v:= .agg #[.string ⟨(rowOf _).1.toArray⟩, .string ⟨(rowOf _).2.toArray⟩]) ?_ rfl ⟨rfl, ?_⟩
  all_goals first
   | (refine(Below.refl _ _).alloc ?_ _;simp;done)
   | (simp [results,Tryz.results74,go_sem,rowOf,rowL];done)
   | (rw [rowOf_none (by simp [rowL];omega)];simp [results,Tryz.results74,go_sem];done)
theorem others_any (c:Int) (w:World) (h1:c<0∨8<c) (h2:c<26∨29<c) (h3:c<42∨45<c) (h4:c<59∨62<c) (h5:c<75∨78<c) (h6:c<87∨147<c) (h7:c<153∨167<c) (h8:c<16∨18<c) (h9:c≠21) (h10:c≠25) (h11:c≠54) (h12:c≠58):
  Calls Tryz.prog 75 #[.int .i64 c] w fun e w'=>e= .returned (.agg #[.string ⟨(rowOf c).1.toArray⟩, .string ⟨(rowOf c).2.toArray⟩])∧Below w.heap.size w w':=by
 go_enter Tryz.func75,Tryz.ntmps75
 go_wp2
 all_goals
  simp only [beq_iff_eq,beq_eq_false_iff_ne,ne_eq] at*
  subst_vars
  refine bodyPost_ret (v:= .agg #[.string ⟨(rowOf _).1.toArray⟩, .string ⟨(rowOf _).2.toArray⟩]) ?_ rfl ⟨rfl, ?_⟩
  all_goals first
   | (refine(Below.refl _ _).alloc ?_ _;simp;done)
   | (simp [results,Tryz.results75,go_sem,rowOf,rowL];done)
   | (rw [rowOf_none (by simp [rowL];omega)];simp [results,Tryz.results75,go_sem];done)
theorem table_mid (c:Int) (w:World) (h1:87≤c) (h2:c≤147):Calls Tryz.prog 33 #[.int .i64 c] w fun e w'=>e= .returned (.agg #[.string ⟨(rowOf c).1.toArray⟩, .string ⟨(rowOf c).2.toArray⟩])∧Below w.heap.size w w':=by
 go_enter Tryz.func33,Tryz.ntmps33
 go_wp2_with (go_at_call 74;refine(reckons_any _ _ h1 h2).mono ?_;rintro e w1 ⟨rfl,hb⟩;have hz:=hb.size;simp only [World.size_alloc] at hz;obtain⟨hc,hf⟩:=bcell hb;have c0:=hc w.heap.size 0 (by simp;omega);have c1:=hc w.heap.size 1 (by simp;omega);have f0:=hf w.heap.size 0 (by simp;omega);have f1:=hf w.heap.size 1 (by simp;omega);clear hc hf;simp [go_sem] at c0 c1 f0 f1)
 refine bodyPost_ret (v:= .agg #[.string ⟨(rowOf c).1.toArray⟩, .string ⟨(rowOf c).2.toArray⟩]) ?_ rfl ⟨rfl, ?_⟩
 ·simp [results,Tryz.results33,go_sem,c0,c1,f0,f1,hz]
 ·exact((((Below.refl _ _).alloc (Nat.le_refl _) _).alloc (by simp) _).trans (hb.mono (by simp;omega))).setCell (by simp) _|>.setCell (by simp) _
theorem table_rest (c:Int) (w:World) (h1:c<0∨8<c) (h2:c<26∨29<c) (h3:c<42∨45<c) (h4:c<59∨62<c) (h5:c<75∨78<c) (h6:c<87∨147<c) (h7:c<153∨167<c) (h8:c<16∨18<c) (h9:c≠21) (h10:c≠25) (h11:c≠54) (h12:c≠58):Calls Tryz.prog 33 #[.int .i64 c] w fun e w'=>e= .returned (.agg #[.string ⟨(rowOf c).1.toArray⟩, .string ⟨(rowOf c).2.toArray⟩])∧Below w.heap.size w w':=by
 have e0:(c==0)=false:=by simp;omega
 have e1:(c==1)=false:=by simp;omega
 have e16:(c==16)=false:=by simp;omega
 have e17:(c==17)=false:=by simp;omega
 have e18:(c==18)=false:=by simp;omega
 have e21:(c==21)=false:=by simp;omega
 have e25:(c==25)=false:=by simp;omega
 have e54:(c==54)=false:=by simp;omega
 have e58:(c==58)=false:=by simp;omega
 have K0: ∀w,Calls Tryz.prog 75 #[.int .i64 c] w fun e w'=>e= .returned (.agg #[.string ⟨(rowOf c).1.toArray⟩, .string ⟨(rowOf c).2.toArray⟩])∧Below w.heap.size w w':=fun w=>others_any c w h1 h2 h3 h4 h5 h6 h7 h8 h9 h10 h11 h12
 have K:=Lib.hid K0
 clear K0
 clear h8 h9 h10 h11 h12
 go_enter Tryz.func33,Tryz.ntmps33
 go_wp2_with (go_at_call 75;refine(K.out _).mono ?_;rintro e w1 ⟨rfl,hb⟩;have hz:=hb.size;simp only [World.size_alloc] at hz;obtain⟨hc,hf⟩:=bcell hb;have c0:=hc w.heap.size 0 (by simp;omega);have c1:=hc w.heap.size 1 (by simp;omega);have f0:=hf w.heap.size 0 (by simp;omega);have f1:=hf w.heap.size 1 (by simp;omega);clear hc hf;simp [go_sem] at c0 c1 f0 f1)
 all_goals
  refine bodyPost_ret (v:= .agg #[.string ⟨(rowOf c).1.toArray⟩, .string ⟨(rowOf c).2.toArray⟩]) ?_ rfl ⟨rfl, ?_⟩
  ·simp [results,Tryz.results33,go_sem,c0,c1,f0,f1,hz]
  ·exact((((Below.refl _ _).alloc (Nat.le_refl _) _).alloc (by simp) _).trans (hb.mono (by simp;omega))).setCell (by simp) _|>.setCell (by simp) _
theorem table_any (c:Int) (w:World):Calls Tryz.prog 33 #[.int .i64 c] w fun e w'=>e= .returned (.agg #[.string ⟨(rowOf c).1.toArray⟩, .string ⟨(rowOf c).2.toArray⟩])∧Below w.heap.size w w':=by
 by_cases hm:87≤c∧c≤147
 ·exact table_mid c w hm.1 hm.2
 by_cases hl:c∈([0,1,2,3,4,5,6,7,8,16,17,18,21,25,26,27,28,29,42,43,44,45,54,58,59,60,61,62,75,76,77,78,153,154,155,156,157,158,159,160,161,162,163,164,165,166,167]:List Int)
 ·simp only [List.mem_cons,List.not_mem_nil,or_false] at hl
  rcases hl with rfl|rfl|rfl|rfl|rfl|rfl|rfl|rfl|rfl|rfl|rfl|rfl|rfl|rfl|rfl|rfl|rfl|rfl|rfl|rfl|rfl|rfl|rfl|rfl|rfl|rfl|rfl|rfl|rfl|rfl|rfl|rfl|rfl|rfl|rfl|rfl|rfl|rfl|rfl|rfl|rfl|rfl|rfl|rfl|rfl|rfl|rfl
  ·exact table_0 w
  ·exact table_1 w
  ·exact table_2 w
  ·exact table_3 w
  ·exact table_4 w
  ·exact table_5 w
  ·exact table_6 w
  ·exact table_7 w
  ·exact table_8 w
  ·exact table_16 w
  ·exact table_17 w
  ·exact table_18 w
  ·exact table_21 w
  ·exact table_25 w
  ·exact table_26 w
  ·exact table_27 w
  ·exact table_28 w
  ·exact table_29 w
  ·exact table_42 w
  ·exact table_43 w
  ·exact table_44 w
  ·exact table_45 w
  ·exact table_54 w
  ·exact table_58 w
  ·exact table_59 w
  ·exact table_60 w
  ·exact table_61 w
  ·exact table_62 w
  ·exact table_75 w
  ·exact table_76 w
  ·exact table_77 w
  ·exact table_78 w
  ·exact table_153 w
  ·exact table_154 w
  ·exact table_155 w
  ·exact table_156 w
  ·exact table_157 w
  ·exact table_158 w
  ·exact table_159 w
  ·exact table_160 w
  ·exact table_161 w
  ·exact table_162 w
  ·exact table_163 w
  ·exact table_164 w
  ·exact table_165 w
  ·exact table_166 w
  ·exact table_167 w
 ·simp only [List.mem_cons,List.not_mem_nil,or_false,not_or] at hl
  refine table_rest c w ?_ ?_ ?_ ?_ ?_ ?_ ?_ ?_ ?_ ?_ ?_ ?_<;>omega
end Go.Proofs.YtlcidkiplidamaaGreatDoor
namespace Go.Proofs.YtlcidkiplidamaaGreatDoor
open Go Go.RowKit Lib
theorem opsform_any (c:Int) (w:World):
  Calls Tryz.prog 130 #[.int .i64 c] w fun e w'=>e= .returned (.tuple #[.string ⟨(rowOf c).1.toArray⟩, .string ⟨(rowOf c).2.toArray⟩])∧Below w.heap.size w w':=by
 go_enter Tryz.func130,Tryz.ntmps130
 go_wp2_with (go_at_call 33;refine(table_any _ _).mono ?_;rintro e w1 ⟨rfl,hb⟩;have HB:=Lib.hid hb;clear hb)
 go_quiet (fail)
 go_wp2
 go_ret2
 exact⟨rfl,below_drewN ((HB.out).alloc HB.out.size _) _⟩
theorem rowOf_mem {c:Int} (h:(rowOf c).1≠ []): ∃r∈rowL,r.1=c∧r.2=rowOf c:=by
 unfold rowOf at h⊢
 split
 ·rename_i r hr
  have h1:=List.find?_some hr
  exact⟨r,List.mem_of_find?_eq_some hr,by simpa using h1,rfl⟩
 ·rename_i hr
  rw [hr] at h
  exact absurd rfl h
theorem codeOf_names: ∀r∈rowL,codeOf r.2.1=r.1∧0≤r.1∧r.1<256∧rowOf r.1=r.2:=by decide
theorem codeOf_hit {c:Int} {s:List UInt8} (h:(rowOf c).1=s) (hs:s≠ []):codeOf s=c:=by
 obtain⟨r,hr,hc,h2⟩:=rowOf_mem (c:=c) (by rw [h];exact hs)
 rw [←h, ←h2, ←hc]
 exact(codeOf_names r hr).1
theorem codeOf_miss {s:List UInt8} (h: ∀c:Nat,c<256→(rowOf c).1≠s):codeOf s= -1:=by
 unfold codeOf
 split
 ·rename_i r hr
  exfalso
  have h1:=List.find?_some hr
  simp only [beq_iff_eq] at h1
  obtain⟨_,h2,h3,h4⟩:=codeOf_names r (List.mem_of_find?_eq_some hr)
  have:=h r.1.toNat (by omega)
  rw [show((r.1.toNat:Nat):Int)=r.1 from by omega,h4] at this
  exact this h1
 ·rfl
theorem codeOf_nil:codeOf []= -1:=by decide
theorem opsfind_nil (s:ByteArray) (hs:s.toList= []) (w:World):
  Calls Tryz.prog 129 #[.string s] w fun e w'=>e= .returned (.int .i64 (-1))∧Below w.heap.size w w':=by
 have he:s.toList.isEmpty=true:=by simp [hs]
 have HE:=Lib.hid hs
 clear hs
 go_enter Tryz.func129,Tryz.ntmps129
 go_wp2
 go_loopw [5] (fun i wr=> ∃k:Nat,k≤256∧i= .int .i64 k∧Hid (Below w.heap.size w wr)) (fun i _=>256 - (RowKit.intOf i).toNat)
 case atStart=>exact⟨0,by omega,rfl,Below.refl _ _⟩
 case round=>
  obtain⟨k,hk,rfl,HB⟩:=hrel
  by_cases hlt:k<256
  ·go_wp2_with (go_at_call 33;refine(table_any _ _).mono ?_;rintro e w1 ⟨rfl,hb⟩;have HB1:=Lib.hid hb;clear hb)
   all_goals
    go_roundw
    case rel=>exact⟨k+1,by omega,by go_num,by show Below _ _ _;exact(HB.out.trans (HB1.out.mono HB.out.size)).alloc (Nat.le_trans HB.out.size HB1.out.size) _⟩
    case measure=>simp [RowKit.intOf];omega
  ·obtain rfl:k=256:=by omega
   go_wp2
   go_ret
   exact⟨rfl,HB.out⟩
theorem opsfind_some (s:ByteArray) (hs:s.toList≠ []) (w:World):
  Calls Tryz.prog 129 #[.string s] w fun e w'=>e= .returned (.int .i64 (codeOf s.toList))∧Below w.heap.size w w':=by
 have he:s.toList.isEmpty=false:=by simp [hs]
 have HE:=Lib.hid hs
 clear hs
 go_enter Tryz.func129,Tryz.ntmps129
 go_wp2
 go_loopw [5] (fun i wr=> ∃k:Nat,k≤256∧i= .int .i64 k∧Hid (Below w.heap.size w wr)∧Hid (∀c:Nat,c<k→(rowOf c).1≠s.toList)) (fun i _=>256 - (RowKit.intOf i).toNat)
 case atStart=>exact⟨0,by omega,rfl,Below.refl _ _,fun c hc=>absurd hc (by omega)⟩
 case round=>
  obtain⟨k,hk,rfl,HB,HN⟩:=hrel
  by_cases hlt:k<256
  ·by_cases hh:(rowOf k).1=s.toList
   ·have hb0:((rowOf k).1==s.toList)=true:=by simp [hh]
    have HR:=Lib.hid (codeOf_hit hh HE.out)
    clear hh
    go_wp2_with (go_at_call 33;refine(table_any _ _).mono ?_;rintro e w1 ⟨rfl,hb⟩;have HB1:=Lib.hid hb;clear hb)
    go_ret
    exact⟨by rw [HR.out];rfl,by show Below _ _ _;exact(HB.out.trans (HB1.out.mono HB.out.size)).alloc (Nat.le_trans HB.out.size HB1.out.size) _⟩
   ·have hb0:((rowOf k).1==s.toList)=false:=by simp [hh]
    have HH:=Lib.hid hh
    clear hh
    go_wp2_with (go_at_call 33;refine(table_any _ _).mono ?_;rintro e w1 ⟨rfl,hb⟩;have HB1:=Lib.hid hb;clear hb)
    go_roundw
    case rel=>exact⟨k+1,by omega,by go_num,by show Below _ _ _;exact(HB.out.trans (HB1.out.mono HB.out.size)).alloc (Nat.le_trans HB.out.size HB1.out.size) _,fun c hc=>by
     rcases Nat.lt_or_ge c k with h|h
     ·exact HN.out c h
     ·obtain rfl:c=k:=by omega
      exact HH.out⟩
    case measure=>simp [RowKit.intOf];omega
  ·obtain rfl:k=256:=by omega
   go_wp2
   go_ret
   exact⟨by rw [codeOf_miss HN.out];rfl,HB.out⟩
theorem opsfind_any (s:ByteArray) (w:World):
  Calls Tryz.prog 129 #[.string s] w fun e w'=>e= .returned (.int .i64 (codeOf s.toList))∧Below w.heap.size w w':=by
 by_cases hs:s.toList= []
 ·rw [hs,codeOf_nil]
  exact opsfind_nil s hs w
 ·exact opsfind_some s hs w
theorem evalA_put {a:Act} {d i:Nat} {v:Value} (h:i≠d):(a.put (some d) v).eval (.tmp i)=a.eval (.tmp i):=by
 simp [Act.put,Act.eval,Array.getD_eq_getD_getElem?,Array.getElem?_setIfInBounds,Ne.symm h]
theorem evalA_here {a:Act} {d:Nat} {v:Value} (h:d<a.tmps.size):(a.put (some d) v).eval (.tmp d)=v:=by
 simp [Act.put,Act.eval,Array.getD_eq_getD_getElem?,Array.getElem?_setIfInBounds,h]
theorem putA_size {a:Act} {d:Nat} {v:Value}:(a.put (some d) v).tmps.size=a.tmps.size:=by simp [Act.put]
structure FrA (a0 a:Act) (N lo hi:Nat):Prop where
 z:a.tmps.size=N
 d:a.defers=a0.defers
 k: ∀i:Nat,(i<lo∨hi<i)→a.eval (.tmp i)=a0.eval (.tmp i)
theorem FrA.put {a0 a:Act} {N lo hi:Nat} (h:FrA a0 a N lo hi) (d:Nat) (v:Value) (hd:lo≤d∧d≤hi∧d<N): ∃b,a.put (some d) v=b∧FrA a0 b N lo hi∧b.eval (.tmp d)=v∧ ∀i:Nat,i≠d→b.eval (.tmp i)=a.eval (.tmp i):=
 ⟨_,rfl,⟨putA_size.trans h.z,h.d,fun i hi=> (evalA_put (by omega)).trans (h.k i hi)⟩,evalA_here (by rw [h.z];exact hd.2.2),fun i hi=>evalA_put hi⟩
end Go.Proofs.YtlcidkiplidamaaGreatDoor
set_option maxHeartbeats 2000000
namespace Go.Proofs.YtlcidkiplidamaaGreatDoor
open Go Go.RowKit Lib Go.Maps
def formsA:List (List UInt8):= [[], [98], [117], [115], [106], [102], [109], [99], [105], [117,98]]
theorem rowA_forms (c:Int):(rowOf c).2∈formsA:=by
 unfold rowOf
 split
 ·rename_i r hr
  have hm:=List.mem_of_find?_eq_some hr
  have hall: ∀r∈rowL,r.2.2∈formsA:=by decide
  exact hall r hm
 ·decide
def mAt (m:AsM) (x:AsI):AsM:={ m with mv:={ m.mv with code:=x.code },jumps:=x.jumps }
structure InE (w0:World) (ρ0:Nat→Nat) (B kb xb p1 p4 q8 it:Nat) (m:AsM) (x:AsI) (w:World) (ρ:Nat→Nat) (V:MkV) (U:MtV) (A:Option Addr) (n cap:Nat):Prop where
 kc:MkC w ρ B kb x.k V
 mv:V.mv= .pointer (some ⟨xb,0,none⟩)
 mt:MtC w ρ B xb (mAt m x) U
 chg:Chg [1,2,3,4,5,6,7,8,9,10,11,12,13] w0 ρ0 w ρ
 q:Bx w q8 [.slice A n cap] 43
 wd:WdA w (fun g=>ρ0 g=0∧g<w0.heap.size) A n cap x.rest
 r1:ρ p1=0
 r4:ρ p4=0
 r8:ρ q8=0
 ri:ρ it=0
structure InS (w0:World) (ρ0:Nat→Nat) (B kb xb p1 p4 q8 it:Nat) (fs:ByteArray) (pos:Nat) (m:AsM) (x:AsI) (w:World):Prop where
 ex: ∃(ρ:Nat→Nat) (V:MkV) (U:MtV) (A:Option Addr) (n cap:Nat),InE w0 ρ0 B kb xb p1 p4 q8 it m x w ρ V U A n cap
 b1:Bx w p1 [.pointer (some ⟨kb,0,none⟩)] 63
 b4:Bx w p4 [.pointer (some ⟨xb,0,none⟩)] 65
 ib:w.heap[it]?=some (.stringIter fs pos)
 l1:w0.heap.size≤p1
 l4:w0.heap.size≤p4
 l8:w0.heap.size≤q8
 li:w0.heap.size≤it
 n1:p1≠q8
 n4:p4≠q8
 ni:it≠q8
 i1:it≠p1
 i4:it≠p4
 low:Low w0 ρ0 B
 hB:B≤w0.heap.size
theorem iter_new (w:World) (fs:ByteArray):(w.alloc (.stringIter fs 0)).heap[w.heap.size]?=some (.stringIter fs 0):=by
 have h:=(w.heap.push_eq_append (a:= .stringIter fs 0))
 show(w.heap.push _)[w.heap.size]?=_
 rw [Array.getElem?_push_size]
theorem iter_lt {w:World} {it pos:Nat} {fs:ByteArray} (h:w.heap[it]?=some (.stringIter fs pos)):it<w.heap.size:=(Array.getElem?_eq_some_iff.1 h).1
theorem WdA.kept {w w':World} {ok:Nat→Prop} {A:Option Addr} {n cap:Nat} {ws:List ByteArray} (h:WdA w ok A n cap ws) (hsz:w.heap.size≤w'.heap.size) (hk: ∀g,g<w.heap.size→ok g→w'.heap[g]?=w.heap[g]?):WdA w' ok A n cap ws:=
 ⟨h.len,h.le,h.max,fun h0=>by
  obtain⟨b,off,e,hb,ho,hc⟩:=h.hat h0
  exact⟨b,off,e,Nat.lt_of_lt_of_le hb hsz,ho,fun j s hs=> (World.cell?_of_block (hk b hb ho)).trans (hc j s hs)⟩⟩
theorem InS.step {w0:World} {ρ0:Nat→Nat} {B kb xb p1 p4 q8 it:Nat} {fs:ByteArray} {pos:Nat} {m:AsM} {x x':AsI} {w w':World} {ρ ρ':Nat→Nat} {V V':MkV} {U U':MtV} {A:Option Addr} {n cap:Nat} {cs:List Nat}
  (h:InS w0 ρ0 B kb xb p1 p4 q8 it fs pos m x w) (e:InE w0 ρ0 B kb xb p1 p4 q8 it m x w ρ V U A n cap) (hc:Chg cs w ρ w' ρ') (h0:0∉cs) (hs: ∀c∈cs,c∈ [1,2,3,4,5,6,7,8,9,10,11,12,13]) (hm:MkC w' ρ' B kb x'.k V') (hv:V'.mv=V.mv) (ht:MtC w' ρ' B xb (mAt m x') U') (hr:x'.rest=x.rest):
  InS w0 ρ0 B kb xb p1 p4 q8 it fs pos m x' w':=by
 have k: ∀g,g<w.heap.size→ρ g=0→w'.heap[g]?=w.heap[g]?∧ρ' g=0:=fun g hg hr=>by
  have:=hc.blk g hg (by rw [hr];exact h0)
  exact⟨this.1,this.2.trans hr⟩
 have e1:=k p1 h.b1.lt e.r1
 have e4:=k p4 h.b4.lt e.r4
 have e8:=k q8 e.q.lt e.r8
 have ei:=k it (iter_lt h.ib) e.ri
 have hk2: ∀g,g<w.heap.size→(ρ0 g=0∧g<w0.heap.size)→w'.heap[g]?=w.heap[g]?:=fun g hg ho=>by
  have h1:ρ g=ρ0 g:=(e.chg.blk g ho.2 (by rw [ho.1];decide)).2
  exact(k g hg (h1.trans ho.1)).1
 exact{ h with
  ex:=⟨ρ',V',U',A,n,cap,⟨hm,hv.trans e.mv,ht,e.chg.trans (hc.mono hs),e8.1.trans e.q,by rw [hr];exact e.wd.kept hc.size hk2,e1.2,e4.2,e8.2,ei.2⟩⟩
  b1:=e1.1.trans h.b1
  b4:=e4.1.trans h.b4
  ib:=ei.1.trans h.ib }
theorem InS.below {w0:World} {ρ0:Nat→Nat} {B kb xb p1 p4 q8 it:Nat} {fs:ByteArray} {pos:Nat} {m:AsM} {x:AsI} {w w':World} (h:InS w0 ρ0 B kb xb p1 p4 q8 it fs pos m x w) (hb:Below w.heap.size w w'):InS w0 ρ0 B kb xb p1 p4 q8 it fs pos m x w':=by
 obtain⟨ρ,V,U,A,n,cap,e⟩:=h.ex
 exact h.step e (Chg.of_below (cs:= []) hb) (by simp) (by simp) (e.kc.below hb) rfl (e.mt.below hb) rfl
theorem InS.since {w0:World} {ρ0:Nat→Nat} {B kb xb p1 p4 q8 it:Nat} {fs:ByteArray} {pos:Nat} {m:AsM} {x:AsI} {w:World} (h:InS w0 ρ0 B kb xb p1 p4 q8 it fs pos m x w):Below B w0 w:=by
 obtain⟨ρ,V,U,A,n,cap,e⟩:=h.ex
 exact e.chg.below h.low h.hB (by decide)
theorem InS.turn {w0:World} {ρ0:Nat→Nat} {B kb xb p1 p4 q8 it:Nat} {fs:ByteArray} {pos pos':Nat} {m:AsM} {x:AsI} {w w':World} (h:InS w0 ρ0 B kb xb p1 p4 q8 it fs pos m x w) (hi:w'.heap[it]?=some (.stringIter fs pos')) (hk: ∀j,j≠it→w'.heap[j]?=w.heap[j]?) (hb:Below it w w'):InS w0 ρ0 B kb xb p1 p4 q8 it fs pos' m x w':=by
 obtain⟨ρ,V,U,A,n,cap,e⟩:=h.ex
 have hc:Chg [0] w ρ w' ρ:=⟨hb.os,hb.tape,hb.output,hb.size,fun g hg hr=> ⟨hk g (by rintro rfl;exact hr (by rw [e.ri];simp)),rfl⟩⟩
 have hc2:Chg [1,2,3,4,5,6,7,8,9,10,11,12,13] w0 ρ0 w' ρ:=⟨hb.os.trans e.chg.os,hb.tape.trans e.chg.tape,hb.output.trans e.chg.output,Nat.le_trans e.chg.size hb.size,fun g hg hr=>by
  have:=e.chg.blk g hg hr
  exact⟨(hk g (by have:=h.li;omega)).trans this.1,this.2⟩⟩
 exact{ h with
  ex:=⟨ρ,V,U,A,n,cap,⟨e.kc.keep hc (e.kc.low.mono hb.size) (by intro c h1 h2 hm;simp at hm;omega),e.mv,e.mt.keep hc (by intro c h1 h2 hm;simp at hm;omega),hc2,(hk q8 (Ne.symm h.ni)).trans e.q,e.wd.kept hb.size (fun g hg ho=>hk g (by have:=h.li;omega)),e.r1,e.r4,e.r8,e.ri⟩⟩
  b1:=(hk p1 (Ne.symm h.i1)).trans h.b1
  b4:=(hk p4 (Ne.symm h.i4)).trans h.b4
  ib:=hi }
theorem InS.again {w0:World} {ρ0:Nat→Nat} {B kb xb p1 p4 q8 it:Nat} {fs:ByteArray} {pos:Nat} {m:AsM} {x:AsI} {w:World} (h:InS w0 ρ0 B kb xb p1 p4 q8 it fs pos m x w) (gs:ByteArray) (k:Nat) (hk:k=w.heap.size):InS w0 ρ0 B kb xb p1 p4 q8 k gs 0 m x (w.alloc (.stringIter gs 0)):=by
 subst hk
 have hb:=(Below.refl w.heap.size w).alloc (Nat.le_refl _) (.stringIter gs 0)
 obtain⟨ρ,V,U,A,n,cap,e⟩:=h.ex
 have a1:=h.b1.lt
 have a4:=h.b4.lt
 have a8:=e.q.lt
 have a0:=e.chg.size
 exact{ h with
  ex:=⟨ρ,V,U,A,n,cap,⟨e.kc.below hb,e.mv,e.mt.below hb,e.chg.trans (Chg.of_below hb),e.q.below hb a8,e.wd.kept hb.size (fun g hg ho=>hb.block g hg),e.r1,e.r4,e.r8,e.kc.low.fresh (Nat.le_refl _)⟩⟩
  b1:=h.b1.below hb a1
  b4:=h.b4.below hb a4
  ib:=iter_new w gs
  li:=a0
  ni:=by omega
  i1:=by omega
  i4:=by omega }
theorem MkC.wm2 {w:World} {ρ:Nat→Nat} {B kb:Nat} {σ:AsK} {V:MkV} (h:MkC w ρ B kb σ V) (m:Option AsM):MkC w ρ B kb { σ with m:=m } V:=⟨h.low,h.hB,h.box,h.kc,h.map,h.mc,h.pool,h.ifs,h.flds,h.mths⟩
theorem InS.done {w0:World} {ρ0:Nat→Nat} {B kb xb p1 p4 q8 it line:Nat} {fs:ByteArray} {pos:Nat} {m:AsM} {x:AsI} {w:World} {p:Option AsK} (h:InS w0 ρ0 B kb xb p1 p4 q8 it fs pos m x w) (hp:p=some { x.k with m:=some (mAt m x) }):
  LPost [1,2,3,4,5,6,7,8,9,10,11,12,13] w0 ρ0 B kb line p (.returned (.tuple #[])) w:=by
 obtain⟨ρ,V,U,A,n,cap,e⟩:=h.ex
 exact lpost_some hp rfl (e.kc.wm2 (some (mAt m x))) ⟨xb,U,e.mv,e.mt⟩ e.chg
theorem InS.wrong {w0:World} {ρ0:Nat→Nat} {B kb xb p1 p4 q8 it line:Nat} {fs:ByteArray} {pos:Nat} {m:AsM} {x:AsI} {w:World} {p:Option AsK} (h:InS w0 ρ0 B kb xb p1 p4 q8 it fs pos m x w) (hp:p=none):
  LPost [1,2,3,4,5,6,7,8,9,10,11,12,13] w0 ρ0 B kb line p (wrongE line) w:=lpost_none hp h.since
theorem InS.next' {w0:World} {ρ0:Nat→Nat} {B kb xb p1 p4 q8 it:Nat} {fs:ByteArray} {pos:Nat} {m:AsM} {x:AsI} {w:World} {s:ByteArray} {r:List ByteArray} {ρ:Nat→Nat} {V:MkV} {U:MtV} {A:Option Addr} {n cap:Nat} (h:InS w0 ρ0 B kb xb p1 p4 q8 it fs pos m x w) (e:InE w0 ρ0 B kb xb p1 p4 q8 it m x w ρ V U A n cap) (hr:x.rest=s::r):
  Calls Tryz.prog 131 #[.pointer (some ⟨p1,0,none⟩), .pointer (some ⟨q8,0,none⟩)] w fun e' w'=>e'= .returned (.string s)∧InS w0 ρ0 B kb xb p1 p4 q8 it fs pos m { x with rest:=r } w'∧ ∃A',w'=w.setCell ⟨q8,0,none⟩ (.slice A' (n - 1) (cap - 1))∧InE w0 ρ0 B kb xb p1 p4 q8 it m { x with rest:=r } w' ρ V U A' (n - 1) (cap - 1):=by
 have hn:n=r.length+1:=by rw [e.wd.len,hr];rfl
 obtain⟨b,off,rfl,hb,hub,hc⟩:=e.wd.hat (by omega)
 refine(next_any p1 q8 kb x.k.line b off n cap (mkCells x.k V) s w (h.b1.cell 0 rfl) e.kc.box rfl e.q (by omega) e.wd.le e.wd.max (by simpa using hc 0 s (by rw [hr];rfl))).mono ?_
 rintro e' w' ⟨rfl,A',hA',rfl⟩
 have hbq:b≠q8:=by
  have:=h.l8
  have:=hub.2
  omega
 have hcb: ∀g,g≠q8→(w.setCell ⟨q8,0,none⟩ (.slice A' (n - 1) (cap - 1))).heap[g]?=w.heap[g]?:=fun g hg=>Below.heap_setCell _ _ _ _ hg
 have hwd:WdA (w.setCell ⟨q8,0,none⟩ (.slice A' (n - 1) (cap - 1))) (fun g=>ρ0 g=0∧g<w0.heap.size) A' (n - 1) (cap - 1) r:=by
  refine⟨by omega,by have:=e.wd.le;omega,by have:=e.wd.max;omega,fun h0=> ⟨b,off+1,hA' (by omega),by simpa using hb,hub,fun j s' hs'=> ?_⟩⟩
  rw [World.cell?_setCell_other _ _ _ _ (by intro e;injection e with e _;exact hbq e.symm)]
  have:=hc (j+1) s' (by rw [hr];simpa using hs')
  rw [←this]
  congr 2
  omega
 have e2:InE w0 ρ0 B kb xb p1 p4 q8 it m { x with rest:=r } (w.setCell ⟨q8,0,none⟩ (.slice A' (n - 1) (cap - 1))) ρ V U A' (n - 1) (cap - 1):=⟨e.kc.free e.r8 _,e.mv,e.mt.free e.r8 _,e.chg.fresh h.l8 _,e.q.set 0 _,hwd,e.r1,e.r4,e.r8,e.ri⟩
 exact⟨rfl,{ h with
  ex:=⟨ρ,V,U,A',n - 1,cap - 1,e2⟩
  b1:=(hcb p1 h.n1).trans h.b1
  b4:=(hcb p4 h.n4).trans h.b4
  ib:=(hcb it h.ni).trans h.ib },A',rfl,e2⟩
theorem InS.next {w0:World} {ρ0:Nat→Nat} {B kb xb p1 p4 q8 it:Nat} {fs:ByteArray} {pos:Nat} {m:AsM} {x:AsI} {w:World} {s:ByteArray} {r:List ByteArray} (h:InS w0 ρ0 B kb xb p1 p4 q8 it fs pos m x w) (hr:x.rest=s::r):
  Calls Tryz.prog 131 #[.pointer (some ⟨p1,0,none⟩), .pointer (some ⟨q8,0,none⟩)] w fun e w'=>e= .returned (.string s)∧InS w0 ρ0 B kb xb p1 p4 q8 it fs pos m { x with rest:=r } w':=by
 obtain⟨ρ,V,U,A,n,cap,e⟩:=h.ex
 exact(h.next' e hr).mono fun e' w' hq=> ⟨hq.1,hq.2.1⟩
theorem InS.put {w0:World} {ρ0:Nat→Nat} {B kb xb p1 p4 q8 it:Nat} {fs:ByteArray} {pos:Nat} {m:AsM} {x:AsI} {w:World} (h:InS w0 ρ0 B kb xb p1 p4 q8 it fs pos m x w) (n y0:Int) (hl:x.code.length≤999000) (hn: -9223372036854775808≤n∧n≤9223372036854775807) (hy:y0=0∨y0=1):
  Calls Tryz.prog 132 #[.int .i64 n, .int .i64 (y0+1), .pointer (some ⟨p4,0,none⟩)] w fun e w'=>e= .returned (.tuple #[])∧InS w0 ρ0 B kb xb p1 p4 q8 it fs pos m { x with code:=x.code++tailB n y0 } w':=by
 obtain⟨ρ,V,U,A,cn,cap,e⟩:=h.ex
 refine(put_any p4 xb ρ B (mAt m x) U n y0 w (h.b4.cell 0 rfl) e.r4 e.mt e.kc.low e.kc.hB hl hn hy).mono ?_
 rintro e' w' ⟨rfl,ρ',cv',hm,hg,hl'⟩
 refine⟨rfl,h.step e hg (by decide) (by decide) (e.kc.keep hg hl' (by intro c h1 h2 hm;simp at hm;omega)) rfl hm rfl⟩
theorem InS.put1 {w0:World} {ρ0:Nat→Nat} {B kb xb p1 p4 q8 it:Nat} {fs:ByteArray} {pos:Nat} {m:AsM} {x:AsI} {w:World} (h:InS w0 ρ0 B kb xb p1 p4 q8 it fs pos m x w) (n:Int) (hl:x.code.length≤999000) (hn: -9223372036854775808≤n∧n≤9223372036854775807):
  Calls Tryz.prog 132 #[.int .i64 n, .int .i64 1, .pointer (some ⟨p4,0,none⟩)] w fun e w'=>e= .returned (.tuple #[])∧InS w0 ρ0 B kb xb p1 p4 q8 it fs pos m { x with code:=x.code++ [aByte n] } w':=h.put n 0 hl hn (.inl rfl)
theorem InS.put2 {w0:World} {ρ0:Nat→Nat} {B kb xb p1 p4 q8 it:Nat} {fs:ByteArray} {pos:Nat} {m:AsM} {x:AsI} {w:World} (h:InS w0 ρ0 B kb xb p1 p4 q8 it fs pos m x w) (n:Int) (hl:x.code.length≤999000) (hn: -9223372036854775808≤n∧n≤9223372036854775807):
  Calls Tryz.prog 132 #[.int .i64 n, .int .i64 2, .pointer (some ⟨p4,0,none⟩)] w fun e w'=>e= .returned (.tuple #[])∧InS w0 ρ0 B kb xb p1 p4 q8 it fs pos m { x with code:=x.code++aBe2 n } w':=h.put n 1 hl hn (.inr rfl)
theorem InS.digits {w0:World} {ρ0:Nat→Nat} {B kb xb p1 p4 q8 it:Nat} {fs:ByteArray} {pos:Nat} {m:AsM} {x:AsI} {w:World} (h:InS w0 ρ0 B kb xb p1 p4 q8 it fs pos m x w) (s:ByteArray) (lo hi:Int) (hz:s.size≤65536) (h64: -9223372036854775808≤lo∧hi≤9223372036854775807):
  Calls Tryz.prog 53 #[.pointer (some ⟨kb,0,none⟩), .string s, .int .i64 lo, .int .i64 hi] w fun e w'=> (∃v,aDigits s.data.toList lo hi=some v∧e= .returned (.int .i64 v)∧InS w0 ρ0 B kb xb p1 p4 q8 it fs pos m x w')∨(aDigits s.data.toList lo hi=none∧e= .panicked [{ v:=stopA x.k.line 60,recovered:=false }]∧InS w0 ρ0 B kb xb p1 p4 q8 it fs pos m x w'):=by
 obtain⟨ρ,V,U,A,cn,cap,e⟩:=h.ex
 refine(adigits_any kb _ x.k.line s lo hi w e.kc.box rfl hz h64).mono ?_
 intro e' w' hd
 cases hp:aDigits s.data.toList lo hi with
 |none=>
  rw [hp] at hd
  exact .inr ⟨rfl,hd.2,h.below hd.1⟩
 |some v=>
  rw [hp] at hd
  exact .inl ⟨v,rfl,hd.2,h.below hd.1⟩
theorem InS.ofN {w0:World} {ρ0:Nat→Nat} {B kb xb p1 p4 q8 it:Nat} {fs:ByteArray} {pos:Nat} {m:AsM} {x:AsI} {w w':World} {r:Nat×AsK} {e':Ending} {ρ:Nat→Nat} {V:MkV} {U:MtV} {A:Option Addr} {n cap:Nat} (h:InS w0 ρ0 B kb xb p1 p4 q8 it fs pos m x w) (e:InE w0 ρ0 B kb xb p1 p4 q8 it m x w ρ V U A n cap) (hq:NPost w ρ B kb V r e' w'):
  e'= .returned (.int .i64 r.1)∧InS w0 ρ0 B kb xb p1 p4 q8 it fs pos m { x with k:=r.2 } w':=by
 obtain⟨rfl,ρ',pv',hm,hg⟩:=hq
 exact⟨rfl,h.step e hg (by decide) (by decide) hm rfl (e.mt.keep hg (by intro c h1 h2 hm;simp at hm;omega)) rfl⟩
theorem InS.number {w0:World} {ρ0:Nat→Nat} {B kb xb p1 p4 q8 it:Nat} {fs:ByteArray} {pos:Nat} {m:AsM} {x:AsI} {w:World} (h:InS w0 ρ0 B kb xb p1 p4 q8 it fs pos m x w) (n:Int) (hn: -2147483648≤n∧n≤2147483647) (hl:x.k.c.pool.length≤999000):
  Calls Tryz.prog 133 #[.pointer (some ⟨kb,0,none⟩), .int .i64 n] w fun e w'=>e= .returned (.int .i64 (x.k.number n).1)∧InS w0 ρ0 B kb xb p1 p4 q8 it fs pos m { x with k:=(x.k.number n).2 } w':=by
 obtain⟨ρ,V,U,A,cn,cap,e⟩:=h.ex
 exact(anumber_any ρ B kb x.k V n w e.kc hn (by omega)).mono fun e' w' hq=>h.ofN e hq
theorem InS.cls {w0:World} {ρ0:Nat→Nat} {B kb xb p1 p4 q8 it:Nat} {fs:ByteArray} {pos:Nat} {m:AsM} {x:AsI} {w:World} (h:InS w0 ρ0 B kb xb p1 p4 q8 it fs pos m x w) (s:ByteArray) (hs:s.size≤65536) (hl:x.k.c.pool.length≤999000):
  Calls Tryz.prog 56 #[.pointer (some ⟨kb,0,none⟩), .string s] w fun e w'=>e= .returned (.int .i64 (x.k.cls s).1)∧InS w0 ρ0 B kb xb p1 p4 q8 it fs pos m { x with k:=(x.k.cls s).2 } w':=by
 obtain⟨ρ,V,U,A,cn,cap,e⟩:=h.ex
 exact(acls_any ρ B kb x.k V s w e.kc hs (by omega)).mono fun e' w' hq=>h.ofN e hq
theorem InS.member {w0:World} {ρ0:Nat→Nat} {B kb xb p1 p4 q8 it:Nat} {fs:ByteArray} {pos:Nat} {m:AsM} {x:AsI} {w:World} (h:InS w0 ρ0 B kb xb p1 p4 q8 it fs pos m x w) (tag:Int) (c n d:ByteArray) (ht:TagOk tag) (hc:c.size≤65536) (hn:n.size≤65536) (hd:d.size≤65536) (hl:x.k.c.pool.length≤999000):
  Calls Tryz.prog 134 #[.pointer (some ⟨kb,0,none⟩), .int .i64 tag, .string c, .string n, .string d] w fun e w'=>e= .returned (.int .i64 (x.k.member tag c n d).1)∧InS w0 ρ0 B kb xb p1 p4 q8 it fs pos m { x with k:=(x.k.member tag c n d).2 } w':=by
 obtain⟨ρ,V,U,A,cn,cap,e⟩:=h.ex
 exact(amember_any ρ B kb x.k V tag c n d w e.kc ht hc hn hd hl).mono fun e' w' hq=>h.ofN e hq
theorem InS.mustY {w0:World} {ρ0:Nat→Nat} {B kb xb p1 p4 q8 it:Nat} {fs:ByteArray} {pos:Nat} {m:AsM} {x:AsI} {w:World} (h:InS w0 ρ0 B kb xb p1 p4 q8 it fs pos m x w):
  Calls Tryz.prog 26 #[.pointer (some ⟨kb,0,none⟩), .bool true] w fun e w'=>e= .returned (.tuple #[])∧w'=w:=by
 obtain⟨ρ,V,U,A,cn,cap,e⟩:=h.ex
 exact must_yes kb _ x.k.line w e.kc.box rfl
theorem InS.mustN {w0:World} {ρ0:Nat→Nat} {B kb xb p1 p4 q8 it:Nat} {fs:ByteArray} {pos:Nat} {m:AsM} {x:AsI} {w:World} (h:InS w0 ρ0 B kb xb p1 p4 q8 it fs pos m x w):
  Calls Tryz.prog 26 #[.pointer (some ⟨kb,0,none⟩), .bool false] w fun e w'=>e= .panicked [{ v:=stopA x.k.line 60,recovered:=false }]∧w'=w:=by
 obtain⟨ρ,V,U,A,cn,cap,e⟩:=h.ex
 exact must_no kb _ x.k.line w e.kc.box rfl
theorem instr_neg {σ:AsK} {m:AsM} {ws:List ByteArray} (hc:codeOf (ws.headD ⟨#[]⟩).data.toList<0):σ.instr m ws=none:=by
 unfold AsK.instr
 simp only
 rw [if_pos hc]
theorem instr_len {σ:AsK} {m:AsM} {ws:List ByteArray} {c:Int} {f:List UInt8} (h0:codeOf (ws.headD ⟨#[]⟩).data.toList=c) (hf:(rowOf c).2=f) (hl:ws.length - 1≠aWant f):σ.instr m ws=none:=by
 unfold AsK.instr
 simp only [h0,hf]
 by_cases hc:c<0
 ·rw [if_pos hc]
 ·rw [if_neg hc,if_pos hl]
theorem instr_go {σ:AsK} {m:AsM} {ws:List ByteArray} {c:Int} {nm f:List UInt8} (h0:codeOf (ws.headD ⟨#[]⟩).data.toList=c) (hc:0≤c) (hn:(rowOf c).1=nm) (hf:(rowOf c).2=f) (hl:ws.length - 1=aWant f):
  σ.instr m ws=(aOpers nm m.mv.code.length f ⟨σ,m.mv.code++ [aByte c],m.jumps,ws.drop 1⟩).map fun x=> { x.k with m:=some (mAt m x) }:=by
 unfold AsK.instr
 simp only [h0,hf,hn]
 rw [if_neg (by omega),if_neg (by omega)]
 rfl
theorem oper_b {nm:List UInt8} {bg:Nat} {x:AsI} {s:ByteArray} {r:List ByteArray} (hr:x.rest=s::r):aOper nm bg x 98=(aDigits s.data.toList (-128) 127).map fun v=> { x with rest:=r,code:=x.code++ [aByte v] }:=by
 unfold aOper
 simp [hr]
theorem oper_u {nm:List UInt8} {bg:Nat} {x:AsI} {s:ByteArray} {r:List ByteArray} (hr:x.rest=s::r) (hn:nm≠ [108,100,99]):aOper nm bg x 117=(aDigits s.data.toList 0 255).map fun v=> { x with rest:=r,code:=x.code++ [aByte v] }:=by
 unfold aOper
 simp [hr,hn]
theorem oper_s {nm:List UInt8} {bg:Nat} {x:AsI} {s:ByteArray} {r:List ByteArray} (hr:x.rest=s::r):aOper nm bg x 115=(aDigits s.data.toList (-32768) 32767).map fun v=> { x with rest:=r,code:=x.code++aBe2 v }:=by
 unfold aOper
 simp [hr]
theorem oper_ldc {nm:List UInt8} {bg:Nat} {x:AsI} {s:ByteArray} {r:List ByteArray} (hr:x.rest=s::r) (hn:nm= [108,100,99]):aOper nm bg x 117=(aDigits s.data.toList (-2147483648) 2147483647).bind fun v=>if(x.k.number v).1<256 then some { x with rest:=r,k:=(x.k.number v).2,code:=x.code++ [aByte (x.k.number v).1] } else none:=by
 unfold aOper
 simp only [hr,hn]
 cases h:aDigits s.data.toList (-2147483648) 2147483647 with
 |none=>simp [h]
 |some v=>simp [h]
theorem oper_j {nm:List UInt8} {bg:Nat} {x:AsI} {s:ByteArray} {r:List ByteArray} (hr:x.rest=s::r):aOper nm bg x 106=some { x with rest:=r,jumps:=x.jumps++ [⟨x.code.length,bg,s⟩],code:=x.code++ [0,0] }:=by
 unfold aOper
 simp [hr]
theorem oper_c {nm:List UInt8} {bg:Nat} {x:AsI} {s:ByteArray} {r:List ByteArray} (hr:x.rest=s::r):aOper nm bg x 99=some { x with rest:=r,k:=(x.k.cls s).2,code:=x.code++aBe2 (x.k.cls s).1 }:=by
 unfold aOper
 simp [hr]
theorem oper_f {nm:List UInt8} {bg:Nat} {x:AsI} {s t u:ByteArray} {r:List ByteArray} (hr:x.rest=s::t::u::r):aOper nm bg x 102=some { x with rest:=r,k:=(x.k.member 9 s t u).2,code:=x.code++aBe2 (x.k.member 9 s t u).1 }:=by
 unfold aOper
 simp [hr]
theorem oper_m {nm:List UInt8} {bg:Nat} {x:AsI} {s t u:ByteArray} {r:List ByteArray} (hr:x.rest=s::t::u::r):aOper nm bg x 109=some { x with rest:=r,k:=(x.k.member 10 s t u).2,code:=x.code++aBe2 (x.k.member 10 s t u).1 }:=by
 unfold aOper
 simp [hr]
theorem oper_i {nm:List UInt8} {bg:Nat} {x:AsI} {s t u:ByteArray} {r:List ByteArray} (hr:x.rest=s::t::u::r):aOper nm bg x 105=some { x with rest:=r,k:=(x.k.member 11 s t u).2,code:=x.code++aBe2 (x.k.member 11 s t u).1++ [aByte ((kindsV u).1.size+1),0] }:=by
 unfold aOper
 simp [hr]
def MapL (w:World) (P:Program) (k:TypeId) (b n:Nat) (f:Int→Option Value):Prop:= ∃D:DataW Value,w.ownsMap P k tokR b n D∧ ∀c z,D.atKey (.int .i32 c) z=((f c).map DataW.held).getD z
theorem mapL_made (w:World) (P:Program) (k:TypeId):MapL (w.alloc (.map #[] 0)) P k w.heap.size 0 (fun _=>none):=⟨.map [],World.ownsMap_made _ _ _ _,fun _ _=>rfl⟩
theorem wpli_ins {P:Program} {w:World} {ops:Array Oper} {rest:List Oper} {o:Oper} {a:Act} {Q:Exit→Act→World→Prop} {k e t:TypeId} {b n:Nat} {f:Int→Option Value} (hg:o.guard=none) (m x v:Operand) (hop:o.op=Op.insert t m x v) (hk:P.underlying k=some (.int .i32)) (ht:P.underlying t=some (.map k e))
  (hm:a.eval m= .map (some b)) (h:MapL w P k b n f) (hn:n<maxLen) {c:Int} (hx:a.eval x= .int .i32 c) (hc:(Lit.int .i32 c).wf=true) {u:Value} (hv:a.eval v=u)
  (hK: ∀w',MapL w' P k b (n+1) (fun s=>if s=c then some u else f s)→w.grownBy w' (some b)→wpList P ops Q rest (a.put o.dst undef) w'):wpList P ops Q (o::rest) a w:=by
 obtain⟨D,hown,hat⟩:=h
 have ht':=hown.tidy (int_keyed hk)
 obtain⟨w',hrun,hw,hgr⟩:=hown.update (int_keyed hk) ht hn (keyOf_int_mk hk hc) (val:=u) (d:= .held u) (ps:= []) rfl
 refine wpList_plain hg fun K' hK'=> ?_
 unfold Oper.wp
 simp [execOp,hop,hm,hx,hv,hrun,Result.andThen]
 refine hK' _ _ (hK w' ⟨_,hw,fun s z=> ?_⟩ hgr)
 show _=((if s=c then some u else f s).map DataW.held).getD z
 by_cases hs:s=c
 ·subst hs
  rw [atKey_put_same ht'.isMap (by simp [WideAt.IsKeyLit]),if_pos rfl]
  rfl
 ·rw [atKey_put_other (fun e=>hs (by injection e)),if_neg hs,hat]
theorem wpli_get {P:Program} {w:World} {ops:Array Oper} {rest:List Oper} {o:Oper} {a:Act} {Q:Exit→Act→World→Prop} {k e t:TypeId} {b n:Nat} {f:Int→Option Value} (hg:o.guard=none) (m x:Operand) (hop:o.op=Op.lookup t m x false) (hk:P.underlying k=some (.int .i32)) (ht:P.underlying t=some (.map k e)) {z:Value} (hz:(zeroValue e).run P w= .ok z w)
  (hm:a.eval m= .map (some b)) (h:MapL w P k b n f) {c:Int} (hx:a.eval x= .int .i32 c) (hc:(Lit.int .i32 c).wf=true)
  (hK:wpList P ops Q rest (a.put o.dst ((f c).getD z)) w):wpList P ops Q (o::rest) a w:=by
 obtain⟨D,hown,hat⟩:=h
 obtain⟨v,ps,hrun,hv⟩:=hown.lookup (int_keyed hk) ht hz (R:=tokR) rfl (keyOf_int_mk hk hc)
 rw [hat] at hv
 refine wpList_plain hg fun K' hK'=> ?_
 unfold Oper.wp
 simp [execOp,hop,hm,hx,hrun,Result.andThen]
 rw [held_of hv]
 exact hK' _ _ hK
theorem codeOf_range (s:List UInt8): -1≤codeOf s∧codeOf s<256:=by
 unfold codeOf
 split
 ·rename_i r hr
  have:=codeOf_names r (List.mem_of_find?_eq_some hr)
  omega
 ·omega
theorem WdA.rest1 {w:World} {ok:Nat→Prop} {A:Option Addr} {b off n cap:Nat} {ws:List ByteArray} (h:WdA w ok A n cap ws) (hA:A=some ⟨b,off,none⟩) (hc:1<cap):WdA w ok (some ⟨b,off+1,none⟩) (n - 1) (cap - 1) (ws.drop 1):=by
 subst hA
 have hl:=h.len
 have hle:=h.le
 have hmx:=h.max
 refine⟨by simp;omega,by omega,by omega,fun h0=> ?_⟩
 obtain⟨b',off',e,hb,hu,hcc⟩:=h.hat (by omega)
 cases e
 refine⟨b,off+1,rfl,hb,hu,fun j s hs=> ?_⟩
 have:=hcc (j+1) s (by simpa [Nat.add_comm] using hs)
 rw [←this]
 congr 2
 omega
theorem WdA.rest0 {w:World} {ok:Nat→Prop} {A:Option Addr} {n cap:Nat} {ws:List ByteArray} (h:WdA w ok A n cap ws) (A':Option Addr) (hc:cap≤1):WdA w ok A' 0 0 (ws.drop 1):=by
 have hl:=h.len
 have hle:=h.le
 exact⟨by simp;omega,by omega,by omega,fun h0=>absurd h0 (by omega)⟩
theorem aBe2_zero:aBe2 0= [0,0]:=by decide
theorem aByte_zero:aByte 0=0:=by decide
theorem InS.start {w W:World} {ρ:Nat→Nat} {B kb xb p1 p4 q8 it:Nat} {fs:ByteArray} {σ:AsK} {V:MkV} {m:AsM} {U:MtV} {A:Option Addr} {n cap:Nat} {ws:List ByteArray} (hk:MkC w ρ B kb σ V) (hV:V.mv= .pointer (some ⟨xb,0,none⟩)) (hm:MtC w ρ B xb m U) (hb:Below w.heap.size w W) (hw:WdA w (Un ρ) A n cap ws)
  (b1:Bx W p1 [.pointer (some ⟨kb,0,none⟩)] 63) (b4:Bx W p4 [.pointer (some ⟨xb,0,none⟩)] 65) (q:Bx W q8 [.slice A n cap] 43) (ib:W.heap[it]?=some (.stringIter fs 0)) (l1:w.heap.size≤p1) (l4:w.heap.size≤p4) (l8:w.heap.size≤q8) (li:w.heap.size≤it) (n1:p1≠q8) (n4:p4≠q8) (ni:it≠q8) (i1:it≠p1) (i4:it≠p4):
  InS w ρ B kb xb p1 p4 q8 it fs 0 m ⟨σ,m.mv.code,m.jumps,ws⟩ W where
 ex:=⟨ρ,V,U,A,n,cap,⟨hk.below hb,hV,hm.below hb,Chg.of_below hb,q,⟨hw.len,hw.le,hw.max,fun h0=>by
  obtain⟨b,off,e,hbl,hu,hc⟩:=hw.hat h0
  exact⟨b,off,e,Nat.lt_of_lt_of_le hbl hb.size,⟨hu,hbl⟩,fun j s hs=> (hb.cell (p:=⟨b,off+j,none⟩) hbl).trans (hc j s hs)⟩⟩,hk.low.fresh l1,hk.low.fresh l4,hk.low.fresh l8,hk.low.fresh li⟩⟩
 b1:=b1
 b4:=b4
 ib:=ib
 l1:=l1
 l4:=l4
 l8:=l8
 li:=li
 n1:=n1
 n4:=n4
 ni:=ni
 i1:=i1
 i4:=i4
 low:=hk.low
 hB:=hk.hB
end Go.Proofs.YtlcidkiplidamaaGreatDoor
