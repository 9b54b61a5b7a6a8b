/-
  What the laws rest on, part 23: walks of the program's functions and plain laws. Conditions: none but those that each theorem names.
-/
import Derived.Test.YtlcidkiplidamaaGreatDoorB00
import Derived.Test.YtlcidkiplidamaaGreatDoorB22
import Derived.Lib.Hide
import Derived.Deep.QuietTactic
import Derived.BigQuiet
import Derived.Deep.RegionHeld2
import Derived.RegionTactic
set_option maxRecDepth 100000
set_option maxHeartbeats 4000000
set_option linter.unusedSimpArgs false
set_option linter.unusedVariables false
namespace Go.Proofs.YtlcidkiplidamaaGreatDoor
open Go Go.RowKit
theorem idxa1 (w:World) (k:IntKind) (cs:Array Value) (x:Int) (h0:0≤x) (hx:x< (7:Nat)) (hs:cs.size=7):(Instr.index 140 (.agg cs) (.int k x)).run Tryz.prog w= .ok (cs.getD x.toNat undef) w:=
 bqT (n:=7) Tryz.underlying140 Tryz.underlying9 rfl aqR w k cs x h0 hx hs
theorem idxb1 (w:World) (k:IntKind) (cs:Array Value) (x:Int) (h0:0≤x) (hx:x< (15:Nat)) (hs:cs.size=15):(Instr.index 141 (.agg cs) (.int k x)).run Tryz.prog w= .ok (cs.getD x.toNat undef) w:=
 bqT (n:=15) Tryz.underlying141 Tryz.underlying9 rfl aqR w k cs x h0 hx hs
attribute [local go_sem] idxa1 idxb1
theorem oqB (w:World):Calls Tryz.prog 33 #[.int .i64 1] w fun e w'=>e= .returned (.agg #[.string ⟨(aqc 1).1.toArray⟩, .string ⟨(aqc 1).2.toArray⟩])∧Below w.heap.size w w':=by
 rw [oqd]
 go_enter Tryz.func33,Tryz.ntmps33
 go_wp2
 refine bodyPost_ret (v:= .agg #[.string ⟨#[97,99,111,110,115,116,95,110,117,108,108]⟩, .string ⟨#[]⟩]) ?_ rfl ⟨rfl, ?_⟩
 ·simp [results,Tryz.results33,go_sem] <;>rfl
 repeat' (first|exact Below.refl _ _|refine Below.drew ?_|refine Below.alloc ?_ ?_ _|refine Below.setCell ?_ ?_ _| (simp;done) | (simp;omega))
theorem oqC (w:World):Calls Tryz.prog 33 #[.int .i64 4] w fun e w'=>e= .returned (.agg #[.string ⟨(aqc 4).1.toArray⟩, .string ⟨(aqc 4).2.toArray⟩])∧Below w.heap.size w w':=by
 rw [oqg]
 go_enter Tryz.func33,Tryz.ntmps33
 go_wp2
 refine bodyPost_ret (v:= .agg #[.string ⟨#[105,99,111,110,115,116,95,49]⟩, .string ⟨#[]⟩]) ?_ rfl ⟨rfl, ?_⟩
 ·simp [results,Tryz.results33,go_sem] <;>rfl
 repeat' (first|exact Below.refl _ _|refine Below.drew ?_|refine Below.alloc ?_ ?_ _|refine Below.setCell ?_ ?_ _| (simp;done) | (simp;omega))
theorem oqD (w:World):Calls Tryz.prog 33 #[.int .i64 7] w fun e w'=>e= .returned (.agg #[.string ⟨(aqc 7).1.toArray⟩, .string ⟨(aqc 7).2.toArray⟩])∧Below w.heap.size w w':=by
 rw [oqj]
 go_enter Tryz.func33,Tryz.ntmps33
 go_wp2
 refine bodyPost_ret (v:= .agg #[.string ⟨#[105,99,111,110,115,116,95,52]⟩, .string ⟨#[]⟩]) ?_ rfl ⟨rfl, ?_⟩
 ·simp [results,Tryz.results33,go_sem] <;>rfl
 repeat' (first|exact Below.refl _ _|refine Below.drew ?_|refine Below.alloc ?_ ?_ _|refine Below.setCell ?_ ?_ _| (simp;done) | (simp;omega))
theorem nqi (w:World):Calls Tryz.prog 33 #[.int .i64 17] w fun e w'=>e= .returned (.agg #[.string ⟨(aqc 17).1.toArray⟩, .string ⟨(aqc 17).2.toArray⟩])∧Below w.heap.size w w':=by
 rw [lq8]
 go_enter Tryz.func33,Tryz.ntmps33
 go_wp2
 refine bodyPost_ret (v:= .agg #[.string ⟨#[115,105,112,117,115,104]⟩, .string ⟨#[115]⟩]) ?_ rfl ⟨rfl, ?_⟩
 ·simp [results,Tryz.results33,go_sem] <;>rfl
 repeat' (first|exact Below.refl _ _|refine Below.drew ?_|refine Below.alloc ?_ ?_ _|refine Below.setCell ?_ ?_ _| (simp;done) | (simp;omega))
theorem nqj (w:World):Calls Tryz.prog 33 #[.int .i64 25] w fun e w'=>e= .returned (.agg #[.string ⟨(aqc 25).1.toArray⟩, .string ⟨(aqc 25).2.toArray⟩])∧Below w.heap.size w w':=by
 rw [mqb]
 go_enter Tryz.func33,Tryz.ntmps33
 go_wp2
 refine bodyPost_ret (v:= .agg #[.string ⟨#[97,108,111,97,100]⟩, .string ⟨#[117]⟩]) ?_ rfl ⟨rfl, ?_⟩
 ·simp [results,Tryz.results33,go_sem] <;>rfl
 repeat' (first|exact Below.refl _ _|refine Below.drew ?_|refine Below.alloc ?_ ?_ _|refine Below.setCell ?_ ?_ _| (simp;done) | (simp;omega))
theorem nqk (w:World):Calls Tryz.prog 33 #[.int .i64 28] w fun e w'=>e= .returned (.agg #[.string ⟨(aqc 28).1.toArray⟩, .string ⟨(aqc 28).2.toArray⟩])∧Below w.heap.size w w':=by
 rw [mqe]
 go_enter Tryz.func33,Tryz.ntmps33
 go_wp2
 refine bodyPost_ret (v:= .agg #[.string ⟨#[105,108,111,97,100,95,50]⟩, .string ⟨#[]⟩]) ?_ rfl ⟨rfl, ?_⟩
 ·simp [results,Tryz.results33,go_sem] <;>rfl
 repeat' (first|exact Below.refl _ _|refine Below.drew ?_|refine Below.alloc ?_ ?_ _|refine Below.setCell ?_ ?_ _| (simp;done) | (simp;omega))
theorem nql (w:World):Calls Tryz.prog 33 #[.int .i64 43] w fun e w'=>e= .returned (.agg #[.string ⟨(aqc 43).1.toArray⟩, .string ⟨(aqc 43).2.toArray⟩])∧Below w.heap.size w w':=by
 rw [mqh]
 go_enter Tryz.func33,Tryz.ntmps33
 go_wp2
 refine bodyPost_ret (v:= .agg #[.string ⟨#[97,108,111,97,100,95,49]⟩, .string ⟨#[]⟩]) ?_ rfl ⟨rfl, ?_⟩
 ·simp [results,Tryz.results33,go_sem] <;>rfl
 repeat' (first|exact Below.refl _ _|refine Below.drew ?_|refine Below.alloc ?_ ?_ _|refine Below.setCell ?_ ?_ _| (simp;done) | (simp;omega))
theorem nqm (w:World):Calls Tryz.prog 33 #[.int .i64 54] w fun e w'=>e= .returned (.agg #[.string ⟨(aqc 54).1.toArray⟩, .string ⟨(aqc 54).2.toArray⟩])∧Below w.heap.size w w':=by
 rw [mqk]
 go_enter Tryz.func33,Tryz.ntmps33
 go_wp2
 refine bodyPost_ret (v:= .agg #[.string ⟨#[105,115,116,111,114,101]⟩, .string ⟨#[117]⟩]) ?_ rfl ⟨rfl, ?_⟩
 ·simp [results,Tryz.results33,go_sem] <;>rfl
 repeat' (first|exact Below.refl _ _|refine Below.drew ?_|refine Below.alloc ?_ ?_ _|refine Below.setCell ?_ ?_ _| (simp;done) | (simp;omega))
theorem nqn (w:World):Calls Tryz.prog 33 #[.int .i64 60] w fun e w'=>e= .returned (.agg #[.string ⟨(aqc 60).1.toArray⟩, .string ⟨(aqc 60).2.toArray⟩])∧Below w.heap.size w w':=by
 rw [mqn]
 go_enter Tryz.func33,Tryz.ntmps33
 go_wp2
 refine bodyPost_ret (v:= .agg #[.string ⟨#[105,115,116,111,114,101,95,49]⟩, .string ⟨#[]⟩]) ?_ rfl ⟨rfl, ?_⟩
 ·simp [results,Tryz.results33,go_sem] <;>rfl
 repeat' (first|exact Below.refl _ _|refine Below.drew ?_|refine Below.alloc ?_ ?_ _|refine Below.setCell ?_ ?_ _| (simp;done) | (simp;omega))
theorem nqo (w:World):Calls Tryz.prog 33 #[.int .i64 75] w fun e w'=>e= .returned (.agg #[.string ⟨(aqc 75).1.toArray⟩, .string ⟨(aqc 75).2.toArray⟩])∧Below w.heap.size w w':=by
 rw [mqq]
 go_enter Tryz.func33,Tryz.ntmps33
 go_wp2
 refine bodyPost_ret (v:= .agg #[.string ⟨#[97,115,116,111,114,101,95,48]⟩, .string ⟨#[]⟩]) ?_ rfl ⟨rfl, ?_⟩
 ·simp [results,Tryz.results33,go_sem] <;>rfl
 repeat' (first|exact Below.refl _ _|refine Below.drew ?_|refine Below.alloc ?_ ?_ _|refine Below.setCell ?_ ?_ _| (simp;done) | (simp;omega))
theorem nqp (w:World):Calls Tryz.prog 33 #[.int .i64 78] w fun e w'=>e= .returned (.agg #[.string ⟨(aqc 78).1.toArray⟩, .string ⟨(aqc 78).2.toArray⟩])∧Below w.heap.size w w':=by
 rw [mqt]
 go_enter Tryz.func33,Tryz.ntmps33
 go_wp2
 refine bodyPost_ret (v:= .agg #[.string ⟨#[97,115,116,111,114,101,95,51]⟩, .string ⟨#[]⟩]) ?_ rfl ⟨rfl, ?_⟩
 ·simp [results,Tryz.results33,go_sem] <;>rfl
 repeat' (first|exact Below.refl _ _|refine Below.drew ?_|refine Below.alloc ?_ ?_ _|refine Below.setCell ?_ ?_ _| (simp;done) | (simp;omega))
theorem lqr (w:World):Calls Tryz.prog 33 #[.int .i64 155] w fun e w'=>e= .returned (.agg #[.string ⟨(aqc 155).1.toArray⟩, .string ⟨(aqc 155).2.toArray⟩])∧Below w.heap.size w w':=by
 rw [kqk]
 go_enter Tryz.func33,Tryz.ntmps33
 go_wp2
 refine bodyPost_ret (v:= .agg #[.string ⟨#[105,102,108,116]⟩, .string ⟨#[106]⟩]) ?_ rfl ⟨rfl, ?_⟩
 ·simp [results,Tryz.results33,go_sem] <;>rfl
 repeat' (first|exact Below.refl _ _|refine Below.drew ?_|refine Below.alloc ?_ ?_ _|refine Below.setCell ?_ ?_ _| (simp;done) | (simp;omega))
theorem lqs (w:World):Calls Tryz.prog 33 #[.int .i64 158] w fun e w'=>e= .returned (.agg #[.string ⟨(aqc 158).1.toArray⟩, .string ⟨(aqc 158).2.toArray⟩])∧Below w.heap.size w w':=by
 rw [kqn]
 go_enter Tryz.func33,Tryz.ntmps33
 go_wp2
 refine bodyPost_ret (v:= .agg #[.string ⟨#[105,102,108,101]⟩, .string ⟨#[106]⟩]) ?_ rfl ⟨rfl, ?_⟩
 ·simp [results,Tryz.results33,go_sem] <;>rfl
 repeat' (first|exact Below.refl _ _|refine Below.drew ?_|refine Below.alloc ?_ ?_ _|refine Below.setCell ?_ ?_ _| (simp;done) | (simp;omega))
theorem lqt (w:World):Calls Tryz.prog 33 #[.int .i64 161] w fun e w'=>e= .returned (.agg #[.string ⟨(aqc 161).1.toArray⟩, .string ⟨(aqc 161).2.toArray⟩])∧Below w.heap.size w w':=by
 rw [kqq]
 go_enter Tryz.func33,Tryz.ntmps33
 go_wp2
 refine bodyPost_ret (v:= .agg #[.string ⟨#[105,102,95,105,99,109,112,108,116]⟩, .string ⟨#[106]⟩]) ?_ rfl ⟨rfl, ?_⟩
 ·simp [results,Tryz.results33,go_sem] <;>rfl
 repeat' (first|exact Below.refl _ _|refine Below.drew ?_|refine Below.alloc ?_ ?_ _|refine Below.setCell ?_ ?_ _| (simp;done) | (simp;omega))
theorem lqu (w:World):Calls Tryz.prog 33 #[.int .i64 164] w fun e w'=>e= .returned (.agg #[.string ⟨(aqc 164).1.toArray⟩, .string ⟨(aqc 164).2.toArray⟩])∧Below w.heap.size w w':=by
 rw [kqt]
 go_enter Tryz.func33,Tryz.ntmps33
 go_wp2
 refine bodyPost_ret (v:= .agg #[.string ⟨#[105,102,95,105,99,109,112,108,101]⟩, .string ⟨#[106]⟩]) ?_ rfl ⟨rfl, ?_⟩
 ·simp [results,Tryz.results33,go_sem] <;>rfl
 repeat' (first|exact Below.refl _ _|refine Below.drew ?_|refine Below.alloc ?_ ?_ _|refine Below.setCell ?_ ?_ _| (simp;done) | (simp;omega))
theorem lqv (w:World):Calls Tryz.prog 33 #[.int .i64 167] w fun e w'=>e= .returned (.agg #[.string ⟨(aqc 167).1.toArray⟩, .string ⟨(aqc 167).2.toArray⟩])∧Below w.heap.size w w':=by
 rw [kqw]
 go_enter Tryz.func33,Tryz.ntmps33
 go_wp2
 refine bodyPost_ret (v:= .agg #[.string ⟨#[103,111,116,111]⟩, .string ⟨#[106]⟩]) ?_ rfl ⟨rfl, ?_⟩
 ·simp [results,Tryz.results33,go_sem] <;>rfl
 repeat' (first|exact Below.refl _ _|refine Below.drew ?_|refine Below.alloc ?_ ?_ _|refine Below.setCell ?_ ?_ _| (simp;done) | (simp;omega))
theorem idxa2 (w:World) (k:IntKind) (cs:Array Value) (x:Int) (h0:0≤x) (hx:x< (7:Nat)) (hs:cs.size=7):(Instr.index 140 (.agg cs) (.int k x)).run Tryz.prog w= .ok (cs.getD x.toNat undef) w:=
 bqT (n:=7) Tryz.underlying140 Tryz.underlying9 rfl aqR w k cs x h0 hx hs
theorem idxb2 (w:World) (k:IntKind) (cs:Array Value) (x:Int) (h0:0≤x) (hx:x< (15:Nat)) (hs:cs.size=15):(Instr.index 141 (.agg cs) (.int k x)).run Tryz.prog w= .ok (cs.getD x.toNat undef) w:=
 bqT (n:=15) Tryz.underlying141 Tryz.underlying9 rfl aqR w k cs x h0 hx hs
attribute [local go_sem] idxa2 idxb2
theorem oqE (w:World):Calls Tryz.prog 33 #[.int .i64 2] w fun e w'=>e= .returned (.agg #[.string ⟨(aqc 2).1.toArray⟩, .string ⟨(aqc 2).2.toArray⟩])∧Below w.heap.size w w':=by
 rw [oqe]
 go_enter Tryz.func33,Tryz.ntmps33
 go_wp2
 refine bodyPost_ret (v:= .agg #[.string ⟨#[105,99,111,110,115,116,95,109,49]⟩, .string ⟨#[]⟩]) ?_ rfl ⟨rfl, ?_⟩
 ·simp [results,Tryz.results33,go_sem] <;>rfl
 repeat' (first|exact Below.refl _ _|refine Below.drew ?_|refine Below.alloc ?_ ?_ _|refine Below.setCell ?_ ?_ _| (simp;done) | (simp;omega))
theorem oqF (w:World):Calls Tryz.prog 33 #[.int .i64 5] w fun e w'=>e= .returned (.agg #[.string ⟨(aqc 5).1.toArray⟩, .string ⟨(aqc 5).2.toArray⟩])∧Below w.heap.size w w':=by
 rw [oqh]
 go_enter Tryz.func33,Tryz.ntmps33
 go_wp2
 refine bodyPost_ret (v:= .agg #[.string ⟨#[105,99,111,110,115,116,95,50]⟩, .string ⟨#[]⟩]) ?_ rfl ⟨rfl, ?_⟩
 ·simp [results,Tryz.results33,go_sem] <;>rfl
 repeat' (first|exact Below.refl _ _|refine Below.drew ?_|refine Below.alloc ?_ ?_ _|refine Below.setCell ?_ ?_ _| (simp;done) | (simp;omega))
theorem oqG (w:World):Calls Tryz.prog 33 #[.int .i64 8] w fun e w'=>e= .returned (.agg #[.string ⟨(aqc 8).1.toArray⟩, .string ⟨(aqc 8).2.toArray⟩])∧Below w.heap.size w w':=by
 rw [oqk]
 go_enter Tryz.func33,Tryz.ntmps33
 go_wp2
 refine bodyPost_ret (v:= .agg #[.string ⟨#[105,99,111,110,115,116,95,53]⟩, .string ⟨#[]⟩]) ?_ rfl ⟨rfl, ?_⟩
 ·simp [results,Tryz.results33,go_sem] <;>rfl
 repeat' (first|exact Below.refl _ _|refine Below.drew ?_|refine Below.alloc ?_ ?_ _|refine Below.setCell ?_ ?_ _| (simp;done) | (simp;omega))
theorem nqq (w:World):Calls Tryz.prog 33 #[.int .i64 18] w fun e w'=>e= .returned (.agg #[.string ⟨(aqc 18).1.toArray⟩, .string ⟨(aqc 18).2.toArray⟩])∧Below w.heap.size w w':=by
 rw [lq9]
 go_enter Tryz.func33,Tryz.ntmps33
 go_wp2
 refine bodyPost_ret (v:= .agg #[.string ⟨#[108,100,99]⟩, .string ⟨#[117]⟩]) ?_ rfl ⟨rfl, ?_⟩
 ·simp [results,Tryz.results33,go_sem] <;>rfl
 repeat' (first|exact Below.refl _ _|refine Below.drew ?_|refine Below.alloc ?_ ?_ _|refine Below.setCell ?_ ?_ _| (simp;done) | (simp;omega))
theorem nqr (w:World):Calls Tryz.prog 33 #[.int .i64 26] w fun e w'=>e= .returned (.agg #[.string ⟨(aqc 26).1.toArray⟩, .string ⟨(aqc 26).2.toArray⟩])∧Below w.heap.size w w':=by
 rw [mqc]
 go_enter Tryz.func33,Tryz.ntmps33
 go_wp2
 refine bodyPost_ret (v:= .agg #[.string ⟨#[105,108,111,97,100,95,48]⟩, .string ⟨#[]⟩]) ?_ rfl ⟨rfl, ?_⟩
 ·simp [results,Tryz.results33,go_sem] <;>rfl
 repeat' (first|exact Below.refl _ _|refine Below.drew ?_|refine Below.alloc ?_ ?_ _|refine Below.setCell ?_ ?_ _| (simp;done) | (simp;omega))
theorem nqs (w:World):Calls Tryz.prog 33 #[.int .i64 29] w fun e w'=>e= .returned (.agg #[.string ⟨(aqc 29).1.toArray⟩, .string ⟨(aqc 29).2.toArray⟩])∧Below w.heap.size w w':=by
 rw [mqf]
 go_enter Tryz.func33,Tryz.ntmps33
 go_wp2
 refine bodyPost_ret (v:= .agg #[.string ⟨#[105,108,111,97,100,95,51]⟩, .string ⟨#[]⟩]) ?_ rfl ⟨rfl, ?_⟩
 ·simp [results,Tryz.results33,go_sem] <;>rfl
 repeat' (first|exact Below.refl _ _|refine Below.drew ?_|refine Below.alloc ?_ ?_ _|refine Below.setCell ?_ ?_ _| (simp;done) | (simp;omega))
theorem nqt (w:World):Calls Tryz.prog 33 #[.int .i64 44] w fun e w'=>e= .returned (.agg #[.string ⟨(aqc 44).1.toArray⟩, .string ⟨(aqc 44).2.toArray⟩])∧Below w.heap.size w w':=by
 rw [mqi]
 go_enter Tryz.func33,Tryz.ntmps33
 go_wp2
 refine bodyPost_ret (v:= .agg #[.string ⟨#[97,108,111,97,100,95,50]⟩, .string ⟨#[]⟩]) ?_ rfl ⟨rfl, ?_⟩
 ·simp [results,Tryz.results33,go_sem] <;>rfl
 repeat' (first|exact Below.refl _ _|refine Below.drew ?_|refine Below.alloc ?_ ?_ _|refine Below.setCell ?_ ?_ _| (simp;done) | (simp;omega))
theorem nqu (w:World):Calls Tryz.prog 33 #[.int .i64 58] w fun e w'=>e= .returned (.agg #[.string ⟨(aqc 58).1.toArray⟩, .string ⟨(aqc 58).2.toArray⟩])∧Below w.heap.size w w':=by
 rw [mql]
 go_enter Tryz.func33,Tryz.ntmps33
 go_wp2
 refine bodyPost_ret (v:= .agg #[.string ⟨#[97,115,116,111,114,101]⟩, .string ⟨#[117]⟩]) ?_ rfl ⟨rfl, ?_⟩
 ·simp [results,Tryz.results33,go_sem] <;>rfl
 repeat' (first|exact Below.refl _ _|refine Below.drew ?_|refine Below.alloc ?_ ?_ _|refine Below.setCell ?_ ?_ _| (simp;done) | (simp;omega))
theorem nqv (w:World):Calls Tryz.prog 33 #[.int .i64 61] w fun e w'=>e= .returned (.agg #[.string ⟨(aqc 61).1.toArray⟩, .string ⟨(aqc 61).2.toArray⟩])∧Below w.heap.size w w':=by
 rw [mqo]
 go_enter Tryz.func33,Tryz.ntmps33
 go_wp2
 refine bodyPost_ret (v:= .agg #[.string ⟨#[105,115,116,111,114,101,95,50]⟩, .string ⟨#[]⟩]) ?_ rfl ⟨rfl, ?_⟩
 ·simp [results,Tryz.results33,go_sem] <;>rfl
 repeat' (first|exact Below.refl _ _|refine Below.drew ?_|refine Below.alloc ?_ ?_ _|refine Below.setCell ?_ ?_ _| (simp;done) | (simp;omega))
theorem nqw (w:World):Calls Tryz.prog 33 #[.int .i64 76] w fun e w'=>e= .returned (.agg #[.string ⟨(aqc 76).1.toArray⟩, .string ⟨(aqc 76).2.toArray⟩])∧Below w.heap.size w w':=by
 rw [mqr]
 go_enter Tryz.func33,Tryz.ntmps33
 go_wp2
 refine bodyPost_ret (v:= .agg #[.string ⟨#[97,115,116,111,114,101,95,49]⟩, .string ⟨#[]⟩]) ?_ rfl ⟨rfl, ?_⟩
 ·simp [results,Tryz.results33,go_sem] <;>rfl
 repeat' (first|exact Below.refl _ _|refine Below.drew ?_|refine Below.alloc ?_ ?_ _|refine Below.setCell ?_ ?_ _| (simp;done) | (simp;omega))
theorem lqw (w:World):Calls Tryz.prog 33 #[.int .i64 153] w fun e w'=>e= .returned (.agg #[.string ⟨(aqc 153).1.toArray⟩, .string ⟨(aqc 153).2.toArray⟩])∧Below w.heap.size w w':=by
 rw [kqi]
 go_enter Tryz.func33,Tryz.ntmps33
 go_wp2
 refine bodyPost_ret (v:= .agg #[.string ⟨#[105,102,101,113]⟩, .string ⟨#[106]⟩]) ?_ rfl ⟨rfl, ?_⟩
 ·simp [results,Tryz.results33,go_sem] <;>rfl
 repeat' (first|exact Below.refl _ _|refine Below.drew ?_|refine Below.alloc ?_ ?_ _|refine Below.setCell ?_ ?_ _| (simp;done) | (simp;omega))
theorem lqx (w:World):Calls Tryz.prog 33 #[.int .i64 156] w fun e w'=>e= .returned (.agg #[.string ⟨(aqc 156).1.toArray⟩, .string ⟨(aqc 156).2.toArray⟩])∧Below w.heap.size w w':=by
 rw [kql]
 go_enter Tryz.func33,Tryz.ntmps33
 go_wp2
 refine bodyPost_ret (v:= .agg #[.string ⟨#[105,102,103,101]⟩, .string ⟨#[106]⟩]) ?_ rfl ⟨rfl, ?_⟩
 ·simp [results,Tryz.results33,go_sem] <;>rfl
 repeat' (first|exact Below.refl _ _|refine Below.drew ?_|refine Below.alloc ?_ ?_ _|refine Below.setCell ?_ ?_ _| (simp;done) | (simp;omega))
theorem lqy (w:World):Calls Tryz.prog 33 #[.int .i64 159] w fun e w'=>e= .returned (.agg #[.string ⟨(aqc 159).1.toArray⟩, .string ⟨(aqc 159).2.toArray⟩])∧Below w.heap.size w w':=by
 rw [kqo]
 go_enter Tryz.func33,Tryz.ntmps33
 go_wp2
 refine bodyPost_ret (v:= .agg #[.string ⟨#[105,102,95,105,99,109,112,101,113]⟩, .string ⟨#[106]⟩]) ?_ rfl ⟨rfl, ?_⟩
 ·simp [results,Tryz.results33,go_sem] <;>rfl
 repeat' (first|exact Below.refl _ _|refine Below.drew ?_|refine Below.alloc ?_ ?_ _|refine Below.setCell ?_ ?_ _| (simp;done) | (simp;omega))
theorem lqz (w:World):Calls Tryz.prog 33 #[.int .i64 162] w fun e w'=>e= .returned (.agg #[.string ⟨(aqc 162).1.toArray⟩, .string ⟨(aqc 162).2.toArray⟩])∧Below w.heap.size w w':=by
 rw [kqr]
 go_enter Tryz.func33,Tryz.ntmps33
 go_wp2
 refine bodyPost_ret (v:= .agg #[.string ⟨#[105,102,95,105,99,109,112,103,101]⟩, .string ⟨#[106]⟩]) ?_ rfl ⟨rfl, ?_⟩
 ·simp [results,Tryz.results33,go_sem] <;>rfl
 repeat' (first|exact Below.refl _ _|refine Below.drew ?_|refine Below.alloc ?_ ?_ _|refine Below.setCell ?_ ?_ _| (simp;done) | (simp;omega))
theorem lqA (w:World):Calls Tryz.prog 33 #[.int .i64 165] w fun e w'=>e= .returned (.agg #[.string ⟨(aqc 165).1.toArray⟩, .string ⟨(aqc 165).2.toArray⟩])∧Below w.heap.size w w':=by
 rw [kqu]
 go_enter Tryz.func33,Tryz.ntmps33
 go_wp2
 refine bodyPost_ret (v:= .agg #[.string ⟨#[105,102,95,97,99,109,112,101,113]⟩, .string ⟨#[106]⟩]) ?_ rfl ⟨rfl, ?_⟩
 ·simp [results,Tryz.results33,go_sem] <;>rfl
 repeat' (first|exact Below.refl _ _|refine Below.drew ?_|refine Below.alloc ?_ ?_ _|refine Below.setCell ?_ ?_ _| (simp;done) | (simp;omega))
theorem iqp (c:Int) (w:World) (h1:87≤c) (h2:c≤147):
  Calls Tryz.prog 74 #[.int .i64 c] w fun e w'=>e= .returned (.agg #[.string ⟨(aqc c).1.toArray⟩, .string ⟨(aqc c).2.toArray⟩])∧Below w.heap.size w w':=by
 go_enter Tryz.func74,Tryz.ntmps74
 go_wp2
 all_goals
  simp only [beq_iff_eq,beq_eq_false_iff_ne,ne_eq] at*
  subst_vars
  refine bodyPost_ret (v:= .agg #[.string ⟨(aqc _).1.toArray⟩, .string ⟨(aqc _).2.toArray⟩]) ?_ rfl ⟨rfl, ?_⟩
  all_goals first
   | (refine(Below.refl _ _).alloc ?_ _;simp;done)
   | (simp [results,Tryz.results74,go_sem,aqc,eqA];done)
   | (rw [gqh (by simp [eqA];omega)];simp [results,Tryz.results74,go_sem];done)
theorem jqX (c:Int) (w:World) (h1:c<0∨8<c) (h2:c<26∨29<c) (h3:c<42∨45<c) (h4:c<59∨62<c) (h5:c<75∨78<c) (h6:c<87∨147<c) (h7:c<153∨167<c) (h8:c<16∨18<c) (h9:c≠21) (h10:c≠25) (h11:c≠54) (h12:c≠58):
  Calls Tryz.prog 75 #[.int .i64 c] w fun e w'=>e= .returned (.agg #[.string ⟨(aqc c).1.toArray⟩, .string ⟨(aqc c).2.toArray⟩])∧Below w.heap.size w w':=by
 go_enter Tryz.func75,Tryz.ntmps75
 go_wp2
 all_goals
  simp only [beq_iff_eq,beq_eq_false_iff_ne,ne_eq] at*
  subst_vars
  refine bodyPost_ret (v:= .agg #[.string ⟨(aqc _).1.toArray⟩, .string ⟨(aqc _).2.toArray⟩]) ?_ rfl ⟨rfl, ?_⟩
  all_goals first
   | (refine(Below.refl _ _).alloc ?_ _;simp;done)
   | (simp [results,Tryz.results75,go_sem,aqc,eqA];done)
   | (rw [gqh (by simp [eqA];omega)];simp [results,Tryz.results75,go_sem];done)
theorem lqB (c:Int) (w:World) (h1:87≤c) (h2:c≤147):Calls Tryz.prog 33 #[.int .i64 c] w fun e w'=>e= .returned (.agg #[.string ⟨(aqc c).1.toArray⟩, .string ⟨(aqc c).2.toArray⟩])∧Below w.heap.size w w':=by
 go_enter Tryz.func33,Tryz.ntmps33
 go_wp2_with (go_at_call 74;refine(iqp _ _ h1 h2).mono ?_;rintro e w1 ⟨rfl,hb⟩;have hz:=hb.size;simp only [World.size_alloc] at hz;obtain⟨hc,hf⟩:=oqX hb;have c0:=hc w.heap.size 0 (by simp;omega);have c1:=hc w.heap.size 1 (by simp;omega);have f0:=hf w.heap.size 0 (by simp;omega);have f1:=hf w.heap.size 1 (by simp;omega);clear hc hf;simp [go_sem] at c0 c1 f0 f1)
 refine bodyPost_ret (v:= .agg #[.string ⟨(aqc c).1.toArray⟩, .string ⟨(aqc c).2.toArray⟩]) ?_ rfl ⟨rfl, ?_⟩
 ·simp [results,Tryz.results33,go_sem,c0,c1,f0,f1,hz]
 exact((((Below.refl _ _).alloc (Nat.le_refl _) _).alloc (by simp) _).trans (hb.mono (by simp;omega))).setCell (by simp) _|>.setCell (by simp) _
theorem jqY (c:Int) (w:World) (h1:c<0∨8<c) (h2:c<26∨29<c) (h3:c<42∨45<c) (h4:c<59∨62<c) (h5:c<75∨78<c) (h6:c<87∨147<c) (h7:c<153∨167<c) (h8:c<16∨18<c) (h9:c≠21) (h10:c≠25) (h11:c≠54) (h12:c≠58):Calls Tryz.prog 33 #[.int .i64 c] w fun e w'=>e= .returned (.agg #[.string ⟨(aqc c).1.toArray⟩, .string ⟨(aqc c).2.toArray⟩])∧Below w.heap.size w w':=by
 have e0:(c==0)=false:=by simp;omega
 have e1:(c==1)=false:=by simp;omega
 have e16:(c==16)=false:=by simp;omega
 have e17:(c==17)=false:=by simp;omega
 have e18:(c==18)=false:=by simp;omega
 have e21:(c==21)=false:=by simp;omega
 have e25:(c==25)=false:=by simp;omega
 have e54:(c==54)=false:=by simp;omega
 have e58:(c==58)=false:=by simp;omega
 have K0: ∀w,Calls Tryz.prog 75 #[.int .i64 c] w fun e w'=>e= .returned (.agg #[.string ⟨(aqc c).1.toArray⟩, .string ⟨(aqc c).2.toArray⟩])∧Below w.heap.size w w':=fun w=>jqX c w h1 h2 h3 h4 h5 h6 h7 h8 h9 h10 h11 h12
 have K:=Hq K0
 clear K0
 clear h8 h9 h10 h11 h12
 go_enter Tryz.func33,Tryz.ntmps33
 go_wp2_with (go_at_call 75;refine(K.out _).mono ?_;rintro e w1 ⟨rfl,hb⟩;have hz:=hb.size;simp only [World.size_alloc] at hz;obtain⟨hc,hf⟩:=oqX hb;have c0:=hc w.heap.size 0 (by simp;omega);have c1:=hc w.heap.size 1 (by simp;omega);have f0:=hf w.heap.size 0 (by simp;omega);have f1:=hf w.heap.size 1 (by simp;omega);clear hc hf;simp [go_sem] at c0 c1 f0 f1)
 all_goals
  refine bodyPost_ret (v:= .agg #[.string ⟨(aqc c).1.toArray⟩, .string ⟨(aqc c).2.toArray⟩]) ?_ rfl ⟨rfl, ?_⟩
  ·simp [results,Tryz.results33,go_sem,c0,c1,f0,f1,hz]
  exact((((Below.refl _ _).alloc (Nat.le_refl _) _).alloc (by simp) _).trans (hb.mono (by simp;omega))).setCell (by simp) _|>.setCell (by simp) _
theorem eqN (c:Int) (w:World):Calls Tryz.prog 33 #[.int .i64 c] w fun e w'=>e= .returned (.agg #[.string ⟨(aqc c).1.toArray⟩, .string ⟨(aqc c).2.toArray⟩])∧Below w.heap.size w w':=by
 by_cases hm:87≤c∧c≤147
 ·exact lqB c w hm.1 hm.2
 by_cases hl:c∈([0,1,2,3,4,5,6,7,8,16,17,18,21,25,26,27,28,29,42,43,44,45,54,58,59,60,61,62,75,76,77,78,153,154,155,156,157,158,159,160,161,162,163,164,165,166,167]:List Int)
 ·simp only [List.mem_cons,List.not_mem_nil,or_false] at hl
  rcases hl with rfl|rfl|rfl|rfl|rfl|rfl|rfl|rfl|rfl|rfl|rfl|rfl|rfl|rfl|rfl|rfl|rfl|rfl|rfl|rfl|rfl|rfl|rfl|rfl|rfl|rfl|rfl|rfl|rfl|rfl|rfl|rfl|rfl|rfl|rfl|rfl|rfl|rfl|rfl|rfl|rfl|rfl|rfl|rfl|rfl|rfl|rfl
  ·exact oqy w
  ·exact oqB w
  ·exact oqE w
  ·exact oqz w
  ·exact oqC w
  ·exact oqF w
  ·exact oqA w
  ·exact oqD w
  ·exact oqG w
  ·exact nqa w
  ·exact nqi w
  ·exact nqq w
  ·exact nqb w
  ·exact nqj w
  ·exact nqr w
  ·exact nqc w
  ·exact nqk w
  ·exact nqs w
  ·exact nqd w
  ·exact nql w
  ·exact nqt w
  ·exact nqe w
  ·exact nqm w
  ·exact nqu w
  ·exact nqf w
  ·exact nqn w
  ·exact nqv w
  ·exact nqg w
  ·exact nqo w
  ·exact nqw w
  ·exact nqh w
  ·exact nqp w
  ·exact lqw w
  ·exact lqm w
  ·exact lqr w
  ·exact lqx w
  ·exact lqn w
  ·exact lqs w
  ·exact lqy w
  ·exact lqo w
  ·exact lqt w
  ·exact lqz w
  ·exact lqp w
  ·exact lqu w
  ·exact lqA w
  ·exact lqq w
  exact lqv w
 simp only [List.mem_cons,List.not_mem_nil,or_false,not_or] at hl
 refine jqY c w ?_ ?_ ?_ ?_ ?_ ?_ ?_ ?_ ?_ ?_ ?_ ?_<;>omega
end Go.Proofs.YtlcidkiplidamaaGreatDoor
namespace Go.Proofs.YtlcidkiplidamaaGreatDoor
open Go Go.RowKit Lib
theorem iqq (c:Int) (w:World):
  Calls Tryz.prog 130 #[.int .i64 c] w fun e w'=>e= .returned (.tuple #[.string ⟨(aqc c).1.toArray⟩, .string ⟨(aqc c).2.toArray⟩])∧Below w.heap.size w w':=by
 go_enter Tryz.func130,Tryz.ntmps130
 go_wp2_with (go_at_call 33;refine(eqN _ _).mono ?_;rintro e w1 ⟨rfl,hb⟩;have HB:=Hq hb;clear hb)
 go_quiet (fail)
 go_wp2
 go_ret2
 exact⟨rfl,below_drewN ((HB.out).alloc HB.out.size _) _⟩
theorem lqC {c:Int} (h:(aqc c).1≠ []): ∃r∈eqA,r.1=c∧r.2=aqc c:=by
 unfold aqc at h⊢
 split
 ·rename_i r hr
  have h1:=List.find?_some hr
  exact⟨r,List.mem_of_find?_eq_some hr,by simpa using h1,rfl⟩
 rename_i hr
 rw [hr] at h
 exact absurd rfl h
theorem dq0: ∀r∈eqA,aqP r.2.1=r.1∧0≤r.1∧r.1<256∧aqc r.1=r.2:=by decide
theorem eqZ {c:Int} {s:List UInt8} (h:(aqc c).1=s) (hs:s≠ []):aqP s=c:=by
 obtain⟨r,hr,hc,h2⟩:=lqC (c:=c) (by rw [h];exact hs)
 rw [←h, ←h2, ←hc]
 exact(dq0 r hr).1
theorem iqr {s:List UInt8} (h: ∀c:Nat,c<256→(aqc c).1≠s):aqP s= -1:=by
 unfold aqP
 split
 ·rename_i r hr
  exfalso
  have h1:=List.find?_some hr
  simp only [beq_iff_eq] at h1
  obtain⟨_,h2,h3,h4⟩:=dq0 r (List.mem_of_find?_eq_some hr)
  have:=h r.1.toNat (by omega)
  rw [show((r.1.toNat:Nat):Int)=r.1 from by omega,h4] at this
  exact this h1
 rfl
theorem jqZ:aqP []= -1:=by decide
theorem iqs (s:ByteArray) (hs:s.toList= []) (w:World):
  Calls Tryz.prog 129 #[.string s] w fun e w'=>e= .returned (.int .i64 (-1))∧Below w.heap.size w w':=by
 have he:s.toList.isEmpty=true:=by simp [hs]
 have HE:=Hq hs
 clear hs
 go_enter Tryz.func129,Tryz.ntmps129
 go_wp2
 go_loopw [5] (fun i wr=> ∃k:Nat,k≤256∧i= .int .i64 k∧Hid (Below w.heap.size w wr)) (fun i _=>256 - (RowKit.intOf i).toNat)
 case atStart=>exact⟨0,by omega,rfl,Below.refl _ _⟩
 case round=>
  obtain⟨k,hk,rfl,HB⟩:=hrel
  by_cases hlt:k<256
  ·go_wp2_with (go_at_call 33;refine(eqN _ _).mono ?_;rintro e w1 ⟨rfl,hb⟩;have HB1:=Hq hb;clear hb)
   all_goals
    go_roundw
    case rel=>exact⟨k+1,by omega,by go_num,by show Below _ _ _;exact(HB.out.trans (HB1.out.mono HB.out.size)).alloc (Nat.le_trans HB.out.size HB1.out.size) _⟩
    case measure=>simp [RowKit.intOf];omega
  obtain rfl:k=256:=by omega
  go_wp2
  go_ret
  exact⟨rfl,HB.out⟩
theorem hqD (s:ByteArray) (hs:s.toList≠ []) (w:World):
  Calls Tryz.prog 129 #[.string s] w fun e w'=>e= .returned (.int .i64 (aqP s.toList))∧Below w.heap.size w w':=by
 have he:s.toList.isEmpty=false:=by simp [hs]
 have HE:=Hq hs
 clear hs
 go_enter Tryz.func129,Tryz.ntmps129
 go_wp2
 go_loopw [5] (fun i wr=> ∃k:Nat,k≤256∧i= .int .i64 k∧Hid (Below w.heap.size w wr)∧Hid (∀c:Nat,c<k→(aqc c).1≠s.toList)) (fun i _=>256 - (RowKit.intOf i).toNat)
 case atStart=>exact⟨0,by omega,rfl,Below.refl _ _,fun c hc=>absurd hc (by omega)⟩
 case round=>
  obtain⟨k,hk,rfl,HB,HN⟩:=hrel
  by_cases hlt:k<256
  ·by_cases hh:(aqc k).1=s.toList
   ·have hb0:((aqc k).1==s.toList)=true:=by simp [hh]
    have HR:=Hq (eqZ hh HE.out)
    clear hh
    go_wp2_with (go_at_call 33;refine(eqN _ _).mono ?_;rintro e w1 ⟨rfl,hb⟩;have HB1:=Hq hb;clear hb)
    go_ret
    exact⟨by rw [HR.out];rfl,by show Below _ _ _;exact(HB.out.trans (HB1.out.mono HB.out.size)).alloc (Nat.le_trans HB.out.size HB1.out.size) _⟩
   have hb0:((aqc k).1==s.toList)=false:=by simp [hh]
   have HH:=Hq hh
   clear hh
   go_wp2_with (go_at_call 33;refine(eqN _ _).mono ?_;rintro e w1 ⟨rfl,hb⟩;have HB1:=Hq hb;clear hb)
   go_roundw
   case rel=>exact⟨k+1,by omega,by go_num,by show Below _ _ _;exact(HB.out.trans (HB1.out.mono HB.out.size)).alloc (Nat.le_trans HB.out.size HB1.out.size) _,fun c hc=>by
    rcases Nat.lt_or_ge c k with h|h
    ·exact HN.out c h
    obtain rfl:c=k:=by omega
    exact HH.out⟩
   case measure=>simp [RowKit.intOf];omega
  obtain rfl:k=256:=by omega
  go_wp2
  go_ret
  exact⟨by rw [iqr HN.out];rfl,HB.out⟩
theorem iqt (s:ByteArray) (w:World):
  Calls Tryz.prog 129 #[.string s] w fun e w'=>e= .returned (.int .i64 (aqP s.toList))∧Below w.heap.size w w':=by
 by_cases hs:s.toList= []
 ·rw [hs,jqZ]
  exact iqs s hs w
 exact hqD s hs w
theorem hqE {a:Act} {d i:Nat} {v:Value} (h:i≠d):(a.put (some d) v).eval (.tmp i)=a.eval (.tmp i):=by
 simp [Act.put,Act.eval,Array.getD_eq_getD_getElem?,Array.getElem?_setIfInBounds,Ne.symm h]
theorem jq0 {a:Act} {d:Nat} {v:Value} (h:d<a.tmps.size):(a.put (some d) v).eval (.tmp d)=v:=by
 simp [Act.put,Act.eval,Array.getD_eq_getD_getElem?,Array.getElem?_setIfInBounds,h]
theorem lqD {a:Act} {d:Nat} {v:Value}:(a.put (some d) v).tmps.size=a.tmps.size:=by simp [Act.put]
structure FrA (a0 a:Act) (N lo hi:Nat):Prop where
 z:a.tmps.size=N
 d:a.defers=a0.defers
 k: ∀i:Nat,(i<lo∨hi<i)→a.eval (.tmp i)=a0.eval (.tmp i)
theorem FrA.put {a0 a:Act} {N lo hi:Nat} (h:FrA a0 a N lo hi) (d:Nat) (v:Value) (hd:lo≤d∧d≤hi∧d<N): ∃b,a.put (some d) v=b∧FrA a0 b N lo hi∧b.eval (.tmp d)=v∧ ∀i:Nat,i≠d→b.eval (.tmp i)=a.eval (.tmp i):=
 ⟨_,rfl,⟨lqD.trans h.z,h.d,fun i hi=> (hqE (by omega)).trans (h.k i hi)⟩,jq0 (by rw [h.z];exact hd.2.2),fun i hi=>hqE hi⟩
end Go.Proofs.YtlcidkiplidamaaGreatDoor
set_option maxHeartbeats 2000000
namespace Go.Proofs.YtlcidkiplidamaaGreatDoor
open Go Go.RowKit Lib Go.Maps
def fqc:List (List UInt8):= [[], [98], [117], [115], [106], [102], [109], [99], [105], [117,98]]
theorem eq0 (c:Int):(aqc c).2∈fqc:=by
 unfold aqc
 split
 ·rename_i r hr
  have hm:=List.mem_of_find?_eq_some hr
  have hall: ∀r∈eqA,r.2.2∈fqc:=by decide
  exact hall r hm
 decide
def mAt (m:AsM) (x:AsI):AsM:={ m with mv:={ m.mv with code:=x.code },jumps:=x.jumps }
structure InE (w0:World) (ρ0:Nat→Nat) (B kb xb p1 p4 q8 it:Nat) (m:AsM) (x:AsI) (w:World) (ρ:Nat→Nat) (V:MkV) (U:MtV) (A:Option Addr) (n cap:Nat):Prop where
 kc:MkC w ρ B kb x.k V
 mv:V.mv= .pointer (some ⟨xb,0,none⟩)
 mt:MtC w ρ B xb (mAt m x) U
 chg:Chg [1,2,3,4,5,6,7,8,9,10,11,12,13] w0 ρ0 w ρ
 q:Bx w q8 [.slice A n cap] 43
 wd:WdA w (fun g=>ρ0 g=0∧g<w0.heap.size) A n cap x.rest
 r1:ρ p1=0
 r4:ρ p4=0
 r8:ρ q8=0
 ri:ρ it=0
structure InS (w0:World) (ρ0:Nat→Nat) (B kb xb p1 p4 q8 it:Nat) (fs:ByteArray) (pos:Nat) (m:AsM) (x:AsI) (w:World):Prop where
 ex: ∃(ρ:Nat→Nat) (V:MkV) (U:MtV) (A:Option Addr) (n cap:Nat),InE w0 ρ0 B kb xb p1 p4 q8 it m x w ρ V U A n cap
 b1:Bx w p1 [.pointer (some ⟨kb,0,none⟩)] 63
 b4:Bx w p4 [.pointer (some ⟨xb,0,none⟩)] 65
 ib:w.heap[it]?=some (.stringIter fs pos)
 l1:w0.heap.size≤p1
 l4:w0.heap.size≤p4
 l8:w0.heap.size≤q8
 li:w0.heap.size≤it
 n1:p1≠q8
 n4:p4≠q8
 ni:it≠q8
 i1:it≠p1
 i4:it≠p4
 low:Low w0 ρ0 B
 hB:B≤w0.heap.size
theorem nqx (w:World) (fs:ByteArray):(w.alloc (.stringIter fs 0)).heap[w.heap.size]?=some (.stringIter fs 0):=by
 have h:=(w.heap.push_eq_append (a:= .stringIter fs 0))
 show(w.heap.push _)[w.heap.size]?=_
 rw [Array.getElem?_push_size]
theorem oqH {w:World} {it pos:Nat} {fs:ByteArray} (h:w.heap[it]?=some (.stringIter fs pos)):it<w.heap.size:=(Array.getElem?_eq_some_iff.1 h).1
theorem WdA.kept {w w':World} {ok:Nat→Prop} {A:Option Addr} {n cap:Nat} {ws:List ByteArray} (h:WdA w ok A n cap ws) (hsz:w.heap.size≤w'.heap.size) (hk: ∀g,g<w.heap.size→ok g→w'.heap[g]?=w.heap[g]?):WdA w' ok A n cap ws:=
 ⟨h.len,h.le,h.max,fun h0=>by
  obtain⟨b,off,e,hb,ho,hc⟩:=h.hat h0
  exact⟨b,off,e,Nat.lt_of_lt_of_le hb hsz,ho,fun j s hs=> (World.cell?_of_block (hk b hb ho)).trans (hc j s hs)⟩⟩
theorem InS.step {w0:World} {ρ0:Nat→Nat} {B kb xb p1 p4 q8 it:Nat} {fs:ByteArray} {pos:Nat} {m:AsM} {x x':AsI} {w w':World} {ρ ρ':Nat→Nat} {V V':MkV} {U U':MtV} {A:Option Addr} {n cap:Nat} {cs:List Nat}
  (h:InS w0 ρ0 B kb xb p1 p4 q8 it fs pos m x w) (e:InE w0 ρ0 B kb xb p1 p4 q8 it m x w ρ V U A n cap) (hc:Chg cs w ρ w' ρ') (h0:0∉cs) (hs: ∀c∈cs,c∈ [1,2,3,4,5,6,7,8,9,10,11,12,13]) (hm:MkC w' ρ' B kb x'.k V') (hv:V'.mv=V.mv) (ht:MtC w' ρ' B xb (mAt m x') U') (hr:x'.rest=x.rest):
  InS w0 ρ0 B kb xb p1 p4 q8 it fs pos m x' w':=by
 have k: ∀g,g<w.heap.size→ρ g=0→w'.heap[g]?=w.heap[g]?∧ρ' g=0:=fun g hg hr=>by
  have:=hc.blk g hg (by rw [hr];exact h0)
  exact⟨this.1,this.2.trans hr⟩
 have e1:=k p1 h.b1.lt e.r1
 have e4:=k p4 h.b4.lt e.r4
 have e8:=k q8 e.q.lt e.r8
 have ei:=k it (oqH h.ib) e.ri
 have hk2: ∀g,g<w.heap.size→(ρ0 g=0∧g<w0.heap.size)→w'.heap[g]?=w.heap[g]?:=fun g hg ho=>by
  have h1:ρ g=ρ0 g:=(e.chg.blk g ho.2 (by rw [ho.1];decide)).2
  exact(k g hg (h1.trans ho.1)).1
 exact{ h with
  ex:=⟨ρ',V',U',A,n,cap,⟨hm,hv.trans e.mv,ht,e.chg.trans (hc.mono hs),e8.1.trans e.q,by rw [hr];exact e.wd.kept hc.size hk2,e1.2,e4.2,e8.2,ei.2⟩⟩
  b1:=e1.1.trans h.b1
  b4:=e4.1.trans h.b4
  ib:=ei.1.trans h.ib }
theorem InS.below {w0:World} {ρ0:Nat→Nat} {B kb xb p1 p4 q8 it:Nat} {fs:ByteArray} {pos:Nat} {m:AsM} {x:AsI} {w w':World} (h:InS w0 ρ0 B kb xb p1 p4 q8 it fs pos m x w) (hb:Below w.heap.size w w'):InS w0 ρ0 B kb xb p1 p4 q8 it fs pos m x w':=by
 obtain⟨ρ,V,U,A,n,cap,e⟩:=h.ex
 exact h.step e (Chg.of_below (cs:= []) hb) (by simp) (by simp) (e.kc.below hb) rfl (e.mt.below hb) rfl
theorem InS.since {w0:World} {ρ0:Nat→Nat} {B kb xb p1 p4 q8 it:Nat} {fs:ByteArray} {pos:Nat} {m:AsM} {x:AsI} {w:World} (h:InS w0 ρ0 B kb xb p1 p4 q8 it fs pos m x w):Below B w0 w:=by
 obtain⟨ρ,V,U,A,n,cap,e⟩:=h.ex
 exact e.chg.below h.low h.hB (by decide)
theorem InS.turn {w0:World} {ρ0:Nat→Nat} {B kb xb p1 p4 q8 it:Nat} {fs:ByteArray} {pos pos':Nat} {m:AsM} {x:AsI} {w w':World} (h:InS w0 ρ0 B kb xb p1 p4 q8 it fs pos m x w) (hi:w'.heap[it]?=some (.stringIter fs pos')) (hk: ∀j,j≠it→w'.heap[j]?=w.heap[j]?) (hb:Below it w w'):InS w0 ρ0 B kb xb p1 p4 q8 it fs pos' m x w':=by
 obtain⟨ρ,V,U,A,n,cap,e⟩:=h.ex
 have hc:Chg [0] w ρ w' ρ:=⟨hb.os,hb.tape,hb.output,hb.size,fun g hg hr=> ⟨hk g (by rintro rfl;exact hr (by rw [e.ri];simp)),rfl⟩⟩
 have hc2:Chg [1,2,3,4,5,6,7,8,9,10,11,12,13] w0 ρ0 w' ρ:=⟨hb.os.trans e.chg.os,hb.tape.trans e.chg.tape,hb.output.trans e.chg.output,Nat.le_trans e.chg.size hb.size,fun g hg hr=>by
  have:=e.chg.blk g hg hr
  exact⟨(hk g (by have:=h.li;omega)).trans this.1,this.2⟩⟩
 exact{ h with
  ex:=⟨ρ,V,U,A,n,cap,⟨e.kc.keep hc (e.kc.low.mono hb.size) (by intro c h1 h2 hm;simp at hm;omega),e.mv,e.mt.keep hc (by intro c h1 h2 hm;simp at hm;omega),hc2,(hk q8 (Ne.symm h.ni)).trans e.q,e.wd.kept hb.size (fun g hg ho=>hk g (by have:=h.li;omega)),e.r1,e.r4,e.r8,e.ri⟩⟩
  b1:=(hk p1 (Ne.symm h.i1)).trans h.b1
  b4:=(hk p4 (Ne.symm h.i4)).trans h.b4
  ib:=hi }
theorem InS.again {w0:World} {ρ0:Nat→Nat} {B kb xb p1 p4 q8 it:Nat} {fs:ByteArray} {pos:Nat} {m:AsM} {x:AsI} {w:World} (h:InS w0 ρ0 B kb xb p1 p4 q8 it fs pos m x w) (gs:ByteArray) (k:Nat) (hk:k=w.heap.size):InS w0 ρ0 B kb xb p1 p4 q8 k gs 0 m x (w.alloc (.stringIter gs 0)):=by
 subst hk
 have hb:=(Below.refl w.heap.size w).alloc (Nat.le_refl _) (.stringIter gs 0)
 obtain⟨ρ,V,U,A,n,cap,e⟩:=h.ex
 have a1:=h.b1.lt
 have a4:=h.b4.lt
 have a8:=e.q.lt
 have a0:=e.chg.size
 exact{ h with
  ex:=⟨ρ,V,U,A,n,cap,⟨e.kc.below hb,e.mv,e.mt.below hb,e.chg.trans (Chg.of_below hb),e.q.below hb a8,e.wd.kept hb.size (fun g hg ho=>hb.block g hg),e.r1,e.r4,e.r8,e.kc.low.fresh (Nat.le_refl _)⟩⟩
  b1:=h.b1.below hb a1
  b4:=h.b4.below hb a4
  ib:=nqx w gs
  li:=a0
  ni:=by omega
  i1:=by omega
  i4:=by omega }
theorem MkC.wm2 {w:World} {ρ:Nat→Nat} {B kb:Nat} {σ:AsK} {V:MkV} (h:MkC w ρ B kb σ V) (m:Option AsM):MkC w ρ B kb { σ with m:=m } V:=⟨h.low,h.hB,h.box,h.kc,h.map,h.mc,h.pool,h.ifs,h.flds,h.mths⟩
theorem InS.done {w0:World} {ρ0:Nat→Nat} {B kb xb p1 p4 q8 it line:Nat} {fs:ByteArray} {pos:Nat} {m:AsM} {x:AsI} {w:World} {p:Option AsK} (h:InS w0 ρ0 B kb xb p1 p4 q8 it fs pos m x w) (hp:p=some { x.k with m:=some (mAt m x) }):
  cqu [1,2,3,4,5,6,7,8,9,10,11,12,13] w0 ρ0 B kb line p (.returned (.tuple #[])) w:=by
 obtain⟨ρ,V,U,A,n,cap,e⟩:=h.ex
 exact bqe hp rfl (e.kc.wm2 (some (mAt m x))) ⟨xb,U,e.mv,e.mt⟩ e.chg
theorem InS.wrong {w0:World} {ρ0:Nat→Nat} {B kb xb p1 p4 q8 it line:Nat} {fs:ByteArray} {pos:Nat} {m:AsM} {x:AsI} {w:World} {p:Option AsK} (h:InS w0 ρ0 B kb xb p1 p4 q8 it fs pos m x w) (hp:p=none):
  cqu [1,2,3,4,5,6,7,8,9,10,11,12,13] w0 ρ0 B kb line p (eqK line) w:=aqC hp h.since
theorem InS.next' {w0:World} {ρ0:Nat→Nat} {B kb xb p1 p4 q8 it:Nat} {fs:ByteArray} {pos:Nat} {m:AsM} {x:AsI} {w:World} {s:ByteArray} {r:List ByteArray} {ρ:Nat→Nat} {V:MkV} {U:MtV} {A:Option Addr} {n cap:Nat} (h:InS w0 ρ0 B kb xb p1 p4 q8 it fs pos m x w) (e:InE w0 ρ0 B kb xb p1 p4 q8 it m x w ρ V U A n cap) (hr:x.rest=s::r):
  Calls Tryz.prog 131 #[.pointer (some ⟨p1,0,none⟩), .pointer (some ⟨q8,0,none⟩)] w fun e' w'=>e'= .returned (.string s)∧InS w0 ρ0 B kb xb p1 p4 q8 it fs pos m { x with rest:=r } w'∧ ∃A',w'=w.setCell ⟨q8,0,none⟩ (.slice A' (n - 1) (cap - 1))∧InE w0 ρ0 B kb xb p1 p4 q8 it m { x with rest:=r } w' ρ V U A' (n - 1) (cap - 1):=by
 have hn:n=r.length+1:=by rw [e.wd.len,hr];rfl
 obtain⟨b,off,rfl,hb,hub,hc⟩:=e.wd.hat (by omega)
 refine(mq6 p1 q8 kb x.k.line b off n cap (bqw x.k V) s w (h.b1.cell 0 rfl) e.kc.box rfl e.q (by omega) e.wd.le e.wd.max (by simpa using hc 0 s (by rw [hr];rfl))).mono ?_
 rintro e' w' ⟨rfl,A',hA',rfl⟩
 have hbq:b≠q8:=by
  have:=h.l8
  have:=hub.2
  omega
 have hcb: ∀g,g≠q8→(w.setCell ⟨q8,0,none⟩ (.slice A' (n - 1) (cap - 1))).heap[g]?=w.heap[g]?:=fun g hg=>Below.heap_setCell _ _ _ _ hg
 have hwd:WdA (w.setCell ⟨q8,0,none⟩ (.slice A' (n - 1) (cap - 1))) (fun g=>ρ0 g=0∧g<w0.heap.size) A' (n - 1) (cap - 1) r:=by
  refine⟨by omega,by have:=e.wd.le;omega,by have:=e.wd.max;omega,fun h0=> ⟨b,off+1,hA' (by omega),by simpa using hb,hub,fun j s' hs'=> ?_⟩⟩
  rw [World.cell?_setCell_other _ _ _ _ (by intro e;injection e with e _;exact hbq e.symm)]
  have:=hc (j+1) s' (by rw [hr];simpa using hs')
  rw [←this]
  congr 2
  omega
 have e2:InE w0 ρ0 B kb xb p1 p4 q8 it m { x with rest:=r } (w.setCell ⟨q8,0,none⟩ (.slice A' (n - 1) (cap - 1))) ρ V U A' (n - 1) (cap - 1):=⟨e.kc.free e.r8 _,e.mv,e.mt.free e.r8 _,e.chg.fresh h.l8 _,e.q.set 0 _,hwd,e.r1,e.r4,e.r8,e.ri⟩
 exact⟨rfl,{ h with
  ex:=⟨ρ,V,U,A',n - 1,cap - 1,e2⟩
  b1:=(hcb p1 h.n1).trans h.b1
  b4:=(hcb p4 h.n4).trans h.b4
  ib:=(hcb it h.ni).trans h.ib },A',rfl,e2⟩
theorem InS.next {w0:World} {ρ0:Nat→Nat} {B kb xb p1 p4 q8 it:Nat} {fs:ByteArray} {pos:Nat} {m:AsM} {x:AsI} {w:World} {s:ByteArray} {r:List ByteArray} (h:InS w0 ρ0 B kb xb p1 p4 q8 it fs pos m x w) (hr:x.rest=s::r):
  Calls Tryz.prog 131 #[.pointer (some ⟨p1,0,none⟩), .pointer (some ⟨q8,0,none⟩)] w fun e w'=>e= .returned (.string s)∧InS w0 ρ0 B kb xb p1 p4 q8 it fs pos m { x with rest:=r } w':=by
 obtain⟨ρ,V,U,A,n,cap,e⟩:=h.ex
 exact(h.next' e hr).mono fun e' w' hq=> ⟨hq.1,hq.2.1⟩
theorem InS.put {w0:World} {ρ0:Nat→Nat} {B kb xb p1 p4 q8 it:Nat} {fs:ByteArray} {pos:Nat} {m:AsM} {x:AsI} {w:World} (h:InS w0 ρ0 B kb xb p1 p4 q8 it fs pos m x w) (n y0:Int) (hl:x.code.length≤999000) (hn: -9223372036854775808≤n∧n≤9223372036854775807) (hy:y0=0∨y0=1):
  Calls Tryz.prog 132 #[.int .i64 n, .int .i64 (y0+1), .pointer (some ⟨p4,0,none⟩)] w fun e w'=>e= .returned (.tuple #[])∧InS w0 ρ0 B kb xb p1 p4 q8 it fs pos m { x with code:=x.code++jqS n y0 } w':=by
 obtain⟨ρ,V,U,A,cn,cap,e⟩:=h.ex
 refine(oqw p4 xb ρ B (mAt m x) U n y0 w (h.b4.cell 0 rfl) e.r4 e.mt e.kc.low e.kc.hB hl hn hy).mono ?_
 rintro e' w' ⟨rfl,ρ',cv',hm,hg,hl'⟩
 refine⟨rfl,h.step e hg (by decide) (by decide) (e.kc.keep hg hl' (by intro c h1 h2 hm;simp at hm;omega)) rfl hm rfl⟩
theorem InS.put1 {w0:World} {ρ0:Nat→Nat} {B kb xb p1 p4 q8 it:Nat} {fs:ByteArray} {pos:Nat} {m:AsM} {x:AsI} {w:World} (h:InS w0 ρ0 B kb xb p1 p4 q8 it fs pos m x w) (n:Int) (hl:x.code.length≤999000) (hn: -9223372036854775808≤n∧n≤9223372036854775807):
  Calls Tryz.prog 132 #[.int .i64 n, .int .i64 1, .pointer (some ⟨p4,0,none⟩)] w fun e w'=>e= .returned (.tuple #[])∧InS w0 ρ0 B kb xb p1 p4 q8 it fs pos m { x with code:=x.code++ [aqn n] } w':=h.put n 0 hl hn (.inl rfl)
theorem InS.put2 {w0:World} {ρ0:Nat→Nat} {B kb xb p1 p4 q8 it:Nat} {fs:ByteArray} {pos:Nat} {m:AsM} {x:AsI} {w:World} (h:InS w0 ρ0 B kb xb p1 p4 q8 it fs pos m x w) (n:Int) (hl:x.code.length≤999000) (hn: -9223372036854775808≤n∧n≤9223372036854775807):
  Calls Tryz.prog 132 #[.int .i64 n, .int .i64 2, .pointer (some ⟨p4,0,none⟩)] w fun e w'=>e= .returned (.tuple #[])∧InS w0 ρ0 B kb xb p1 p4 q8 it fs pos m { x with code:=x.code++aqT n } w':=h.put n 1 hl hn (.inr rfl)
theorem InS.digits {w0:World} {ρ0:Nat→Nat} {B kb xb p1 p4 q8 it:Nat} {fs:ByteArray} {pos:Nat} {m:AsM} {x:AsI} {w:World} (h:InS w0 ρ0 B kb xb p1 p4 q8 it fs pos m x w) (s:ByteArray) (lo hi:Int) (hz:s.size≤65536) (h64: -9223372036854775808≤lo∧hi≤9223372036854775807):
  Calls Tryz.prog 53 #[.pointer (some ⟨kb,0,none⟩), .string s, .int .i64 lo, .int .i64 hi] w fun e w'=> (∃v,aqz s.data.toList lo hi=some v∧e= .returned (.int .i64 v)∧InS w0 ρ0 B kb xb p1 p4 q8 it fs pos m x w')∨(aqz s.data.toList lo hi=none∧e= .panicked [{ v:=cqg x.k.line 60,recovered:=false }]∧InS w0 ρ0 B kb xb p1 p4 q8 it fs pos m x w'):=by
 obtain⟨ρ,V,U,A,cn,cap,e⟩:=h.ex
 refine(dqG kb _ x.k.line s lo hi w e.kc.box rfl hz h64).mono ?_
 intro e' w' hd
 cases hp:aqz s.data.toList lo hi with
 |none=>
  rw [hp] at hd
  exact .inr ⟨rfl,hd.2,h.below hd.1⟩
 |some v=>
  rw [hp] at hd
  exact .inl ⟨v,rfl,hd.2,h.below hd.1⟩
theorem InS.ofN {w0:World} {ρ0:Nat→Nat} {B kb xb p1 p4 q8 it:Nat} {fs:ByteArray} {pos:Nat} {m:AsM} {x:AsI} {w w':World} {r:Nat×AsK} {e':Ending} {ρ:Nat→Nat} {V:MkV} {U:MtV} {A:Option Addr} {n cap:Nat} (h:InS w0 ρ0 B kb xb p1 p4 q8 it fs pos m x w) (e:InE w0 ρ0 B kb xb p1 p4 q8 it m x w ρ V U A n cap) (hq:fqN w ρ B kb V r e' w'):
  e'= .returned (.int .i64 r.1)∧InS w0 ρ0 B kb xb p1 p4 q8 it fs pos m { x with k:=r.2 } w':=by
 obtain⟨rfl,ρ',pv',hm,hg⟩:=hq
 exact⟨rfl,h.step e hg (by decide) (by decide) hm rfl (e.mt.keep hg (by intro c h1 h2 hm;simp at hm;omega)) rfl⟩
theorem InS.number {w0:World} {ρ0:Nat→Nat} {B kb xb p1 p4 q8 it:Nat} {fs:ByteArray} {pos:Nat} {m:AsM} {x:AsI} {w:World} (h:InS w0 ρ0 B kb xb p1 p4 q8 it fs pos m x w) (n:Int) (hn: -2147483648≤n∧n≤2147483647) (hl:x.k.c.pool.length≤999000):
  Calls Tryz.prog 133 #[.pointer (some ⟨kb,0,none⟩), .int .i64 n] w fun e w'=>e= .returned (.int .i64 (x.k.number n).1)∧InS w0 ρ0 B kb xb p1 p4 q8 it fs pos m { x with k:=(x.k.number n).2 } w':=by
 obtain⟨ρ,V,U,A,cn,cap,e⟩:=h.ex
 exact(fqP ρ B kb x.k V n w e.kc hn (by omega)).mono fun e' w' hq=>h.ofN e hq
theorem InS.cls {w0:World} {ρ0:Nat→Nat} {B kb xb p1 p4 q8 it:Nat} {fs:ByteArray} {pos:Nat} {m:AsM} {x:AsI} {w:World} (h:InS w0 ρ0 B kb xb p1 p4 q8 it fs pos m x w) (s:ByteArray) (hs:s.size≤65536) (hl:x.k.c.pool.length≤999000):
  Calls Tryz.prog 56 #[.pointer (some ⟨kb,0,none⟩), .string s] w fun e w'=>e= .returned (.int .i64 (x.k.cls s).1)∧InS w0 ρ0 B kb xb p1 p4 q8 it fs pos m { x with k:=(x.k.cls s).2 } w':=by
 obtain⟨ρ,V,U,A,cn,cap,e⟩:=h.ex
 exact(cq3 ρ B kb x.k V s w e.kc hs (by omega)).mono fun e' w' hq=>h.ofN e hq
theorem InS.member {w0:World} {ρ0:Nat→Nat} {B kb xb p1 p4 q8 it:Nat} {fs:ByteArray} {pos:Nat} {m:AsM} {x:AsI} {w:World} (h:InS w0 ρ0 B kb xb p1 p4 q8 it fs pos m x w) (tag:Int) (c n d:ByteArray) (ht:cqF tag) (hc:c.size≤65536) (hn:n.size≤65536) (hd:d.size≤65536) (hl:x.k.c.pool.length≤999000):
  Calls Tryz.prog 134 #[.pointer (some ⟨kb,0,none⟩), .int .i64 tag, .string c, .string n, .string d] w fun e w'=>e= .returned (.int .i64 (x.k.member tag c n d).1)∧InS w0 ρ0 B kb xb p1 p4 q8 it fs pos m { x with k:=(x.k.member tag c n d).2 } w':=by
 obtain⟨ρ,V,U,A,cn,cap,e⟩:=h.ex
 exact(iqj ρ B kb x.k V tag c n d w e.kc ht hc hn hd hl).mono fun e' w' hq=>h.ofN e hq
theorem InS.mustY {w0:World} {ρ0:Nat→Nat} {B kb xb p1 p4 q8 it:Nat} {fs:ByteArray} {pos:Nat} {m:AsM} {x:AsI} {w:World} (h:InS w0 ρ0 B kb xb p1 p4 q8 it fs pos m x w):
  Calls Tryz.prog 26 #[.pointer (some ⟨kb,0,none⟩), .bool true] w fun e w'=>e= .returned (.tuple #[])∧w'=w:=by
 obtain⟨ρ,V,U,A,cn,cap,e⟩:=h.ex
 exact aq0 kb _ x.k.line w e.kc.box rfl
theorem InS.mustN {w0:World} {ρ0:Nat→Nat} {B kb xb p1 p4 q8 it:Nat} {fs:ByteArray} {pos:Nat} {m:AsM} {x:AsI} {w:World} (h:InS w0 ρ0 B kb xb p1 p4 q8 it fs pos m x w):
  Calls Tryz.prog 26 #[.pointer (some ⟨kb,0,none⟩), .bool false] w fun e w'=>e= .panicked [{ v:=cqg x.k.line 60,recovered:=false }]∧w'=w:=by
 obtain⟨ρ,V,U,A,cn,cap,e⟩:=h.ex
 exact aqG kb _ x.k.line w e.kc.box rfl
end Go.Proofs.YtlcidkiplidamaaGreatDoor
