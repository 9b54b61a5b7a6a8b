/-
  The law's label; a class of the law defined.
-/
import Derived.Test.YtdbniocnjhfhdaaGreatDoorB25
import Derived.Test.YtdbniocnjhfhdaaGreatDoorCLab
set_option linter.unusedSimpArgs false
set_option linter.unusedVariables false
set_option maxRecDepth 100000
set_option maxHeartbeats 1000000
namespace Go.Proofs.YtdbniocnjhfhdaaGreatDoor
open Go Go.RowKit Lib
theorem lab_is : ∀ i, i < 26 → (⟨#[112, 47, 67]⟩ : ByteArray) ++ (⟨#[97, 98, 99, 100, 101, 102, 103, 104, 105, 106, 107, 108, 109, 110, 111, 112, 113, 114, 115, 116, 117, 118, 119, 120, 121, 122]⟩ : ByteArray).extract i (i + 1) = lab i := by decide +kernel
theorem label_any (i : Nat) (hi : i < 26) (w : World) : Calls Tryz.prog 17 #[.int .i64 i] w fun e w' => e = .returned (.string (lab i)) ∧ w = w' := by
  have hz : (⟨#[97, 98, 99, 100, 101, 102, 103, 104, 105, 106, 107, 108, 109, 110, 111, 112, 113, 114, 115, 116, 117, 118, 119, 120, 121, 122]⟩ : ByteArray).size = 26 := rfl
  have hx : ((⟨#[97, 98, 99, 100, 101, 102, 103, 104, 105, 106, 107, 108, 109, 110, 111, 112, 113, 114, 115, 116, 117, 118, 119, 120, 121, 122]⟩ : ByteArray).extract i (i + 1)).size ≤ 26 := by
    rw [ByteArray.size_extract]
    omega
  have HI := Lib.hid (lab_is i hi)
  go_enter Tryz.func17, Tryz.ntmps17
  go_wp2_with fail
  go_ret
  refine ⟨?_, rfl⟩
  rw [HI.out]
  rfl
section
variable {B : Nat} {L : LPos} {nd : Nat} {defs : List UInt8 → Option (List UInt8)} {files : List UInt8 → Option ClassV} {ks going : List (List UInt8)} {ts : List TyV} {v : Value} {W W' : World}
theorem lab_size (i : Nat) : (lab i).size = 4 := rfl
/-- A class of the law more is defined. -/
theorem defLab (h : LdG B L nd defs files ks going ts v W) {P : Nat → Prop} {up : Nat → ByteArray} (hD : LabDefs P up defs) (i : Nat) (hi : i < 26) (hn : ¬ P i) (hnd : nd < 64) (hu : classB (dl (up i)) = true ∧ (up i).size ≤ 1000) {A : Option Addr} {len cap : Nat} (hr : RdB W A len cap (bareL (labL i) (dl (up i)))) :
    Calls Tryz.prog 15 #[.pointer (some ⟨L.lb, 0, none⟩), .string (lab i), .slice A len cap] W fun e w' => e = .returned (.int .i64 0) ∧ LdG B L (nd + 1) (putL defs (labL i) (bareL (labL i) (dl (up i)))) files ks going ts v w' ∧ Below B W w' := by
  have hl := hr.hlen
  have hs : (dl (up i)).length = (up i).size := Array.length_toList
  have hll : (bareL (labL i) (dl (up i))).length = 40 + (dl (up i)).length := by simp [bareL, labL]; omega
  have hlen : len ≤ 65536 := by omega
  refine (defineG h (lab i) A len cap _ (by rw [lab_size]; decide) hr (lab_class i hi).1 (lab_class i hi).2 hlen (hD.free hi hn) hnd).mono ?_
  rintro e w' ⟨rfl, h1, hb⟩
  exact ⟨rfl, h1, h.low hb⟩
end
end Go.Proofs.YtdbniocnjhfhdaaGreatDoor
