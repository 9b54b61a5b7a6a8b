/-
  The table of the instructions as plain data, and what it answers.
-/
set_option linter.unusedSimpArgs false
set_option linter.unusedVariables false
namespace Go.Proofs.Ytgicbgeblgfnfaa
def rowL : List (Int × List UInt8 × List UInt8) := [
  (0, [110, 111, 112], []),
  (1, [97, 99, 111, 110, 115, 116, 95, 110, 117, 108, 108], []),
  (2, [105, 99, 111, 110, 115, 116, 95, 109, 49], []),
  (3, [105, 99, 111, 110, 115, 116, 95, 48], []),
  (4, [105, 99, 111, 110, 115, 116, 95, 49], []),
  (5, [105, 99, 111, 110, 115, 116, 95, 50], []),
  (6, [105, 99, 111, 110, 115, 116, 95, 51], []),
  (7, [105, 99, 111, 110, 115, 116, 95, 52], []),
  (8, [105, 99, 111, 110, 115, 116, 95, 53], []),
  (16, [98, 105, 112, 117, 115, 104], [98]),
  (17, [115, 105, 112, 117, 115, 104], [115]),
  (18, [108, 100, 99], [117]),
  (21, [105, 108, 111, 97, 100], [117]),
  (25, [97, 108, 111, 97, 100], [117]),
  (26, [105, 108, 111, 97, 100, 95, 48], []),
  (27, [105, 108, 111, 97, 100, 95, 49], []),
  (28, [105, 108, 111, 97, 100, 95, 50], []),
  (29, [105, 108, 111, 97, 100, 95, 51], []),
  (42, [97, 108, 111, 97, 100, 95, 48], []),
  (43, [97, 108, 111, 97, 100, 95, 49], []),
  (44, [97, 108, 111, 97, 100, 95, 50], []),
  (45, [97, 108, 111, 97, 100, 95, 51], []),
  (54, [105, 115, 116, 111, 114, 101], [117]),
  (58, [97, 115, 116, 111, 114, 101], [117]),
  (59, [105, 115, 116, 111, 114, 101, 95, 48], []),
  (60, [105, 115, 116, 111, 114, 101, 95, 49], []),
  (61, [105, 115, 116, 111, 114, 101, 95, 50], []),
  (62, [105, 115, 116, 111, 114, 101, 95, 51], []),
  (75, [97, 115, 116, 111, 114, 101, 95, 48], []),
  (76, [97, 115, 116, 111, 114, 101, 95, 49], []),
  (77, [97, 115, 116, 111, 114, 101, 95, 50], []),
  (78, [97, 115, 116, 111, 114, 101, 95, 51], []),
  (87, [112, 111, 112], []),
  (89, [100, 117, 112], []),
  (95, [115, 119, 97, 112], []),
  (96, [105, 97, 100, 100], []),
  (100, [105, 115, 117, 98], []),
  (104, [105, 109, 117, 108], []),
  (108, [105, 100, 105, 118], []),
  (112, [105, 114, 101, 109], []),
  (116, [105, 110, 101, 103], []),
  (120, [105, 115, 104, 108], []),
  (122, [105, 115, 104, 114], []),
  (124, [105, 117, 115, 104, 114], []),
  (126, [105, 97, 110, 100], []),
  (128, [105, 111, 114], []),
  (130, [105, 120, 111, 114], []),
  (132, [105, 105, 110, 99], [117, 98]),
  (145, [105, 50, 98], []),
  (146, [105, 50, 99], []),
  (147, [105, 50, 115], []),
  (153, [105, 102, 101, 113], [106]),
  (154, [105, 102, 110, 101], [106]),
  (155, [105, 102, 108, 116], [106]),
  (156, [105, 102, 103, 101], [106]),
  (157, [105, 102, 103, 116], [106]),
  (158, [105, 102, 108, 101], [106]),
  (159, [105, 102, 95, 105, 99, 109, 112, 101, 113], [106]),
  (160, [105, 102, 95, 105, 99, 109, 112, 110, 101], [106]),
  (161, [105, 102, 95, 105, 99, 109, 112, 108, 116], [106]),
  (162, [105, 102, 95, 105, 99, 109, 112, 103, 101], [106]),
  (163, [105, 102, 95, 105, 99, 109, 112, 103, 116], [106]),
  (164, [105, 102, 95, 105, 99, 109, 112, 108, 101], [106]),
  (165, [105, 102, 95, 97, 99, 109, 112, 101, 113], [106]),
  (166, [105, 102, 95, 97, 99, 109, 112, 110, 101], [106]),
  (167, [103, 111, 116, 111], [106]),
  (172, [105, 114, 101, 116, 117, 114, 110], []),
  (176, [97, 114, 101, 116, 117, 114, 110], []),
  (177, [114, 101, 116, 117, 114, 110], []),
  (178, [103, 101, 116, 115, 116, 97, 116, 105, 99], [102]),
  (179, [112, 117, 116, 115, 116, 97, 116, 105, 99], [102]),
  (180, [103, 101, 116, 102, 105, 101, 108, 100], [102]),
  (181, [112, 117, 116, 102, 105, 101, 108, 100], [102]),
  (182, [105, 110, 118, 111, 107, 101, 118, 105, 114, 116, 117, 97, 108], [109]),
  (183, [105, 110, 118, 111, 107, 101, 115, 112, 101, 99, 105, 97, 108], [109]),
  (184, [105, 110, 118, 111, 107, 101, 115, 116, 97, 116, 105, 99], [109]),
  (185, [105, 110, 118, 111, 107, 101, 105, 110, 116, 101, 114, 102, 97, 99, 101], [105]),
  (187, [110, 101, 119], [99]),
  (191, [97, 116, 104, 114, 111, 119], []),
  (192, [99, 104, 101, 99, 107, 99, 97, 115, 116], [99]),
  (193, [105, 110, 115, 116, 97, 110, 99, 101, 111, 102], [99]),
  (198, [105, 102, 110, 117, 108, 108], [106]),
  (199, [105, 102, 110, 111, 110, 110, 117, 108, 108], [106])]
def rowOf (c : Int) : List UInt8 × List UInt8 :=
  match rowL.find? (fun r => r.1 == c) with
  | some r => r.2
  | none => ([], [])
theorem rowOf_none {c : Int} (h : ∀ r ∈ rowL, r.1 ≠ c) : rowOf c = ([], []) := by
  have : rowL.find? (fun r => r.1 == c) = none := by
    rw [List.find?_eq_none]
    intro r hr
    simpa using h r hr
  unfold rowOf
  rw [this]
def rowAt (k : Nat) : Int × List UInt8 × List UInt8 := rowL.getD k (0, [], [])
theorem rowOf_at {c : Int} {k : Nat} (hk : k < 83) (h : (rowAt k).1 = c) (hn : ∀ j, j < k → (rowAt j).1 ≠ c) : rowOf c = (rowAt k).2 := by
  have hl : rowL.length = 83 := rfl
  have e : ∀ j (hj : j < 83), rowAt j = rowL[j]'(by omega) := fun j hj => by
    unfold rowAt
    rw [List.getD_eq_getElem?_getD, List.getElem?_eq_getElem (by omega)]
    rfl
  have : rowL.find? (fun r => r.1 == c) = some (rowAt k) := by
    rw [List.find?_eq_some_iff_getElem]
    refine ⟨by simp [h], k, by omega, (e k hk).symm, fun j hj => ?_⟩
    rw [← e j (by omega)]
    simpa using hn j hj
  unfold rowOf
  rw [this]
theorem rowOf_end {c : Int} (hn : ∀ j, j < 83 → (rowAt j).1 ≠ c) : rowOf c = ([], []) := by
  apply rowOf_none
  intro r hr
  obtain ⟨j, hj, rfl⟩ := List.mem_iff_getElem.1 hr
  have hl : rowL.length = 83 := rfl
  have := hn j (by omega)
  unfold rowAt at this
  rw [List.getD_eq_getElem?_getD, List.getElem?_eq_getElem hj] at this
  exact this
/-- The code of a name; -1: there is none. -/
def codeOf (s : List UInt8) : Int :=
  match rowL.find? (fun r => r.2.1 == s) with
  | some r => r.1
  | none => -1
theorem codeOf_at {s : List UInt8} {k : Nat} (hk : k < 83) (h : (rowAt k).2.1 = s) (hn : ∀ j, j < k → (rowAt j).2.1 ≠ s) : codeOf s = (rowAt k).1 := by
  have hl : rowL.length = 83 := rfl
  have e : ∀ j (hj : j < 83), rowAt j = rowL[j]'(by omega) := fun j hj => by
    unfold rowAt
    rw [List.getD_eq_getElem?_getD, List.getElem?_eq_getElem (by omega)]
    rfl
  have : rowL.find? (fun r => r.2.1 == s) = some (rowAt k) := by
    rw [List.find?_eq_some_iff_getElem]
    refine ⟨by simp [h], k, by omega, (e k hk).symm, fun j hj => ?_⟩
    rw [← e j (by omega)]
    simpa using hn j hj
  unfold codeOf
  rw [this]
theorem codeOf_end {s : List UInt8} (hn : ∀ j, j < 83 → (rowAt j).2.1 ≠ s) : codeOf s = -1 := by
  have : rowL.find? (fun r => r.2.1 == s) = none := by
    rw [List.find?_eq_none]
    intro r hr
    obtain ⟨j, hj, rfl⟩ := List.mem_iff_getElem.1 hr
    have hl : rowL.length = 83 := rfl
    have := hn j (by omega)
    unfold rowAt at this
    rw [List.getD_eq_getElem?_getD, List.getElem?_eq_getElem hj] at this
    simpa using this
  unfold codeOf
  rw [this]
theorem rowOf_0 : rowOf 0 = ([110, 111, 112], []) := by rfl
theorem rowOf_1 : rowOf 1 = ([97, 99, 111, 110, 115, 116, 95, 110, 117, 108, 108], []) := by rfl
theorem rowOf_2 : rowOf 2 = ([105, 99, 111, 110, 115, 116, 95, 109, 49], []) := by rfl
theorem rowOf_3 : rowOf 3 = ([105, 99, 111, 110, 115, 116, 95, 48], []) := by rfl
theorem rowOf_4 : rowOf 4 = ([105, 99, 111, 110, 115, 116, 95, 49], []) := by rfl
theorem rowOf_5 : rowOf 5 = ([105, 99, 111, 110, 115, 116, 95, 50], []) := by rfl
theorem rowOf_6 : rowOf 6 = ([105, 99, 111, 110, 115, 116, 95, 51], []) := by rfl
theorem rowOf_7 : rowOf 7 = ([105, 99, 111, 110, 115, 116, 95, 52], []) := by rfl
theorem rowOf_8 : rowOf 8 = ([105, 99, 111, 110, 115, 116, 95, 53], []) := by rfl
theorem rowOf_16 : rowOf 16 = ([98, 105, 112, 117, 115, 104], [98]) := by rfl
theorem rowOf_17 : rowOf 17 = ([115, 105, 112, 117, 115, 104], [115]) := by rfl
theorem rowOf_18 : rowOf 18 = ([108, 100, 99], [117]) := by rfl
theorem rowOf_21 : rowOf 21 = ([105, 108, 111, 97, 100], [117]) := by rfl
theorem rowOf_25 : rowOf 25 = ([97, 108, 111, 97, 100], [117]) := by rfl
theorem rowOf_26 : rowOf 26 = ([105, 108, 111, 97, 100, 95, 48], []) := by rfl
theorem rowOf_27 : rowOf 27 = ([105, 108, 111, 97, 100, 95, 49], []) := by rfl
theorem rowOf_28 : rowOf 28 = ([105, 108, 111, 97, 100, 95, 50], []) := by rfl
theorem rowOf_29 : rowOf 29 = ([105, 108, 111, 97, 100, 95, 51], []) := by rfl
theorem rowOf_42 : rowOf 42 = ([97, 108, 111, 97, 100, 95, 48], []) := by rfl
theorem rowOf_43 : rowOf 43 = ([97, 108, 111, 97, 100, 95, 49], []) := by rfl
theorem rowOf_44 : rowOf 44 = ([97, 108, 111, 97, 100, 95, 50], []) := by rfl
theorem rowOf_45 : rowOf 45 = ([97, 108, 111, 97, 100, 95, 51], []) := by rfl
theorem rowOf_54 : rowOf 54 = ([105, 115, 116, 111, 114, 101], [117]) := by rfl
theorem rowOf_58 : rowOf 58 = ([97, 115, 116, 111, 114, 101], [117]) := by rfl
theorem rowOf_59 : rowOf 59 = ([105, 115, 116, 111, 114, 101, 95, 48], []) := by rfl
theorem rowOf_60 : rowOf 60 = ([105, 115, 116, 111, 114, 101, 95, 49], []) := by rfl
theorem rowOf_61 : rowOf 61 = ([105, 115, 116, 111, 114, 101, 95, 50], []) := by rfl
theorem rowOf_62 : rowOf 62 = ([105, 115, 116, 111, 114, 101, 95, 51], []) := by rfl
theorem rowOf_75 : rowOf 75 = ([97, 115, 116, 111, 114, 101, 95, 48], []) := by rfl
theorem rowOf_76 : rowOf 76 = ([97, 115, 116, 111, 114, 101, 95, 49], []) := by rfl
theorem rowOf_77 : rowOf 77 = ([97, 115, 116, 111, 114, 101, 95, 50], []) := by rfl
theorem rowOf_78 : rowOf 78 = ([97, 115, 116, 111, 114, 101, 95, 51], []) := by rfl
theorem rowOf_87 : rowOf 87 = ([112, 111, 112], []) := by rfl
theorem rowOf_89 : rowOf 89 = ([100, 117, 112], []) := by rfl
theorem rowOf_95 : rowOf 95 = ([115, 119, 97, 112], []) := by rfl
theorem rowOf_96 : rowOf 96 = ([105, 97, 100, 100], []) := by rfl
theorem rowOf_100 : rowOf 100 = ([105, 115, 117, 98], []) := by rfl
theorem rowOf_104 : rowOf 104 = ([105, 109, 117, 108], []) := by rfl
theorem rowOf_108 : rowOf 108 = ([105, 100, 105, 118], []) := by rfl
theorem rowOf_112 : rowOf 112 = ([105, 114, 101, 109], []) := by rfl
theorem rowOf_116 : rowOf 116 = ([105, 110, 101, 103], []) := by rfl
theorem rowOf_120 : rowOf 120 = ([105, 115, 104, 108], []) := by rfl
theorem rowOf_122 : rowOf 122 = ([105, 115, 104, 114], []) := by rfl
theorem rowOf_124 : rowOf 124 = ([105, 117, 115, 104, 114], []) := by rfl
theorem rowOf_126 : rowOf 126 = ([105, 97, 110, 100], []) := by rfl
theorem rowOf_128 : rowOf 128 = ([105, 111, 114], []) := by rfl
theorem rowOf_130 : rowOf 130 = ([105, 120, 111, 114], []) := by rfl
theorem rowOf_132 : rowOf 132 = ([105, 105, 110, 99], [117, 98]) := by rfl
theorem rowOf_145 : rowOf 145 = ([105, 50, 98], []) := by rfl
theorem rowOf_146 : rowOf 146 = ([105, 50, 99], []) := by rfl
theorem rowOf_147 : rowOf 147 = ([105, 50, 115], []) := by rfl
theorem rowOf_153 : rowOf 153 = ([105, 102, 101, 113], [106]) := by rfl
theorem rowOf_154 : rowOf 154 = ([105, 102, 110, 101], [106]) := by rfl
theorem rowOf_155 : rowOf 155 = ([105, 102, 108, 116], [106]) := by rfl
theorem rowOf_156 : rowOf 156 = ([105, 102, 103, 101], [106]) := by rfl
theorem rowOf_157 : rowOf 157 = ([105, 102, 103, 116], [106]) := by rfl
theorem rowOf_158 : rowOf 158 = ([105, 102, 108, 101], [106]) := by rfl
theorem rowOf_159 : rowOf 159 = ([105, 102, 95, 105, 99, 109, 112, 101, 113], [106]) := by rfl
theorem rowOf_160 : rowOf 160 = ([105, 102, 95, 105, 99, 109, 112, 110, 101], [106]) := by rfl
theorem rowOf_161 : rowOf 161 = ([105, 102, 95, 105, 99, 109, 112, 108, 116], [106]) := by rfl
theorem rowOf_162 : rowOf 162 = ([105, 102, 95, 105, 99, 109, 112, 103, 101], [106]) := by rfl
theorem rowOf_163 : rowOf 163 = ([105, 102, 95, 105, 99, 109, 112, 103, 116], [106]) := by rfl
theorem rowOf_164 : rowOf 164 = ([105, 102, 95, 105, 99, 109, 112, 108, 101], [106]) := by rfl
theorem rowOf_165 : rowOf 165 = ([105, 102, 95, 97, 99, 109, 112, 101, 113], [106]) := by rfl
theorem rowOf_166 : rowOf 166 = ([105, 102, 95, 97, 99, 109, 112, 110, 101], [106]) := by rfl
theorem rowOf_167 : rowOf 167 = ([103, 111, 116, 111], [106]) := by rfl
theorem rowOf_172 : rowOf 172 = ([105, 114, 101, 116, 117, 114, 110], []) := by rfl
theorem rowOf_176 : rowOf 176 = ([97, 114, 101, 116, 117, 114, 110], []) := by rfl
theorem rowOf_177 : rowOf 177 = ([114, 101, 116, 117, 114, 110], []) := by rfl
theorem rowOf_178 : rowOf 178 = ([103, 101, 116, 115, 116, 97, 116, 105, 99], [102]) := by rfl
theorem rowOf_179 : rowOf 179 = ([112, 117, 116, 115, 116, 97, 116, 105, 99], [102]) := by rfl
theorem rowOf_180 : rowOf 180 = ([103, 101, 116, 102, 105, 101, 108, 100], [102]) := by rfl
theorem rowOf_181 : rowOf 181 = ([112, 117, 116, 102, 105, 101, 108, 100], [102]) := by rfl
theorem rowOf_182 : rowOf 182 = ([105, 110, 118, 111, 107, 101, 118, 105, 114, 116, 117, 97, 108], [109]) := by rfl
theorem rowOf_183 : rowOf 183 = ([105, 110, 118, 111, 107, 101, 115, 112, 101, 99, 105, 97, 108], [109]) := by rfl
theorem rowOf_184 : rowOf 184 = ([105, 110, 118, 111, 107, 101, 115, 116, 97, 116, 105, 99], [109]) := by rfl
theorem rowOf_185 : rowOf 185 = ([105, 110, 118, 111, 107, 101, 105, 110, 116, 101, 114, 102, 97, 99, 101], [105]) := by rfl
theorem rowOf_187 : rowOf 187 = ([110, 101, 119], [99]) := by rfl
theorem rowOf_191 : rowOf 191 = ([97, 116, 104, 114, 111, 119], []) := by rfl
theorem rowOf_192 : rowOf 192 = ([99, 104, 101, 99, 107, 99, 97, 115, 116], [99]) := by rfl
theorem rowOf_193 : rowOf 193 = ([105, 110, 115, 116, 97, 110, 99, 101, 111, 102], [99]) := by rfl
theorem rowOf_198 : rowOf 198 = ([105, 102, 110, 117, 108, 108], [106]) := by rfl
theorem rowOf_199 : rowOf 199 = ([105, 102, 110, 111, 110, 110, 117, 108, 108], [106]) := by rfl
end Go.Proofs.Ytgicbgeblgfnfaa
