/-
  The law's classes of LoadNames: what loading them answers, in plain Lean.
-/
import Derived.Test.YtdbniocnjhfhdaaGreatDoorB25
import Derived.Test.YtdbniocnjhfhdaaGreatDoorB23
set_option linter.unusedSimpArgs false
set_option linter.unusedVariables false
set_option maxRecDepth 100000
namespace Go.Proofs.YtdbniocnjhfhdaaGreatDoor
open Go Go.RowKit Lib
/-- Constants of tags 1, 3 and 7 alone, no member. -/
structure Sev (c : ClassV) : Prop where
  n1 : Fine c.this
  n2 : Fine c.sup
  hf : ∀ k ∈ c.pool, Fine k.a
  hfi : ∀ n ∈ c.ifs, Fine n
  hft : ∀ k ∈ c.pool, k.text.size ≤ 65536
  htag : ∀ k ∈ c.pool, k.tag = 1 ∨ k.tag = 3 ∨ k.tag = 7
  hil : c.ifs.length ≤ 64
  hfl : c.flds = []
  hml : c.mths = []
  small : (outT c).sup.size ≤ 65536 ∧ (outT c).name.size ≤ 65536 ∧ (outT c).ifs.length ≤ 64 ∧ ∀ i ∈ (outT c).ifs, i.size ≤ 65536
theorem ldK_sev (defs : List UInt8 → Option (List UInt8)) (dn : List (List UInt8)) (hd : ∀ s l, defs s = some l → s ∈ dn) (hc : dn.length ≤ 64)
    (hb : ∀ s l, defs s = some l → ∀ c, readP l = .ok c → Sev c) : LdK checkB defs dn where
  dom := hd
  cnt := hc
  out := fun s l hs c hr p i f m ok W h => by
    have v := hb s l hs c hr
    exact outline_plain c p i f m ok W h v.n1 v.n2 v.hf v.hfi v.hft v.htag v.hil v.hfl v.hml
  small := fun s l c hs hr => (hb s l hs c hr).small
def bareM (major acc : Int) (n s : List UInt8) : ClassV := ⟨0, major, bareP n s, acc, 2, 4, [], [], []⟩
theorem sev_bare (major acc : Int) (n s : List UInt8) (h1 : n.length ≤ 1000) (h2 : s.length ≤ 1000) : Sev (bareM major acc n s) where
  n1 := by unfold Fine; simp [bareM]
  n2 := by unfold Fine; simp [bareM]
  hf := by
    intro k hk
    simp only [bareM, bareP, List.mem_cons, List.not_mem_nil, or_false] at hk
    rcases hk with rfl | rfl | rfl | rfl <;> (unfold Fine; simp)
  hfi := by simp [bareM]
  hft := by
    intro k hk
    simp only [bareM, bareP, List.mem_cons, List.not_mem_nil, or_false] at hk
    rcases hk with rfl | rfl | rfl | rfl <;> simp [ByteArray.size] <;> omega
  htag := by
    intro k hk
    simp only [bareM, bareP, List.mem_cons, List.not_mem_nil, or_false] at hk
    rcases hk with rfl | rfl | rfl | rfl <;> simp
  hil := by simp [bareM]
  hfl := rfl
  hml := rfl
  small := by
    have e1 : (outT (bareM major acc n s)).sup = ⟨s.toArray⟩ := by kernel_rfl
    have e2 : (outT (bareM major acc n s)).name = ⟨n.toArray⟩ := by kernel_rfl
    have e3 : (outT (bareM major acc n s)).ifs = [] := by kernel_rfl
    rw [e1, e2, e3]
    refine ⟨?_, ?_, by simp, by simp⟩
    · show s.toArray.size ≤ 65536
      rw [List.size_toArray]
      omega
    · show n.toArray.size ≤ 65536
      rw [List.size_toArray]
      omega
def aL : List UInt8 := [65]
def bL : List UInt8 := [66]
def qL : List UInt8 := [113, 47, 66]
def taskL : List UInt8 := [118, 109, 47, 84, 97, 115, 107]
def objL : List UInt8 := [106, 97, 118, 97, 47, 108, 97, 110, 103, 47, 79, 98, 106, 101, 99, 116]
/-- The bytes that stand for A. -/
def nameL : Nat → List UInt8
  | 1 => bareL bL objL
  | 2 => (bareL aL objL).set 7 53
  | 3 => (bareL aL objL).take 52
  | 4 => bareL aL taskL
  | 5 => bareL aL qL
  | _ => bareL aL objL
def qbL : List UInt8 := (bareL qL objL).set 42 32
def noDefs : List UInt8 → Option (List UInt8) := fun _ => none
def nameDefs (k : Nat) : List UInt8 → Option (List UInt8) := if k = 5 then putL (putL noDefs qL qbL) aL (nameL 5) else putL noDefs aL (nameL k)
def nameWant : Nat → Option ByteArray
  | 1 => some noDefB
  | 2 => some versB
  | 3 => some formB
  | 4 => some incoB
  | 5 => some illeB
  | _ => none
def core1 : LT := ⟨coreKeys, fun _ => none⟩
def aB : ByteArray := ⟨#[65]⟩
theorem rd1 : readP (nameL 1) = .ok (bareC bL objL) := read_bare _ _ (by decide) (by decide)
theorem rd2 : readP (nameL 2) = .ok (bareM 53 33 aL objL) := by kernel_rfl
theorem rd3 : ∃ e, readP (nameL 3) = .error e := by
  rcases h : readP (nameL 3) with e | c
  · exact ⟨e, rfl⟩
  · exfalso
    have : (match readP (nameL 3) with | .error _ => true | .ok _ => false) = true := by kernel_rfl
    rw [h] at this
    cases this
theorem rd4 : readP (nameL 4) = .ok (bareC aL taskL) := read_bare _ _ (by decide) (by decide)
theorem rd5 : readP (nameL 5) = .ok (bareC aL qL) := read_bare _ _ (by decide) (by decide)
theorem rd0 : readP (nameL 0) = .ok (bareC aL objL) := read_bare _ _ (by decide) (by decide)
theorem rdq : readP qbL = .ok (bareM 52 32 qL objL) := by kernel_rfl
theorem name_load : ∀ k, k < 6 → (loadP (rdD checkB (nameDefs k)) 65 [] core1 aB).1 = nameWant k ∧ ((loadP (rdD checkB (nameDefs k)) 65 [] core1 aB).2.files aL).isSome = decide (k = 0) := by decide +kernel
end Go.Proofs.YtdbniocnjhfhdaaGreatDoor
