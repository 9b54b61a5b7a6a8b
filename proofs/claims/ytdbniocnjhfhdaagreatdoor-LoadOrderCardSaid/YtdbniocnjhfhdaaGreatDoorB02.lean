/-
  What the loader's laws rest on, part 2: walks of the program's functions and plain laws. Conditions: none but those that each theorem names.
-/
import Derived.Test.YtdbniocnjhfhdaaGreatDoorB01
import Derived.Test.YtdbniocnjhfhdaaGreatDoorB00
import Derived.Deep.WholeRow

set_option linter.unusedSimpArgs false
set_option linter.unusedVariables false
set_option maxRecDepth 100000
set_option maxHeartbeats 1000000
namespace Go.Proofs.YtdbniocnjhfhdaaGreatDoor
open Go Go.RowKit Lib
theorem named4 (g cap : Nat) (n s q : ByteArray) (hn : n.size ≤ 1000) (hs : s.size ≤ 1000) (hcap : 4 ≤ cap) (w : World) (hp : PoolAt w g (four n s)) (hg : g < w.heap.size) :
    Calls Tryz.prog 54 #[.agg #[.int .i64 0, .int .i64 52, .slice (some ⟨g, 0, none⟩) 4 cap, .int .i64 33, .int .i64 2, .int .i64 4, .slice none 0 0, .slice none 0 0, .slice none 0 0], .string q] w fun e w' => ∃ i : Int, e = .returned (.int .i64 i) ∧ Below w.heap.size w w' := by
  have HP := Lib.hid hp
  clear hp
  obtain ⟨x1, x2, x3, x4, x5, x6, x7, x8, x9, x10, x11, x12⟩ := far g w.heap.size hg
  have HB := Lib.hid ((Below.refl w.heap.size w).alloc (Nat.le_refl _) (.cells #[.int .i64 0, .int .i64 52, .slice (some ⟨g, 0, none⟩) 4 cap, .int .i64 33, .int .i64 2, .int .i64 4, .slice none 0 0, .slice none 0 0, .slice none 0 0] 58))
  go_enter Tryz.func54, Tryz.ntmps54
  go_wp2_with fail
  go_loop [5] (fun i => ∃ k : Nat, k ≤ 4 ∧ i = .int .i64 k) (fun i => 4 - (RowKit.intOf i).toNat)
  case atStart => exact ⟨0, by omega, rfl⟩
  case round =>
    obtain ⟨k, hk, rfl⟩ := hrel
    by_cases hlt : k < 4
    · obtain ⟨v, hv⟩ : ∃ v, (four n s)[k]? = some v := ⟨_, List.getElem?_eq_getElem (by simpa [four] using hlt)⟩
      have hf := four_fair hn hs hv
      obtain ⟨c0, c1, _, _, _⟩ := HP.out k v hv
      clear hv
      rcases hf with ⟨t, ht, rfl⟩ | ⟨a, ha0, ha1, rfl⟩
      · cases hq : (t.toList == q.toList) with
        | true =>
          go_wp2
          go_ret
          exact ⟨⟨_, rfl⟩, HB.out⟩
        | false =>
          go_wp2
          go_round
          case rel => exact ⟨k + 1, by omega, by go_num⟩
          case measure => simp [RowKit.intOf]; omega
      · go_wp2
        go_round
        case rel => exact ⟨k + 1, by omega, by go_num⟩
        case measure => simp [RowKit.intOf]; omega
    · go_wp2
      go_ret
      exact ⟨⟨_, rfl⟩, HB.out⟩
end Go.Proofs.YtdbniocnjhfhdaaGreatDoor

set_option linter.unusedSimpArgs false
set_option linter.unusedVariables false
set_option maxRecDepth 100000
set_option maxHeartbeats 1000000
namespace Go.Proofs.YtdbniocnjhfhdaaGreatDoor
open Go Go.RowKit Lib
theorem low_of_but {B g : Nat} {w w' : World} (h : But w.heap.size [g] w w') (hB : B ≤ w.heap.size) (hg : B ≤ g) : Below B w w' :=
  (h.mono (S' := []) hB (fun k hk hm => by simp at hm; omega)).below
theorem own_ge {w : World} {B g n cap : Nat} {e : TypeId} {xs : List Value} (h : w.ownsRow B e 1 (.slice (some ⟨g, 0, none⟩) n cap) n xs) : B ≤ g ∧ g < w.heap.size := h.lt g rfl
theorem two_new (B g n cap : Nat) (xs : List Value) (L : List Int) (m N : Nat) (hN : N = n + 2 * m) (w : World) (ho : w.ownsRow B 5 1 (.slice (some ⟨g, 0, none⟩) n cap) n xs) (hB : B ≤ w.heap.size) (h0 : 0 < n) (hn : n ≤ 100000) (hL : L.length = m) (hm : m ≤ 1000) :
    Calls Tryz.prog 52 #[.slice (some ⟨g, 0, none⟩) n cap, .slice (some ⟨w.heap.size, 0, none⟩) m m] (w.alloc (.cells (L.map (Value.int .i64)).toArray 3)) fun e w' => ∃ g' cap', e = .returned (.slice (some ⟨g', 0, none⟩) N cap') ∧
      w'.ownsRow B 5 1 (.slice (some ⟨g', 0, none⟩) N cap') N (xs ++ L.flatMap twoV) ∧ Below B w w' := by
  subst hN
  have hg := own_ge ho
  refine (two_any B g n cap xs w.heap.size 0 m m L _ (ho.alloc _) (by simp; omega) h0 hn hL hm (Nat.le_refl _) (fun j v hj => by
    have h := cells_new w (L.map (Value.int .i64)) 3 j (.int .i64 v) (by rw [List.getElem?_map, hj]; rfl)
    rw [add_cell] at h
    exact h) (by simp) (by omega)).mono ?_
  rintro e w' ⟨g', c', rfl, ho', hb, hg'⟩
  exact ⟨g', c', rfl, ho', ((Below.refl B w).alloc hB _).trans (low_of_but hb (by simp; omega) hg.1)⟩
theorem two_nothing (g n cap : Nat) (w : World) :
    Calls Tryz.prog 52 #[.slice (some ⟨g, 0, none⟩) n cap, .slice none 0 0] w fun e w' => e = .returned (.slice (some ⟨g, 0, none⟩) n cap) ∧ w = w' := by
  go_enter Tryz.func52, Tryz.ntmps52
  go_wp2_with fail
  refine wp_loop_rounds 1 ?_
  rw [rounds_succ]
  go_wp2_with fail
  go_ret
  exact ⟨rfl, rfl⟩
theorem class_low (B g n cap : Nat) (xs : List Value) (a : Int) (N : Nat) (hN : N = n + 3) (w : World) (ho : w.ownsRow B 5 1 (.slice (some ⟨g, 0, none⟩) n cap) n xs) (hB : B ≤ w.heap.size) (h0 : 0 < n) (hn : n ≤ 90000) :
    Calls Tryz.prog 53 #[.slice (some ⟨g, 0, none⟩) n cap, .agg #[.int .i64 7, .string ⟨#[]⟩, .int .i64 0, .int .i64 a, .int .i64 0]] w fun e w' => ∃ g' cap', e = .returned (.slice (some ⟨g', 0, none⟩) N cap') ∧
      w'.ownsRow B 5 1 (.slice (some ⟨g', 0, none⟩) N cap') N (xs ++ ([.int .u8 7] ++ twoV a)) ∧ Below B w w' := by
  subst hN
  have hg := own_ge ho
  refine (const_class B g n cap xs a w ho hB h0 hn).mono ?_
  rintro e w' ⟨g', c', rfl, ho', hb, hg'⟩
  exact ⟨g', c', rfl, ho', low_of_but hb hB hg.1⟩
theorem text_low (B g n cap : Nat) (xs : List Value) (s : ByteArray) (N : Nat) (hN : N = n + 3 + s.size) (w : World) (ho : w.ownsRow B 5 1 (.slice (some ⟨g, 0, none⟩) n cap) n xs) (hB : B ≤ w.heap.size) (h0 : 0 < n) (hn : n ≤ 90000) (hs : s.size ≤ 1000) :
    Calls Tryz.prog 53 #[.slice (some ⟨g, 0, none⟩) n cap, .agg #[.int .i64 1, .string s, .int .i64 0, .int .i64 0, .int .i64 0]] w fun e w' => ∃ g' cap', e = .returned (.slice (some ⟨g', 0, none⟩) N cap') ∧
      w'.ownsRow B 5 1 (.slice (some ⟨g', 0, none⟩) N cap') N (xs ++ ([.int .u8 1] ++ twoV s.size ++ strCells s)) ∧ Below B w w' := by
  subst hN
  have hg := own_ge ho
  refine (const_text B g n cap xs s w ho hB h0 hn hs).mono ?_
  rintro e w' ⟨g', c', rfl, ho', hb, hg'⟩
  exact ⟨g', c', rfl, ho', low_of_but hb hB hg.1⟩
end Go.Proofs.YtdbniocnjhfhdaaGreatDoor

set_option linter.unusedSimpArgs false
set_option linter.unusedVariables false
set_option maxRecDepth 100000
set_option maxHeartbeats 1000000
namespace Go.Proofs.YtdbniocnjhfhdaaGreatDoor
open Go Go.RowKit Lib
def coreL : List (List UInt8 × List UInt8) := [
  ([79, 98, 106, 101, 99, 116], []),
  ([84, 104, 114, 111, 119, 97, 98, 108, 101], [79, 98, 106, 101, 99, 116]),
  ([69, 120, 99, 101, 112, 116, 105, 111, 110], [84, 104, 114, 111, 119, 97, 98, 108, 101]),
  ([82, 117, 110, 116, 105, 109, 101, 69, 120, 99, 101, 112, 116, 105, 111, 110], [69, 120, 99, 101, 112, 116, 105, 111, 110]),
  ([69, 114, 114, 111, 114], [84, 104, 114, 111, 119, 97, 98, 108, 101]),
  ([76, 105, 110, 107, 97, 103, 101, 69, 114, 114, 111, 114], [69, 114, 114, 111, 114]),
  ([86, 105, 114, 116, 117, 97, 108, 77, 97, 99, 104, 105, 110, 101, 69, 114, 114, 111, 114], [69, 114, 114, 111, 114]),
  ([78, 111, 67, 108, 97, 115, 115, 68, 101, 102, 70, 111, 117, 110, 100, 69, 114, 114, 111, 114], [76, 105, 110, 107, 97, 103, 101, 69, 114, 114, 111, 114]),
  ([67, 108, 97, 115, 115, 70, 111, 114, 109, 97, 116, 69, 114, 114, 111, 114], [76, 105, 110, 107, 97, 103, 101, 69, 114, 114, 111, 114]),
  ([85, 110, 115, 117, 112, 112, 111, 114, 116, 101, 100, 67, 108, 97, 115, 115, 86, 101, 114, 115, 105, 111, 110, 69, 114, 114, 111, 114], [67, 108, 97, 115, 115, 70, 111, 114, 109, 97, 116, 69, 114, 114, 111, 114]),
  ([67, 108, 97, 115, 115, 67, 105, 114, 99, 117, 108, 97, 114, 105, 116, 121, 69, 114, 114, 111, 114], [76, 105, 110, 107, 97, 103, 101, 69, 114, 114, 111, 114]),
  ([86, 101, 114, 105, 102, 121, 69, 114, 114, 111, 114], [76, 105, 110, 107, 97, 103, 101, 69, 114, 114, 111, 114]),
  ([69, 120, 99, 101, 112, 116, 105, 111, 110, 73, 110, 73, 110, 105, 116, 105, 97, 108, 105, 122, 101, 114, 69, 114, 114, 111, 114], [76, 105, 110, 107, 97, 103, 101, 69, 114, 114, 111, 114]),
  ([73, 110, 99, 111, 109, 112, 97, 116, 105, 98, 108, 101, 67, 108, 97, 115, 115, 67, 104, 97, 110, 103, 101, 69, 114, 114, 111, 114], [76, 105, 110, 107, 97, 103, 101, 69, 114, 114, 111, 114]),
  ([78, 111, 83, 117, 99, 104, 70, 105, 101, 108, 100, 69, 114, 114, 111, 114], [73, 110, 99, 111, 109, 112, 97, 116, 105, 98, 108, 101, 67, 108, 97, 115, 115, 67, 104, 97, 110, 103, 101, 69, 114, 114, 111, 114]),
  ([78, 111, 83, 117, 99, 104, 77, 101, 116, 104, 111, 100, 69, 114, 114, 111, 114], [73, 110, 99, 111, 109, 112, 97, 116, 105, 98, 108, 101, 67, 108, 97, 115, 115, 67, 104, 97, 110, 103, 101, 69, 114, 114, 111, 114]),
  ([65, 98, 115, 116, 114, 97, 99, 116, 77, 101, 116, 104, 111, 100, 69, 114, 114, 111, 114], [73, 110, 99, 111, 109, 112, 97, 116, 105, 98, 108, 101, 67, 108, 97, 115, 115, 67, 104, 97, 110, 103, 101, 69, 114, 114, 111, 114]),
  ([73, 110, 115, 116, 97, 110, 116, 105, 97, 116, 105, 111, 110, 69, 114, 114, 111, 114], [73, 110, 99, 111, 109, 112, 97, 116, 105, 98, 108, 101, 67, 108, 97, 115, 115, 67, 104, 97, 110, 103, 101, 69, 114, 114, 111, 114]),
  ([73, 108, 108, 101, 103, 97, 108, 65, 99, 99, 101, 115, 115, 69, 114, 114, 111, 114], [73, 110, 99, 111, 109, 112, 97, 116, 105, 98, 108, 101, 67, 108, 97, 115, 115, 67, 104, 97, 110, 103, 101, 69, 114, 114, 111, 114]),
  ([79, 117, 116, 79, 102, 77, 101, 109, 111, 114, 121, 69, 114, 114, 111, 114], [86, 105, 114, 116, 117, 97, 108, 77, 97, 99, 104, 105, 110, 101, 69, 114, 114, 111, 114]),
  ([83, 116, 97, 99, 107, 79, 118, 101, 114, 102, 108, 111, 119, 69, 114, 114, 111, 114], [86, 105, 114, 116, 117, 97, 108, 77, 97, 99, 104, 105, 110, 101, 69, 114, 114, 111, 114]),
  ([78, 117, 108, 108, 80, 111, 105, 110, 116, 101, 114, 69, 120, 99, 101, 112, 116, 105, 111, 110], [82, 117, 110, 116, 105, 109, 101, 69, 120, 99, 101, 112, 116, 105, 111, 110]),
  ([65, 114, 105, 116, 104, 109, 101, 116, 105, 99, 69, 120, 99, 101, 112, 116, 105, 111, 110], [82, 117, 110, 116, 105, 109, 101, 69, 120, 99, 101, 112, 116, 105, 111, 110]),
  ([67, 108, 97, 115, 115, 67, 97, 115, 116, 69, 120, 99, 101, 112, 116, 105, 111, 110], [82, 117, 110, 116, 105, 109, 101, 69, 120, 99, 101, 112, 116, 105, 111, 110])]
def langL : List UInt8 := [106, 97, 118, 97, 47, 108, 97, 110, 103, 47]
def inLang (s : List UInt8) : List UInt8 := if s = [] then [] else langL ++ s
def pairCells : Array Value := (coreL.flatMap fun p => [Value.string ⟨p.1.toArray⟩, Value.string ⟨p.2.toArray⟩]).toArray
theorem wpList_part {P : Program} {ops : Array Oper} {Q : Exit → Act → World → Prop} : ∀ (l l2 : List Oper) (a : Act) (w : World) (a' : Act) (w' : World),
    runList P ops l a w = some (a', w') → wpList P ops Q l2 a' w' → wpList P ops Q (l ++ l2) a w
  | [], l2, a, w, a', w', h, hq => by
    simp only [runList, Option.some.injEq, Prod.mk.injEq] at h
    obtain ⟨rfl, rfl⟩ := h
    exact hq
  | o :: rest, l2, a, w, a', w', h, hq => by
    unfold runList at h
    show wpList P ops Q (o :: (rest ++ l2)) a w
    unfold wpList
    split at h
    · rename_i hw
      rw [if_pos hw]
      left
      unfold Oper.wp
      split at h
      · rename_i v w1 hr
        rw [hr]
        exact wpList_part rest l2 _ _ _ _ h hq
      · rename_i w1 hr
        rw [hr]
        exact wpList_part rest l2 _ _ _ _ h hq
      · cases h
    · rename_i hw
      rw [if_neg (by rw [hw]; decide)]
      exact wpList_part rest l2 _ _ _ _ h hq
theorem wpList_split {P : Program} {ops : Array Oper} {Q : Exit → Act → World → Prop} {l : List Oper} {a : Act} {w : World} (n : Nat) (a' : Act) (w' : World)
    (h : runList P ops (l.take n) a w = some (a', w')) (hq : wpList P ops Q (l.drop n) a' w') : wpList P ops Q l a w := by
  have := wpList_part (l.take n) (l.drop n) a w a' w' h hq
  rwa [List.take_append_drop] at this
theorem wpList_pure {P : Program} {ops : Array Oper} {Q : Exit → Act → World → Prop} {l : List Oper} {a : Act} {w : World} (n : Nat) (a' : Act)
    (h : runList P ops (l.take n) a w = some (a', w)) (hq : wpList P ops Q (l.drop n) a' w) : wpList P ops Q l a w := wpList_split n a' w h hq
theorem coreall_any (w : World) : Calls Tryz.prog 40 #[] w fun e w' => e = .returned (.agg pairCells) ∧ Below w.heap.size w w' := by
  go_enter Tryz.func40, Tryz.ntmps40
  go_wp2_with (first | (refine wpList_pure (l := { dst := some 1, op := _, type := _, pos := _, after := _, guard := _ } :: _) 25 { tmps := #[.pointer (some ⟨w.heap.size, 0, none⟩), .agg #[.string ⟨#[79, 98, 106, 101, 99, 116]⟩, .string ⟨#[]⟩], .agg #[.string ⟨#[84, 104, 114, 111, 119, 97, 98, 108, 101]⟩, .string ⟨#[79, 98, 106, 101, 99, 116]⟩], .agg #[.string ⟨#[69, 120, 99, 101, 112, 116, 105, 111, 110]⟩, .string ⟨#[84, 104, 114, 111, 119, 97, 98, 108, 101]⟩], .agg #[.string ⟨#[82, 117, 110, 116, 105, 109, 101, 69, 120, 99, 101, 112, 116, 105, 111, 110]⟩, .string ⟨#[69, 120, 99, 101, 112, 116, 105, 111, 110]⟩], .agg #[.string ⟨#[69, 114, 114, 111, 114]⟩, .string ⟨#[84, 104, 114, 111, 119, 97, 98, 108, 101]⟩], .agg #[.string ⟨#[76, 105, 110, 107, 97, 103, 101, 69, 114, 114, 111, 114]⟩, .string ⟨#[69, 114, 114, 111, 114]⟩], .agg #[.string ⟨#[86, 105, 114, 116, 117, 97, 108, 77, 97, 99, 104, 105, 110, 101, 69, 114, 114, 111, 114]⟩, .string ⟨#[69, 114, 114, 111, 114]⟩], .agg #[.string ⟨#[78, 111, 67, 108, 97, 115, 115, 68, 101, 102, 70, 111, 117, 110, 100, 69, 114, 114, 111, 114]⟩, .string ⟨#[76, 105, 110, 107, 97, 103, 101, 69, 114, 114, 111, 114]⟩], .agg #[.string ⟨#[67, 108, 97, 115, 115, 70, 111, 114, 109, 97, 116, 69, 114, 114, 111, 114]⟩, .string ⟨#[76, 105, 110, 107, 97, 103, 101, 69, 114, 114, 111, 114]⟩], .agg #[.string ⟨#[85, 110, 115, 117, 112, 112, 111, 114, 116, 101, 100, 67, 108, 97, 115, 115, 86, 101, 114, 115, 105, 111, 110, 69, 114, 114, 111, 114]⟩, .string ⟨#[67, 108, 97, 115, 115, 70, 111, 114, 109, 97, 116, 69, 114, 114, 111, 114]⟩], .agg #[.string ⟨#[67, 108, 97, 115, 115, 67, 105, 114, 99, 117, 108, 97, 114, 105, 116, 121, 69, 114, 114, 111, 114]⟩, .string ⟨#[76, 105, 110, 107, 97, 103, 101, 69, 114, 114, 111, 114]⟩], .agg #[.string ⟨#[86, 101, 114, 105, 102, 121, 69, 114, 114, 111, 114]⟩, .string ⟨#[76, 105, 110, 107, 97, 103, 101, 69, 114, 114, 111, 114]⟩], .agg #[.string ⟨#[69, 120, 99, 101, 112, 116, 105, 111, 110, 73, 110, 73, 110, 105, 116, 105, 97, 108, 105, 122, 101, 114, 69, 114, 114, 111, 114]⟩, .string ⟨#[76, 105, 110, 107, 97, 103, 101, 69, 114, 114, 111, 114]⟩], .agg #[.string ⟨#[73, 110, 99, 111, 109, 112, 97, 116, 105, 98, 108, 101, 67, 108, 97, 115, 115, 67, 104, 97, 110, 103, 101, 69, 114, 114, 111, 114]⟩, .string ⟨#[76, 105, 110, 107, 97, 103, 101, 69, 114, 114, 111, 114]⟩], .agg #[.string ⟨#[78, 111, 83, 117, 99, 104, 70, 105, 101, 108, 100, 69, 114, 114, 111, 114]⟩, .string ⟨#[73, 110, 99, 111, 109, 112, 97, 116, 105, 98, 108, 101, 67, 108, 97, 115, 115, 67, 104, 97, 110, 103, 101, 69, 114, 114, 111, 114]⟩], .agg #[.string ⟨#[78, 111, 83, 117, 99, 104, 77, 101, 116, 104, 111, 100, 69, 114, 114, 111, 114]⟩, .string ⟨#[73, 110, 99, 111, 109, 112, 97, 116, 105, 98, 108, 101, 67, 108, 97, 115, 115, 67, 104, 97, 110, 103, 101, 69, 114, 114, 111, 114]⟩], .agg #[.string ⟨#[65, 98, 115, 116, 114, 97, 99, 116, 77, 101, 116, 104, 111, 100, 69, 114, 114, 111, 114]⟩, .string ⟨#[73, 110, 99, 111, 109, 112, 97, 116, 105, 98, 108, 101, 67, 108, 97, 115, 115, 67, 104, 97, 110, 103, 101, 69, 114, 114, 111, 114]⟩], .agg #[.string ⟨#[73, 110, 115, 116, 97, 110, 116, 105, 97, 116, 105, 111, 110, 69, 114, 114, 111, 114]⟩, .string ⟨#[73, 110, 99, 111, 109, 112, 97, 116, 105, 98, 108, 101, 67, 108, 97, 115, 115, 67, 104, 97, 110, 103, 101, 69, 114, 114, 111, 114]⟩], .agg #[.string ⟨#[73, 108, 108, 101, 103, 97, 108, 65, 99, 99, 101, 115, 115, 69, 114, 114, 111, 114]⟩, .string ⟨#[73, 110, 99, 111, 109, 112, 97, 116, 105, 98, 108, 101, 67, 108, 97, 115, 115, 67, 104, 97, 110, 103, 101, 69, 114, 114, 111, 114]⟩], .agg #[.string ⟨#[79, 117, 116, 79, 102, 77, 101, 109, 111, 114, 121, 69, 114, 114, 111, 114]⟩, .string ⟨#[86, 105, 114, 116, 117, 97, 108, 77, 97, 99, 104, 105, 110, 101, 69, 114, 114, 111, 114]⟩], .agg #[.string ⟨#[83, 116, 97, 99, 107, 79, 118, 101, 114, 102, 108, 111, 119, 69, 114, 114, 111, 114]⟩, .string ⟨#[86, 105, 114, 116, 117, 97, 108, 77, 97, 99, 104, 105, 110, 101, 69, 114, 114, 111, 114]⟩], .agg #[.string ⟨#[78, 117, 108, 108, 80, 111, 105, 110, 116, 101, 114, 69, 120, 99, 101, 112, 116, 105, 111, 110]⟩, .string ⟨#[82, 117, 110, 116, 105, 109, 101, 69, 120, 99, 101, 112, 116, 105, 111, 110]⟩], .agg #[.string ⟨#[65, 114, 105, 116, 104, 109, 101, 116, 105, 99, 69, 120, 99, 101, 112, 116, 105, 111, 110]⟩, .string ⟨#[82, 117, 110, 116, 105, 109, 101, 69, 120, 99, 101, 112, 116, 105, 111, 110]⟩], .agg #[.string ⟨#[67, 108, 97, 115, 115, 67, 97, 115, 116, 69, 120, 99, 101, 112, 116, 105, 111, 110]⟩, .string ⟨#[82, 117, 110, 116, 105, 109, 101, 69, 120, 99, 101, 112, 116, 105, 111, 110]⟩], .agg pairCells], defers := [] } (by kernel_rfl) ?_; simp only [List.drop_succ_cons, List.drop_zero]; refine wpList_plain rfl fun K hK => ?_; refine wp_store_row 95 _ _ rfl w.heap.size pairCells rfl rfl 95 _ (heap_alloc_new _ _) (by kernel_rfl) (by kernel_rfl) (by kernel_rfl) ?_; refine hK _ _ ?_; rw [World.setRow_alloc_new]; refine stop_here ?_))
  refine go_on ?_
  have hload := run_loadVar_row (P := Tryz.prog) (w.alloc (.cells pairCells 95)) w.heap.size 95 95 pairCells (0, 0) _ (heap_alloc_new _ _) Tryz.underlying95 rfl (by kernel_rfl)
  go_wp2_with fail
  refine bodyPost_ret (v := .agg pairCells) ?_ rfl ⟨rfl, (Below.refl _ _).alloc (Nat.le_refl _) _⟩
  simp [results, Tryz.results40, asAddr, Result.andThen, hload]
theorem heap_new_at {X : World} {o : Obj} {k : Nat} (hk : k = X.heap.size) : (X.alloc o).heap[k]? = some o := by
  subst hk
  exact heap_alloc_new _ _
theorem made_any (n sp : List UInt8) (hn : n.length ≤ 1000) (hsp : sp.length ≤ 1000) (w : World) :
    Calls Tryz.prog 39 #[.agg #[.string ⟨n.toArray⟩, .string ⟨sp.toArray⟩]] w fun e w' => (∃ g, e = .returned (.agg #[.string ⟨(langL ++ n).toArray⟩, .string ⟨(inLang sp).toArray⟩, .int .i64 33, .slice none 0 0, .slice none 0 0, .slice (some ⟨g, 0, none⟩) 1 1]) ∧
      w.heap.size ≤ g ∧ g < w'.heap.size ∧ w'.heap[g]? = some (.cells #[.int .i64 1, .string ⟨#[60, 105, 110, 105, 116, 62]⟩, .string ⟨#[40, 41, 86]⟩, .bool true, .int .i64 0] 52)) ∧ Below w.heap.size w w' := by
  have cat : ∀ l : List UInt8, (⟨#[106, 97, 118, 97, 47, 108, 97, 110, 103, 47]⟩ : ByteArray) ++ ⟨l.toArray⟩ = ⟨(langL ++ l).toArray⟩ := fun l => by
    apply ByteArray.ext
    simp [langL]
  by_cases hs : sp = []
  · subst hs
    go_enter Tryz.func39, Tryz.ntmps39
    go_wp2
    refine bodyPost_ret (v := .agg #[.string ⟨(langL ++ n).toArray⟩, .string ⟨#[]⟩, .int .i64 33, .slice none 0 0, .slice none 0 0, .slice (some ⟨w.heap.size + 1 + 1 + 1, 0, none⟩) 1 1]) ?_ rfl ?_
    · simp [results, Tryz.results39, go_sem, cat]
    · refine ⟨⟨_, rfl, by omega, by simp [World.setCell], ?_⟩, ?_⟩
      · exact heap_new_at (by simp)
      · repeat' (first | with_reducible exact Below.refl _ _ | with_reducible refine Below.setCell ?_ ?_ _ | with_reducible refine Below.alloc ?_ ?_ _ | (simp; done) | (simp; omega) | omega)
  · have hs1 : sp.isEmpty = false := by cases sp <;> simp_all
    go_enter Tryz.func39, Tryz.ntmps39
    go_wp2
    have hil : inLang sp = langL ++ sp := by simp [inLang, hs]
    rw [hil]
    refine bodyPost_ret (v := .agg #[.string ⟨(langL ++ n).toArray⟩, .string ⟨(langL ++ sp).toArray⟩, .int .i64 33, .slice none 0 0, .slice none 0 0, .slice (some ⟨w.heap.size + 1 + 1 + 1, 0, none⟩) 1 1]) ?_ rfl ?_
    · simp [results, Tryz.results39, go_sem, cat]
    · refine ⟨⟨_, rfl, by omega, by simp [World.setCell], ?_⟩, ?_⟩
      · exact heap_new_at (by simp)
      · repeat' (first | with_reducible exact Below.refl _ _ | with_reducible refine Below.setCell ?_ ?_ _ | with_reducible refine Below.alloc ?_ ?_ _ | (simp; done) | (simp; omega) | omega)
end Go.Proofs.YtdbniocnjhfhdaaGreatDoor

set_option linter.unusedSimpArgs false
set_option linter.unusedVariables false
set_option maxRecDepth 100000
set_option maxHeartbeats 1000000
namespace Go.Proofs.YtdbniocnjhfhdaaGreatDoor
open Go Go.RowKit Lib
theorem run_index_agg {P : Program} {t e n : Nat} {d : TypeDesc} {z : Value} {sz b : Nat} (ht : P.underlying t = some (.array n e)) (hd : P.underlying e = some d)
    (hna : (match d with | .struct _ => true | .array _ _ => true | _ => false) = true) (hi : (P.info? e).map (fun i => (i.zero, i.size, i.bytes)) = some (some z, sz, b))
    (w : World) (k : IntKind) (cs : Array Value) (x : Int) (h0 : 0 ≤ x) (hx : x < n) :
    (Instr.index t (.agg cs) (.int k x)).run P w = .ok (.agg (cs.extract (x.toNat * sz) (x.toNat * sz + sz))) w := by
  obtain ⟨i, hi, _, h1, _⟩ := info_parts hi
  have hag : (isAgg e).run P w = .ok true w := by
    simp only [isAgg, run_underlying hd, Sem.run_bind, Result.andThen]
    cases d <;> simp_all
  simp only [Instr.index, asIntOf, run_underlying ht, Sem.run_bind, Sem.run_pure, Result.andThen, h0, hx, and_self, if_true, sizeOf, typeInfo, hi, h1, part, hag]
  simp [hi, hag, h1]
theorem extract_two {α : Type} (f g : α → Value) : ∀ (l : List α) (k : Nat) (x : α), l[k]? = some x → ((l.flatMap fun r => [f r, g r]).toArray).extract (k * 2) (k * 2 + 2) = #[f x, g x] := by
  intro l k x h
  have key : ∀ (l : List α) (k : Nat) (x : α), l[k]? = some x → ((l.flatMap fun r => [f r, g r]).drop (k * 2)).take 2 = [f x, g x] := by
    intro l
    induction l with
    | nil => intro k x h; simp at h
    | cons y l ih =>
      intro k x h
      rcases k with _ | k
      · simp at h
        subst h
        rfl
      · have := ih k x (by simpa using h)
        rw [List.flatMap_cons, show (k + 1) * 2 = k * 2 + 2 by omega]
        exact this
  have := key l k x h
  apply Array.toList_inj.1
  simp only [Array.toList_extract, List.extract_eq_take_drop]
  rw [show k * 2 + 2 - k * 2 = 2 by omega]
  exact this
def coreAt (k : Nat) : List UInt8 × List UInt8 := coreL.getD k ([], [])
theorem core_get {k : Nat} (h : k < 24) : coreL[k]? = some (coreAt k) := by
  have hl : coreL.length = 24 := rfl
  unfold coreAt
  rw [List.getD_eq_getElem?_getD, List.getElem?_eq_getElem (by omega)]
  rfl
theorem core_index (w : World) (k : Nat) (h : k < 24) : (Instr.index 95 (.agg pairCells) (.int .i64 k)).run Tryz.prog w = .ok (.agg #[.string ⟨(coreAt k).1.toArray⟩, .string ⟨(coreAt k).2.toArray⟩]) w := by
  have h1 := run_index_agg (P := Tryz.prog) (z := .agg #[.string ⟨#[]⟩, .string ⟨#[]⟩]) (sz := 2) (b := 32) Tryz.underlying95 Tryz.underlying93 rfl (by kernel_rfl) w .i64 pairCells k (by omega) (by omega)
  rw [h1, Int.toNat_natCast]
  unfold pairCells
  rw [extract_two _ _ coreL k _ (core_get h)]
theorem core_short (k : Nat) (h : k < 24) : (coreAt k).1.length ≤ 1000 ∧ (coreAt k).2.length ≤ 1000 := by
  have : ∀ k, k < 24 → (coreAt k).1.length ≤ 1000 ∧ (coreAt k).2.length ≤ 1000 := by decide
  exact this k h
structure TyV where
  name : List UInt8
  sup : List UInt8
  acc : Int
  ifs : Value
  flds : Value
  mths : Value
  ifl : List (List UInt8)
def TyV.cells (t : TyV) : List Value := [.string ⟨t.name.toArray⟩, .string ⟨t.sup.toArray⟩, .int .i64 t.acc, t.ifs, t.flds, t.mths]
def tyCells (ts : List TyV) : List Value := ts.flatMap TyV.cells
def RdC (w : World) (g : Nat) (size : Nat) (v : Value) : Prop :=
  ∃ A n cap, v = .slice A n cap ∧ n ≤ cap ∧ n ≤ 65536 ∧ (0 < n → ∃ b off, A = some ⟨b, off, none⟩ ∧ b < w.heap.size ∧ b ≠ g ∧ ∃ news : List Value, news.length = n * size ∧ (∀ u ∈ news, u.oneCell' = true) ∧ ∀ j u, news[j]? = some u → w.cell? ⟨b, off + j, none⟩ = some u)
theorem rdC_nil (w : World) (g size : Nat) : RdC w g size (.slice none 0 0) := ⟨none, 0, 0, rfl, Nat.le_refl _, by omega, fun h => absurd h (by omega)⟩
theorem RdC.keep {w w' : World} {g g' size : Nat} {v : Value} (h : RdC w g size v) (hb : ∀ k, k < w.heap.size → k ≠ g → w'.heap[k]? = w.heap[k]?) (hs : w.heap.size ≤ w'.heap.size) (hg : g' = g ∨ w.heap.size ≤ g') : RdC w' g' size v := by
  obtain ⟨A, n, cap, rfl, h1, h2, h3⟩ := h
  refine ⟨A, n, cap, rfl, h1, h2, fun h0 => ?_⟩
  obtain ⟨b, off, e, hlt, hne, news, hl, ho, hc⟩ := h3 h0
  have hne' : b ≠ g' := by
    rcases hg with hg | hg
    · rw [hg]
      exact hne
    · exact Nat.ne_of_lt (Nat.lt_of_lt_of_le hlt hg)
  refine ⟨b, off, e, Nat.lt_of_lt_of_le hlt hs, hne', news, hl, ho, fun j u hu => ?_⟩
  rw [World.cell?_of_block (w := w) (hb b hlt hne)]
  exact hc j u hu
theorem RdC.swap {w w' : World} {g g0 size : Nat} {v : Value} (h : RdC w g size v) (h' : RdC w' g0 size v) : RdC w' g size v := by
  obtain ⟨A, n, cap, rfl, h1, h2, h3⟩ := h
  obtain ⟨A', n', cap', e, k1, k2, k3⟩ := h'
  injection e with e1 e2 e3
  subst e1 e2 e3
  refine ⟨A, n, cap, rfl, h1, h2, fun h0 => ?_⟩
  obtain ⟨b, off, e, hlt, hne, _⟩ := h3 h0
  obtain ⟨b', off', e', hlt', hne', r⟩ := k3 h0
  rw [e] at e'
  injection e' with e'
  injection e' with e1 e2
  subst e1 e2
  exact ⟨b, off, e, hlt', hne, r⟩
def TyV.reads (w : World) (g : Nat) (t : TyV) : Prop := RdC w g 1 t.ifs ∧ RdC w g 5 t.flds ∧ RdC w g 5 t.mths
theorem TyV.reads.keep {w w' : World} {g g' : Nat} {t : TyV} (h : t.reads w g) (hb : ∀ k, k < w.heap.size → k ≠ g → w'.heap[k]? = w.heap[k]?) (hs : w.heap.size ≤ w'.heap.size) (hg : g' = g ∨ w.heap.size ≤ g') : t.reads w' g' :=
  ⟨RdC.keep h.1 hb hs hg, RdC.keep h.2.1 hb hs hg, RdC.keep h.2.2 hb hs hg⟩
theorem TyV.reads.swap {w w' : World} {g g0 : Nat} {t : TyV} (h : t.reads w g) (h' : t.reads w' g0) : t.reads w' g := ⟨h.1.swap h'.1, h.2.1.swap h'.2.1, h.2.2.swap h'.2.2⟩
theorem info_type : (Tryz.prog.info? 39).map (fun i => (i.zero, i.size, i.bytes)) = some (some (.agg #[.string ⟨#[]⟩, .string ⟨#[]⟩, .int .i64 0, .slice none 0 0, .slice none 0 0, .slice none 0 0]), 6, 112) := by kernel_rfl
abbrev TyK := List UInt8 × List UInt8 × Int × List (List UInt8)
def TyV.key (t : TyV) : TyK := (t.name, t.sup, t.acc, t.ifl)
def coreKey (k : Nat) : TyK := (langL ++ (coreAt k).1, inLang (coreAt k).2, 33, [])
structure TyRow (w W : World) (v : Value) (ts : List TyV) : Prop where
  own : W.ownsRow w.heap.size 39 6 v ts.length (tyCells ts)
  reads : ∀ g, (v.ownBlock = some g ∨ g < w.heap.size) → ∀ t ∈ ts, t.reads W g
  below : Below w.heap.size w W
  bare : ∀ t ∈ ts, t.ifl = [] ∧ t.ifs = .slice none 0 0
theorem TyRow.keep {w W W' : World} {v : Value} {ts : List TyV} (h : TyRow w W v ts) (hb : Below W.heap.size W W') : TyRow w W' v ts where
  own := own_heap h.own fun q hq => hb.block q (h.own.lt q hq).2
  reads := fun g hg t ht => (h.reads g hg t ht).keep (fun k hk _ => hb.block k hk) hb.size (.inl rfl)
  below := h.below.trans (hb.mono h.below.size)
  bare := h.bare
theorem tyCells_snoc (ts : List TyV) (t : TyV) : tyCells (ts ++ [t]) = tyCells ts ++ t.cells := by simp [tyCells]
theorem snoc_main {w W W' : World} {v : Value} {ts : List TyV} (h : TyRow w W v ts) {t : TyV} {g' : Nat} (hg : W.grownBy W' v.ownBlock)
    (hgg : v.ownBlock = some g' ∨ g' = W.heap.size) (hr : ∀ g, v.ownBlock = some g ∨ (v.ownBlock = none ∧ g = W.heap.size) ∨ g < w.heap.size → t.reads W g) : ∀ u ∈ ts ++ [t], u.reads W' g' := by
  intro u hu
  rcases hv : v.ownBlock with _ | g0
  · rw [hv] at hg hgg
    have hall : ∀ k, k < W.heap.size → k ≠ W.heap.size → W'.heap[k]? = W.heap[k]? := fun k hk _ => hg.block k hk (by simp)
    have hg2 : g' = W.heap.size := by simpa using hgg
    rcases List.mem_append.1 hu with hu | hu
    · exfalso
      rcases h.own.2 with ⟨_, h0⟩ | ⟨g, c, cur, rfl, _⟩
      · have : ts = [] := List.eq_nil_of_length_eq_zero h0
        rw [this] at hu
        cases hu
      · simp [Value.ownBlock] at hv
    · have : u = t := by simpa using hu
      subst this
      exact (hr W.heap.size (.inr (.inl ⟨hv, rfl⟩))).keep hall hg.size (.inl hg2)
  · rw [hv] at hg hgg
    have hall : ∀ k, k < W.heap.size → k ≠ g0 → W'.heap[k]? = W.heap[k]? := fun k hk hne => hg.block k hk (fun e => hne (by injection e))
    have hg2 : g' = g0 ∨ W.heap.size ≤ g' := by
      rcases hgg with e | e
      · left
        injection e with e
        exact e.symm
      · right
        omega
    rcases List.mem_append.1 hu with hu | hu
    · exact (h.reads g0 (.inl hv) u hu).keep hall hg.size hg2
    · have : u = t := by simpa using hu
      subst this
      exact (hr g0 (.inl hv)).keep hall hg.size hg2
theorem TyRow.snoc {w W W' : World} {v : Value} {ts : List TyV} (h : TyRow w W v ts) {t : TyV} (hp : t.ifl = [] ∧ t.ifs = .slice none 0 0) {g' cap : Nat} (ho : W'.ownsRow w.heap.size 39 6 (.slice (some ⟨g', 0, none⟩) (ts.length + 1) cap) (ts.length + 1) (tyCells ts ++ t.cells)) (hg : W.grownBy W' v.ownBlock)
    (hgg : v.ownBlock = some g' ∨ g' = W.heap.size) (hb : Below w.heap.size W W') (hr : ∀ g, v.ownBlock = some g ∨ (v.ownBlock = none ∧ g = W.heap.size) ∨ g < w.heap.size → t.reads W g) : TyRow w W' (.slice (some ⟨g', 0, none⟩) (ts.length + 1) cap) (ts ++ [t]) := by
  refine ⟨own_eq ho (by rw [List.length_append]; rfl) (tyCells_snoc ts t).symm, fun g hg' u hu => ?_, h.below.trans hb, fun u hu => by
    rcases List.mem_append.1 hu with hu | hu
    · exact h.bare u hu
    · obtain rfl : u = t := by simpa using hu
      exact hp⟩
  have main : ∀ u ∈ ts ++ [t], u.reads W' g' := by
    intro u hu
    exact snoc_main h hg hgg hr u hu
  rcases hg' with hg' | hg'
  · have e : g' = g := by simpa [Value.ownBlock] using hg'
    subst e
    exact main u hu
  · refine TyV.reads.swap (w := W) ?_ (main u hu)
    rcases List.mem_append.1 hu with hu | hu
    · exact h.reads g (.inr hg') u hu
    · have : u = t := by simpa using hu
      subst this
      exact hr g (.inr (.inr hg'))
theorem TyRow.own_at {w W : World} {v : Value} {ts : List TyV} {n : Nat} (h : TyRow w W v ts) (hn : ts.length = n) : W.ownsRow w.heap.size 39 6 v n (tyCells ts) := by
  subst hn
  exact h.own
theorem TyRow.snoc_at {w W W' : World} {v : Value} {ts : List TyV} {n : Nat} (h : TyRow w W v ts) (hn : ts.length = n) {t : TyV} (hp : t.ifl = [] ∧ t.ifs = .slice none 0 0) {g' cap : Nat} (ho : W'.ownsRow w.heap.size 39 6 (.slice (some ⟨g', 0, none⟩) (n + 1) cap) (n + 1) (tyCells ts ++ t.cells)) (hg : W.grownBy W' v.ownBlock)
    (hgg : v.ownBlock = some g' ∨ g' = W.heap.size) (hb : Below w.heap.size W W') (hr : ∀ g, v.ownBlock = some g ∨ (v.ownBlock = none ∧ g = W.heap.size) ∨ g < w.heap.size → t.reads W g) : TyRow w W' (.slice (some ⟨g', 0, none⟩) (n + 1) cap) (ts ++ [t]) := by
  subst hn
  exact h.snoc hp ho hg hgg hb hr
end Go.Proofs.YtdbniocnjhfhdaaGreatDoor

set_option linter.unusedSimpArgs false
set_option linter.unusedVariables false
set_option maxRecDepth 100000
set_option maxHeartbeats 1000000
namespace Go.Proofs.YtdbniocnjhfhdaaGreatDoor
open Go Go.RowKit Lib
def coreV (k : Nat) (m : Value) : TyV := ⟨langL ++ (coreAt k).1, inLang (coreAt k).2, 33, .slice none 0 0, .slice none 0 0, m, []⟩
def coreKeys : List TyK := (List.range 24).map coreKey ++ [([118, 109, 47, 84, 97, 115, 107], langL ++ [79, 98, 106, 101, 99, 116], 1537, []), ([118, 109, 47, 83, 121, 115], langL ++ [79, 98, 106, 101, 99, 116], 49, [])]
theorem types_any (w : World) : Calls Tryz.prog 25 #[] w fun e w' => ∃ g cap ts, e = .returned (.slice (some ⟨g, 0, none⟩) 26 cap) ∧ ts.map TyV.key = coreKeys ∧ TyRow w w' (.slice (some ⟨g, 0, none⟩) 26 cap) ts := by
  go_enter Tryz.func25, Tryz.ntmps25
  go_wp2_with (go_at_call 40; refine (coreall_any _).mono ?_; rintro e w1 ⟨rfl, hb1⟩; have HB1 := Lib.hid hb1; clear hb1)
  have hz1 := HB1.out.size
  go_loopw [2, 6] (fun v i wr => ∃ (k : Nat) (ts : List TyV), i = .int .i64 k ∧ k ≤ 24 ∧ ts.length = k ∧ Hid (ts.map TyV.key = (List.range k).map coreKey) ∧ Hid (TyRow w wr v ts)) (fun _ i _ => 24 - (RowKit.intOf i).toNat)
  case atStart => exact ⟨0, [], rfl, by omega, rfl, by first | exact rfl | exact Lib.hid rfl, by first | exact ⟨World.ownsRow_nil _ _ _ _, fun g h t ht => by simp at ht, HB1.out, by simp⟩ | exact Lib.hid ⟨World.ownsRow_nil _ _ _ _, fun g h t ht => by simp at ht, HB1.out, by simp⟩⟩
  case round =>
    obtain ⟨k, ts, rfl, hk, hl, HK, HT⟩ := hrel
    have hzr := HT.out.below.size
    by_cases hlt : k < 24
    · have hix := fun W => core_index W k hlt
      obtain ⟨hn1, hn2⟩ := core_short k hlt
      have HM := Lib.hid fun W => made_any (coreAt k).1 (coreAt k).2 hn1 hn2 W
      clear hn1 hn2
      go_wp2_with (go_at_call 39; refine (HM.out _).mono ?_; rintro e w2 ⟨⟨gm, rfl, hgm1, hgm2, hgm3⟩, hb2⟩; refine stop_here ?_)
      have HT2 := Lib.hid ((HT.out.keep ((Below.refl _ _).alloc (Nat.le_refl _) _)).keep hb2)
      have hz2 := HT2.out.below.size
      have hgr : wr.heap.size < gm := by simp at hgm1; omega
      clear hb2
      refine go_on ?_
      go_wp2_with (at_builtin; refine wpl_lies rfl _ _ 31 rfl Tryz.underlying31 info_type rfl (by omega) w.heap.size rfl ((HT2.out.own_at hl).alloc _) rfl rfl (fun _ => ⟨_, rfl, cells_new_at _ _ _ _ (by simp)⟩) (by simp [Value.oneCell']) (by omega) (by simp only [maxLen]; omega) (by omega) (by simp; omega) ?_; intro g3 k3 w3 ho3 hg3 hb3 hgg3 hlt3; refine stop_here ?_)
      have HT3 := Lib.hid ((HT2.out.keep ((Below.refl _ _).alloc (Nat.le_refl _) _)).snoc_at hl (t := coreV k (.slice (some ⟨gm, 0, none⟩) 1 1)) ⟨rfl, rfl⟩ ho3 hg3 hgg3 hb3 (fun g hg => by
        refine ⟨rdC_nil _ _ _, rdC_nil _ _ _, ⟨_, 1, 1, rfl, Nat.le_refl _, by omega, fun _ => ⟨gm, 0, rfl, by simp; omega, ?_, [.int .i64 1, .string ⟨#[60, 105, 110, 105, 116, 62]⟩, .string ⟨#[40, 41, 86]⟩, .bool true, .int .i64 0], rfl, by simp [Value.oneCell'], fun j u hu => ?_⟩⟩⟩
        · rcases hg with hg | ⟨_, hg⟩ | hg
          · have := (HT.out.own.lt _ hg).2
            omega
          · rw [hg]
            simp
            omega
          · omega
        · rw [World.cell?_alloc_lt _ _ _ hgm2, Nat.zero_add, cell_of_row w2 gm j _ _ _ hgm3]
          simpa using hu))
      clear ho3 hg3 hb3 hgg3
      refine go_on ?_
      go_wp2_with fail
      go_roundw
      case rel =>
        refine ⟨k + 1, ts ++ [coreV k (.slice (some ⟨gm, 0, none⟩) 1 1)], by go_num, by omega, by simp [hl], Lib.hid ?_, HT3⟩
        rw [List.map_append, HK.out, List.range_succ, List.map_append]
        rfl
      case measure => simp [RowKit.intOf]; omega
    · have hk24 : k = 24 := by omega
      subst hk24
      go_wp2_with (at_builtin; refine wpl_lies rfl _ _ 31 rfl Tryz.underlying31 info_type rfl (by omega) w.heap.size rfl (((HT.out.own_at hl).alloc _).alloc _) rfl rfl (fun _ => ⟨_, rfl, cells_new_at _ _ _ _ (by simp)⟩) (by simp [Value.oneCell']) (by omega) (by simp only [maxLen]; omega) (by omega) (by simp; omega) ?_; intro g3 k3 w3 ho3 hg3 hb3 hgg3 hlt3; refine stop_here ?_)
      have HT3 := Lib.hid (((HT.out.keep ((Below.refl _ _).alloc (Nat.le_refl _) _)).keep ((Below.refl _ _).alloc (Nat.le_refl _) _)).snoc_at hl (t := ⟨[118, 109, 47, 84, 97, 115, 107], langL ++ [79, 98, 106, 101, 99, 116], 1537, .slice none 0 0, .slice none 0 0, .slice (some ⟨wr.heap.size, 0, none⟩) 1 1, []⟩) ⟨rfl, rfl⟩ ho3 hg3 hgg3 hb3 (fun g hg => by
        refine ⟨rdC_nil _ _ _, rdC_nil _ _ _, ⟨_, 1, 1, rfl, Nat.le_refl _, by omega, fun _ => ⟨wr.heap.size, 0, rfl, by simp; omega, ?_, [.int .i64 1025, .string ⟨#[114, 117, 110]⟩, .string ⟨#[40, 41, 86]⟩, .bool false, .int .i64 0], rfl, by simp [Value.oneCell'], fun j u hu => ?_⟩⟩⟩
        · rcases hg with hg | ⟨_, hg⟩ | hg
          · have := (HT.out.own.lt _ hg).2
            omega
          · rw [hg]
            simp
            omega
          · omega
        · rw [World.cell?_alloc_lt _ _ _ (by simp), Nat.zero_add, cell_of_row _ wr.heap.size j _ _ _ (heap_alloc_new _ _)]
          simpa using hu))
      have hl3 : (ts ++ [(⟨[118, 109, 47, 84, 97, 115, 107], langL ++ [79, 98, 106, 101, 99, 116], 1537, .slice none 0 0, .slice none 0 0, .slice (some ⟨wr.heap.size, 0, none⟩) 1 1, []⟩ : TyV)]).length = 25 := by simp [hl]
      have hz3 := HT3.out.below.size
      have hz3r := hg3.size
      simp only [World.size_alloc] at hz3r
      clear ho3 hg3 hb3 hgg3
      refine go_on ?_
      go_wp2_with (at_builtin; refine wpl_lies rfl _ _ 31 rfl Tryz.underlying31 info_type rfl (by omega) w.heap.size rfl (((HT3.out.own_at hl3).alloc _).alloc _) rfl rfl (fun _ => ⟨_, rfl, cells_new_at _ _ _ _ (by simp)⟩) (by simp [Value.oneCell']) (by omega) (by simp [maxLen]) (by omega) (by simp; omega) ?_; intro g4 k4 w4 ho4 hg4 hb4 hgg4 hlt4; refine stop_here ?_)
      have HT4 := Lib.hid (((HT3.out.keep ((Below.refl _ _).alloc (Nat.le_refl _) _)).keep ((Below.refl _ _).alloc (Nat.le_refl _) _)).snoc_at hl3 (t := ⟨[118, 109, 47, 83, 121, 115], langL ++ [79, 98, 106, 101, 99, 116], 49, .slice none 0 0, .slice none 0 0, .slice (some ⟨w3.heap.size, 0, none⟩) 2 2, []⟩) ⟨rfl, rfl⟩ ho4 hg4 hgg4 hb4 (fun g hg => by
        refine ⟨rdC_nil _ _ _, rdC_nil _ _ _, ⟨_, 2, 2, rfl, Nat.le_refl _, by omega, fun _ => ⟨w3.heap.size, 0, rfl, by simp; omega, ?_, [.int .i64 265, .string ⟨#[112, 114, 105, 110, 116]⟩, .string ⟨#[40, 73, 41, 86]⟩, .bool false, .int .i64 0, .int .i64 265, .string ⟨#[115, 116, 97, 114, 116]⟩, .string ⟨#[40, 76, 118, 109, 47, 84, 97, 115, 107, 59, 41, 86]⟩, .bool false, .int .i64 0], rfl, by simp [Value.oneCell'], fun j u hu => ?_⟩⟩⟩
        · rcases hg with hg | ⟨hg, _⟩ | hg
          · have := (HT3.out.own.lt _ hg).2
            omega
          · simp [Value.ownBlock] at hg
          · omega
        · rw [World.cell?_alloc_lt _ _ _ (by simp), Nat.zero_add, cell_of_row _ w3.heap.size j _ _ _ (heap_alloc_new _ _)]
          simpa using hu))
      clear ho4 hg4 hb4 hgg4
      refine go_on ?_
      go_wp2_with fail
      go_ret
      refine ⟨g4, k4, _, rfl, ?_, HT4.out⟩
      rw [List.map_append, List.map_append, HK.out]
      rfl
end Go.Proofs.YtdbniocnjhfhdaaGreatDoor

set_option linter.unusedSimpArgs false
set_option linter.unusedVariables false
set_option maxRecDepth 100000
set_option maxHeartbeats 1000000
namespace Go.Proofs.YtdbniocnjhfhdaaGreatDoor
open Go Go.RowKit Lib Go.Maps
structure LdS (w W : World) (lb bd bf bk bg : Nat) (nd nf nk ng : Nat) (sd sf sk sg : Nat) (fd ff fk fg : List UInt8 → Option Value) (v : Value) (ts : List TyV) : Prop where
  c0 : W.cell? ⟨lb, 0, none⟩ = some (.map (some bd))
  c1 : W.cell? ⟨lb, 1, none⟩ = some (.map (some bf))
  c2 : W.cell? ⟨lb, 2, none⟩ = some (.map (some bk))
  c3 : W.cell? ⟨lb, 3, none⟩ = some (.map (some bg))
  c4 : W.cell? ⟨lb, 4, none⟩ = some v
  fz : ∀ o, W.frozen? ⟨lb, o, none⟩ = false
  hd : MapS W Tryz.prog 9 bd nd fd sd
  hf : MapS W Tryz.prog 9 bf nf ff sf
  hk : MapS W Tryz.prog 9 bk nk fk sk
  hg : MapS W Tryz.prog 9 bg ng fg sg
  ty : TyRow w W v ts
  ord : w.heap.size ≤ bd ∧ bd < bf ∧ bf < bk ∧ bk < bg ∧ bg < lb
  new : ∀ g, v.ownBlock = some g → bg < g ∧ g ≠ lb
  lt : lb < W.heap.size
  rlb : ∀ t ∈ ts, t.reads W lb
def inNames (ks : List (List UInt8)) (s : List UInt8) : Option Value := if s ∈ ks then some (.int .i64 1) else none
theorem inNames_snoc (ks : List (List UInt8)) (k : List UInt8) : putF (inNames ks) k (.int .i64 1) = inNames (ks ++ [k]) := by
  funext s
  unfold putF inNames
  by_cases h : s = k
  · simp [h]
  · simp [h]
theorem tyCells_at : ∀ (ts : List TyV) (j : Nat) (t : TyV), ts[j]? = some t → ∀ q, q < 6 → (tyCells ts)[j * 6 + q]? = t.cells[q]?
  | [], j, t, h, q, hq => by simp at h
  | y :: ts, 0, t, h, q, hq => by
    simp at h
    subst h
    show (y.cells ++ tyCells ts)[0 * 6 + q]? = _
    rw [List.getElem?_append_left (by simp [TyV.cells]; omega)]
    congr 1
    omega
  | y :: ts, j + 1, t, h, q, hq => by
    show (y.cells ++ tyCells ts)[(j + 1) * 6 + q]? = _
    rw [List.getElem?_append_right (by simp [TyV.cells]; omega), show (j + 1) * 6 + q - y.cells.length = j * 6 + q by simp [TyV.cells]; omega]
    exact tyCells_at ts j t (by simpa using h) q hq
theorem MapS.no_cell {w : World} {P : Program} {k : TypeId} {b n sz : Nat} {f : List UInt8 → Option Value} (h : MapS w P k b n f sz) (o : Nat) : w.cell? ⟨b, o, none⟩ = none := by
  obtain ⟨D, ⟨es, clock, h1, _⟩, _⟩ := h
  simp [World.cell?, h1]
theorem RdC.turned {w w' : World} {P : Program} {k : TypeId} {b n sz g size : Nat} {f : List UInt8 → Option Value} {v : Value} (h : RdC w g size v) (hM : MapS w P k b n f sz) (hg : w.grownBy w' (some b)) : RdC w' g size v := by
  obtain ⟨A, m, cap, rfl, h1, h2, h3⟩ := h
  refine ⟨A, m, cap, rfl, h1, h2, fun h0 => ?_⟩
  obtain ⟨b', off, e, hlt, hne, news, hl, ho, hc⟩ := h3 h0
  refine ⟨b', off, e, Nat.lt_of_lt_of_le hlt hg.size, hne, news, hl, ho, fun j u hu => ?_⟩
  have h4 := hc j u hu
  have hb : b' ≠ b := fun e => by
    subst e
    rw [hM.no_cell] at h4
    cases h4
  rw [World.cell?_of_block (w := w) (hg.block b' hlt (fun e => hb (by injection e)))]
  exact h4
theorem TyRow.turned {w0 w w' : World} {P : Program} {k : TypeId} {b n sz : Nat} {f : List UInt8 → Option Value} {v : Value} {ts : List TyV} (h : TyRow w0 w v ts) (hM : MapS w P k b n f sz) (hg : w.grownBy w' (some b)) (hb : w0.heap.size ≤ b) (hv : ∀ g, v.ownBlock = some g → g ≠ b) : TyRow w0 w' v ts where
  own := own_heap h.own fun q hq => hg.block q (h.own.lt q hq).2 (fun e => hv q hq (by injection e))
  reads := fun g hg' t ht => ⟨(h.reads g hg' t ht).1.turned hM hg, (h.reads g hg' t ht).2.1.turned hM hg, (h.reads g hg' t ht).2.2.turned hM hg⟩
  below := h.below.grown hg h.below.size (fun k hk => by injection hk with hk; omega)
  bare := h.bare
theorem own_low {w : World} {base base' : Nat} {e : TypeId} {size n : Nat} {v : Value} {xs : List Value} (h : w.ownsRow base e size v n xs) (hb : base' ≤ base) : w.ownsRow base' e size v n xs := by
  rcases h.2 with h0 | ⟨g, cap, cur, rfl, h1, r⟩
  · exact ⟨h.1, .inl h0⟩
  · exact ⟨h.1, .inr ⟨g, cap, cur, rfl, Nat.le_trans hb h1, r⟩⟩
theorem TyRow.low {w0 w1 w : World} {v : Value} {ts : List TyV} (h : TyRow w1 w v ts) (hb : Below w0.heap.size w0 w1) : TyRow w0 w v ts := ⟨own_low h.own hb.size, fun g hg => h.reads g (hg.imp id fun h => by have := hb.size; omega), hb.trans (h.below.mono hb.size), h.bare⟩
section
variable {w W W' : World} {lb bd bf bk bg nd nf nk ng sd sf sk sg : Nat} {fd ff fk fg : List UInt8 → Option Value} {v : Value} {ts : List TyV}
theorem LdS.below (h : LdS w W lb bd bf bk bg nd nf nk ng sd sf sk sg fd ff fk fg v ts) (hb : Below W.heap.size W W') : LdS w W' lb bd bf bk bg nd nf nk ng sd sf sk sg fd ff fk fg v ts where
  c0 := (hb.cell (p := ⟨lb, 0, none⟩) h.lt).trans h.c0
  c1 := (hb.cell (p := ⟨lb, 1, none⟩) h.lt).trans h.c1
  c2 := (hb.cell (p := ⟨lb, 2, none⟩) h.lt).trans h.c2
  c3 := (hb.cell (p := ⟨lb, 3, none⟩) h.lt).trans h.c3
  c4 := (hb.cell (p := ⟨lb, 4, none⟩) h.lt).trans h.c4
  fz := fun o => (hb.frozen (p := ⟨lb, o, none⟩) h.lt).trans (h.fz o)
  hd := h.hd.keep (hb.block _ h.hd.lt)
  hf := h.hf.keep (hb.block _ h.hf.lt)
  hk := h.hk.keep (hb.block _ h.hk.lt)
  hg := h.hg.keep (hb.block _ h.hg.lt)
  ty := h.ty.keep hb
  ord := h.ord
  new := h.new
  lt := Nat.lt_of_lt_of_le h.lt hb.size
  rlb := fun t ht => (h.rlb t ht).keep (fun k hk _ => hb.block k hk) hb.size (.inl rfl)
theorem LdS.putk (h : LdS w W lb bd bf bk bg nd nf nk ng sd sf sk sg fd ff fk fg v ts) {n' s' : Nat} {f' : List UInt8 → Option Value} (hM : MapS W' Tryz.prog 9 bk n' f' s') (hg : W.grownBy W' (some bk)) :
    LdS w W' lb bd bf bk bg nd nf n' ng sd sf s' sg fd ff f' fg v ts := by
  have ho := h.ord
  have hb : ∀ k, k < W.heap.size → k ≠ bk → W'.heap[k]? = W.heap[k]? := fun k hk hne => hg.block k hk (fun e => hne (by injection e))
  have hl : lb ≠ bk := by omega
  have hc : ∀ o, W'.cell? ⟨lb, o, none⟩ = W.cell? ⟨lb, o, none⟩ := fun o => World.cell?_of_block (hb lb h.lt hl)
  exact ⟨(hc 0).trans h.c0, (hc 1).trans h.c1, (hc 2).trans h.c2, (hc 3).trans h.c3, (hc 4).trans h.c4, fun o => (World.frozen?_of_block (hb lb h.lt hl)).trans (h.fz o),
    h.hd.keep (hb _ h.hd.lt (by omega)), h.hf.keep (hb _ h.hf.lt (by omega)), hM, h.hg.keep (hb _ h.hg.lt (by omega)), h.ty.turned h.hk hg (by omega) (fun g hv => by have := h.new g hv; omega), h.ord, h.new, Nat.lt_of_lt_of_le h.lt hg.size, fun t ht => ⟨(h.rlb t ht).1.turned h.hk hg, (h.rlb t ht).2.1.turned h.hk hg, (h.rlb t ht).2.2.turned h.hk hg⟩⟩
end
theorem mapS_made_at (w : World) (P : Program) (k : TypeId) (b : Nat) (hb : b = w.heap.size) : MapS (w.alloc (.map #[] 0)) P k b 0 (fun _ => none) 0 := by
  subst hb
  exact mapS_made w P k
theorem core_names_short : ∀ k ∈ coreKeys, k.1.length ≤ 1000 := by decide
theorem new_any (w : World) : Calls Tryz.prog 12 #[] w fun e w' => ∃ lb bd bf bk bg nk sk v ts, e = .returned (.pointer (some ⟨lb, 0, none⟩)) ∧ ts.map TyV.key = coreKeys ∧
    LdS w w' lb bd bf bk bg 0 0 nk 0 0 0 sk 0 (fun _ => none) (fun _ => none) (inNames (ts.map TyV.name)) (fun _ => none) v ts ∧ nk ≤ 26 ∧ Below w.heap.size w w' := by
  have hmm := @run_makeMap Tryz.prog
  go_enter Tryz.func12, Tryz.ntmps12
  go_wp2_with (go_at_call 25; refine (types_any _).mono ?_; rintro e w1 ⟨g, cap, ts, rfl, hk, ht⟩; refine stop_here ?_)
  have HY := Lib.hid ht
  have hgr := (ht.own.lt g rfl)
  have hzt := ht.below.size
  simp only [World.size_alloc] at hgr hzt
  have HK := Lib.hid hk
  clear hk ht
  refine go_on ?_
  go_wp2_with fail
  have L0 : LdS w (w1.alloc (.cells #[.map (some w.heap.size), .map (some (w.heap.size + 1)), .map (some (w.heap.size + 1 + 1)), .map (some (w.heap.size + 1 + 1 + 1)), .slice (some ⟨g, 0, none⟩) 26 cap] 65)) w1.heap.size w.heap.size (w.heap.size + 1) (w.heap.size + 1 + 1) (w.heap.size + 1 + 1 + 1)
      0 0 0 0 0 0 0 0 (fun _ => none) (fun _ => none) (inNames []) (fun _ => none) (.slice (some ⟨g, 0, none⟩) 26 cap) ts := by
    have hb := HY.out.below
    have e0 : inNames [] = fun _ => none := by funext s; simp [inNames]
    rw [e0]
    refine ⟨by simp [go_sem], by simp [go_sem], by simp [go_sem], by simp [go_sem], by simp [go_sem], fun o => by simp [go_sem], ?_, ?_, ?_, ?_, ?_, by omega, fun g' hg' => ?_, by simp, fun t ht => (HY.out.reads g (.inl rfl) t ht).keep (fun k hk _ => ((Below.refl _ _).alloc (Nat.le_refl _) _).block k hk) (by simp) (.inr (Nat.le_refl _))⟩
    · refine (mapS_made w Tryz.prog 9).keep ?_
      rw [Below.heap_alloc _ _ _ (by omega), hb.block _ (by simp; omega), Below.heap_alloc _ _ _ (by simp; omega), Below.heap_alloc _ _ _ (by simp; omega), Below.heap_alloc _ _ _ (by simp)]
    · refine (mapS_made_at (w.alloc (.map #[] 0)) Tryz.prog 9 _ (by simp)).keep ?_
      rw [Below.heap_alloc _ _ _ (by omega), hb.block _ (by simp; try omega), Below.heap_alloc _ _ _ (by simp; try omega), Below.heap_alloc _ _ _ (by simp)]
    · refine (mapS_made_at ((w.alloc (.map #[] 0)).alloc (.map #[] 0)) Tryz.prog 9 _ (by simp)).keep ?_
      rw [Below.heap_alloc _ _ _ (by omega), hb.block _ (by simp; try omega), Below.heap_alloc _ _ _ (by simp)]
    · refine (mapS_made_at (((w.alloc (.map #[] 0)).alloc (.map #[] 0)).alloc (.map #[] 0)) Tryz.prog 9 _ (by simp)).keep ?_
      rw [Below.heap_alloc _ _ _ (by omega), hb.block _ (by simp)]
    · exact (HY.out.low (((((Below.refl _ _).alloc (Nat.le_refl _) _).alloc (by simp) _).alloc (by simp; omega) _).alloc (by simp; omega) _)).keep ((Below.refl _ _).alloc (Nat.le_refl _) _)
    · have e : g = g' := by simpa [Value.ownBlock] using hg'
      subst e
      omega
  have HL0 := Lib.hid L0
  clear L0
  go_loopw [3, 16] (fun _ i wr => ∃ j sk : Nat, i = .int .i64 j ∧ j ≤ 26 ∧ Hid (LdS w wr w1.heap.size w.heap.size (w.heap.size + 1) (w.heap.size + 1 + 1) (w.heap.size + 1 + 1 + 1) 0 0 j 0 0 0 sk 0 (fun _ => none) (fun _ => none) (inNames ((ts.take j).map TyV.name)) (fun _ => none) (.slice (some ⟨g, 0, none⟩) 26 cap) ts)) (fun _ i _ => 26 - (RowKit.intOf i).toNat)
  case atStart => exact ⟨0, 0, rfl, by omega, by first | exact HL0 | exact HL0.out⟩
  case round =>
    obtain ⟨j, sk, rfl, hj, HL⟩ := hrel
    have hlen : ts.length = 26 := by
      have := congrArg List.length HK.out
      simpa [coreKeys] using this
    by_cases hlt : j < 26
    · obtain ⟨t, ht⟩ : ∃ t, ts[j]? = some t := ⟨_, List.getElem?_eq_getElem (by omega)⟩
      have hcells := tyCells_at ts j t ht
      have hreads := HL.out.ty.reads g (.inl rfl) t (List.mem_of_getElem? ht)
      have hshort := core_names_short (t.key) (by rw [← HK.out]; exact List.mem_map_of_mem (List.mem_of_getElem? ht))
      have HTK := Lib.hid (show (ts.take (j + 1)).map TyV.name = (ts.take j).map TyV.name ++ [t.name] by rw [List.take_add_one, ht]; simp)
      have hown := fun q (hq : q < 6) => ((HL.out.ty.own_at hlen).cellAt (j * 6 + q) (by omega)).trans (hcells q hq)
      obtain ⟨nm, sp, ac, i1, f1, m1⟩ := t
      obtain ⟨⟨A1, n1, k1, h1, _⟩, ⟨A2, n2, k2, h2, _⟩, ⟨A3, n3, k3, h3, _⟩⟩ := hreads
      simp only at h1 h2 h3
      subst h1 h2 h3
      have q0 := hown 0 (by omega)
      have q1 := hown 1 (by omega)
      have q2 := hown 2 (by omega)
      have q3 := hown 3 (by omega)
      have q4 := hown 4 (by omega)
      have q5 := hown 5 (by omega)
      simp only [TyV.cells, List.getElem?_cons_zero, List.getElem?_cons_succ, Nat.add_zero] at q0 q1 q2 q3 q4 q5
      have C2 := HL.out.c2
      have hlw := HL.out.lt
      clear hcells hown ht
      go_wp2_with fail
      refine wp_region_head 6 (by kernel_rfl) (by kernel_rfl) ?_
      simp only [List.take_succ_cons, List.take_zero, List.drop_succ_cons, List.drop_zero]
      repeat go_big_quiet_step (fail)
      refine wpQuiet_nil ?_
      have hs1 : nm.length ≤ 1000 := hshort
      go_wp2_with (at_mapUpdate; refine wpl_put rfl _ _ _ rfl Tryz.underlying9 Tryz.underlying63 rfl (HL.out.below (below_drewN ((Below.refl _ _).alloc (Nat.le_refl _) _) 1)).hk (by unfold maxLen; omega) rfl (by show nm.toArray.size ≤ _; simp [maxLen]; omega) rfl ?_; intro w5 hm5 hg5; refine stop_here ?_)
      have HL5 := Lib.hid ((HL.out.below (below_drewN ((Below.refl _ _).alloc (Nat.le_refl _) _) 1)).putk hm5 hg5)
      clear hm5 hg5
      refine go_on ?_
      go_wp2_with fail
      go_roundw
      case rel =>
        obtain ⟨sk', h5⟩ : ∃ sk', Hid (LdS w w5 w1.heap.size w.heap.size (w.heap.size + 1) (w.heap.size + 1 + 1) (w.heap.size + 1 + 1 + 1) 0 0 (j + 1) 0 0 0 sk' 0 (fun _ => none) (fun _ => none) (putF (inNames ((ts.take j).map TyV.name)) nm (.int .i64 1)) (fun _ => none) (.slice (some ⟨g, 0, none⟩) 26 cap) ts) := ⟨_, HL5⟩
        have e2 : (ts.take (j + 1)).map TyV.name = (ts.take j).map TyV.name ++ [nm] := HTK.out
        rw [inNames_snoc, ← e2] at h5
        exact ⟨j + 1, sk', by go_num, by omega, h5⟩
      case measure => simp [RowKit.intOf]; omega
    · have hj26 : j = 26 := by omega
      subst hj26
      have htk : ts.take 26 = ts := List.take_of_length_le (by omega)
      rw [htk] at HL
      go_wp2_with fail
      go_ret
      refine ⟨w1.heap.size, rfl, ?_⟩
      first
        | exact ⟨_, _, _, _, 26, sk, _, ts, HK.out, HL.out, by omega, HL.out.ty.below⟩
        | exact ⟨w.heap.size, w.heap.size + 1, w.heap.size + 1 + 1, w.heap.size + 1 + 1 + 1, 26, ⟨sk, ⟨.slice (some ⟨g, 0, none⟩) 26 cap, ⟨ts, ⟨HK.out, HL.out, by omega, HL.out.ty.below⟩⟩⟩⟩⟩
        | trace_state
end Go.Proofs.YtdbniocnjhfhdaaGreatDoor
