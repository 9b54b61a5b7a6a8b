/-
  What the loader's laws rest on, part 3: walks of the program's functions and plain laws. Conditions: none but those that each theorem names.
-/
import Derived.Test.YtdbniocnjhfhdaaGreatDoorB02
import Derived.Test.YtdbniocnjhfhdaaGreatDoorB01
import Derived.Deep.WholeRow
/-
  turnstileref4.named at a class of four constants: some number.
-/
set_option linter.unusedSimpArgs false
set_option linter.unusedVariables false
set_option maxRecDepth 100000
set_option maxHeartbeats 1000000
namespace Go.Proofs.YtdbniocnjhfhdaaGreatDoor
open Go Go.RowKit Lib
theorem named4 (g cap : Nat) (n s q : ByteArray) (hn : n.size ≤ 1000) (hs : s.size ≤ 1000) (hcap : 4 ≤ cap) (w : World) (hp : PoolAt w g (four n s)) (hg : g < w.heap.size) :
    Calls Tryz.prog 54 #[.agg #[.int .i64 0, .int .i64 52, .slice (some ⟨g, 0, none⟩) 4 cap, .int .i64 33, .int .i64 2, .int .i64 4, .slice none 0 0, .slice none 0 0, .slice none 0 0], .string q] w fun e w' => ∃ i : Int, e = .returned (.int .i64 i) ∧ Below w.heap.size w w' := by
  have HP := Lib.hid hp
  clear hp
  obtain ⟨x1, x2, x3, x4, x5, x6, x7, x8, x9, x10, x11, x12⟩ := far g w.heap.size hg
  have HB := Lib.hid ((Below.refl w.heap.size w).alloc (Nat.le_refl _) (.cells #[.int .i64 0, .int .i64 52, .slice (some ⟨g, 0, none⟩) 4 cap, .int .i64 33, .int .i64 2, .int .i64 4, .slice none 0 0, .slice none 0 0, .slice none 0 0] 58))
  go_enter Tryz.func54, Tryz.ntmps54
  go_wp2_with fail
  go_loop [5] (fun i => ∃ k : Nat, k ≤ 4 ∧ i = .int .i64 k) (fun i => 4 - (intOf i).toNat)
  case atStart => exact ⟨0, by omega, rfl⟩
  case round =>
    obtain ⟨k, hk, rfl⟩ := hrel
    by_cases hlt : k < 4
    · obtain ⟨v, hv⟩ : ∃ v, (four n s)[k]? = some v := ⟨_, List.getElem?_eq_getElem (by simpa [four] using hlt)⟩
      have hf := four_fair hn hs hv
      obtain ⟨c0, c1, _, _, _⟩ := HP.out k v hv
      clear hv
      rcases hf with ⟨t, ht, rfl⟩ | ⟨a, ha0, ha1, rfl⟩
      · cases hq : (t.toList == q.toList) with
        | true =>
          go_wp2
          go_ret
          exact ⟨⟨_, rfl⟩, HB.out⟩
        | false =>
          go_wp2
          go_round
          case rel => exact ⟨k + 1, by omega, by go_num⟩
          case measure => simp [intOf]; omega
      · go_wp2
        go_round
        case rel => exact ⟨k + 1, by omega, by go_num⟩
        case measure => simp [intOf]; omega
    · go_wp2
      go_ret
      exact ⟨⟨_, rfl⟩, HB.out⟩
end Go.Proofs.YtdbniocnjhfhdaaGreatDoor
/-
  two and constant, as steps of a row that is the call's own: all below the row's base is kept.
-/
set_option linter.unusedSimpArgs false
set_option linter.unusedVariables false
set_option maxRecDepth 100000
set_option maxHeartbeats 1000000
namespace Go.Proofs.YtdbniocnjhfhdaaGreatDoor
open Go Go.RowKit Lib
theorem low_of_but {B g : Nat} {w w' : World} (h : But w.heap.size [g] w w') (hB : B ≤ w.heap.size) (hg : B ≤ g) : Below B w w' :=
  (h.mono (S' := []) hB (fun k hk hm => by simp at hm; omega)).below
theorem own_ge {w : World} {B g n cap : Nat} {e : TypeId} {xs : List Value} (h : w.ownsRow B e 1 (.slice (some ⟨g, 0, none⟩) n cap) n xs) : B ≤ g ∧ g < w.heap.size := h.lt g rfl
theorem two_new (B g n cap : Nat) (xs : List Value) (L : List Int) (m N : Nat) (hN : N = n + 2 * m) (w : World) (ho : w.ownsRow B 5 1 (.slice (some ⟨g, 0, none⟩) n cap) n xs) (hB : B ≤ w.heap.size) (h0 : 0 < n) (hn : n ≤ 100000) (hL : L.length = m) (hm : m ≤ 1000) :
    Calls Tryz.prog 52 #[.slice (some ⟨g, 0, none⟩) n cap, .slice (some ⟨w.heap.size, 0, none⟩) m m] (w.alloc (.cells (L.map (Value.int .i64)).toArray 3)) fun e w' => ∃ g' cap', e = .returned (.slice (some ⟨g', 0, none⟩) N cap') ∧
      w'.ownsRow B 5 1 (.slice (some ⟨g', 0, none⟩) N cap') N (xs ++ L.flatMap twoV) ∧ Below B w w' := by
  subst hN
  have hg := own_ge ho
  refine (two_any B g n cap xs w.heap.size 0 m m L _ (ho.alloc _) (by simp; omega) h0 hn hL hm (Nat.le_refl _) (fun j v hj => by
    have h := cells_new w (L.map (Value.int .i64)) 3 j (.int .i64 v) (by rw [List.getElem?_map, hj]; rfl)
    rw [add_cell] at h
    exact h) (by simp) (by omega)).mono ?_
  rintro e w' ⟨g', c', rfl, ho', hb, hg'⟩
  exact ⟨g', c', rfl, ho', ((Below.refl B w).alloc hB _).trans (low_of_but hb (by simp; omega) hg.1)⟩
theorem two_nothing (g n cap : Nat) (w : World) :
    Calls Tryz.prog 52 #[.slice (some ⟨g, 0, none⟩) n cap, .slice none 0 0] w fun e w' => e = .returned (.slice (some ⟨g, 0, none⟩) n cap) ∧ w = w' := by
  go_enter Tryz.func52, Tryz.ntmps52
  go_wp2_with fail
  refine wp_loop_rounds 1 ?_
  rw [rounds_succ]
  go_wp2_with fail
  go_ret
  exact ⟨rfl, rfl⟩
theorem class_low (B g n cap : Nat) (xs : List Value) (a : Int) (N : Nat) (hN : N = n + 3) (w : World) (ho : w.ownsRow B 5 1 (.slice (some ⟨g, 0, none⟩) n cap) n xs) (hB : B ≤ w.heap.size) (h0 : 0 < n) (hn : n ≤ 90000) :
    Calls Tryz.prog 53 #[.slice (some ⟨g, 0, none⟩) n cap, .agg #[.int .i64 7, .string ⟨#[]⟩, .int .i64 0, .int .i64 a, .int .i64 0]] w fun e w' => ∃ g' cap', e = .returned (.slice (some ⟨g', 0, none⟩) N cap') ∧
      w'.ownsRow B 5 1 (.slice (some ⟨g', 0, none⟩) N cap') N (xs ++ ([.int .u8 7] ++ twoV a)) ∧ Below B w w' := by
  subst hN
  have hg := own_ge ho
  refine (const_class B g n cap xs a w ho hB h0 hn).mono ?_
  rintro e w' ⟨g', c', rfl, ho', hb, hg'⟩
  exact ⟨g', c', rfl, ho', low_of_but hb hB hg.1⟩
theorem text_low (B g n cap : Nat) (xs : List Value) (s : ByteArray) (N : Nat) (hN : N = n + 3 + s.size) (w : World) (ho : w.ownsRow B 5 1 (.slice (some ⟨g, 0, none⟩) n cap) n xs) (hB : B ≤ w.heap.size) (h0 : 0 < n) (hn : n ≤ 90000) (hs : s.size ≤ 1000) :
    Calls Tryz.prog 53 #[.slice (some ⟨g, 0, none⟩) n cap, .agg #[.int .i64 1, .string s, .int .i64 0, .int .i64 0, .int .i64 0]] w fun e w' => ∃ g' cap', e = .returned (.slice (some ⟨g', 0, none⟩) N cap') ∧
      w'.ownsRow B 5 1 (.slice (some ⟨g', 0, none⟩) N cap') N (xs ++ ([.int .u8 1] ++ twoV s.size ++ strCells s)) ∧ Below B w w' := by
  subst hN
  have hg := own_ge ho
  refine (const_text B g n cap xs s w ho hB h0 hn hs).mono ?_
  rintro e w' ⟨g', c', rfl, ho', hb, hg'⟩
  exact ⟨g', c', rfl, ho', low_of_but hb hB hg.1⟩
end Go.Proofs.YtdbniocnjhfhdaaGreatDoor
/-
  The types that there always are, as plain data; core.all and the maker of one of them.
-/
set_option linter.unusedSimpArgs false
set_option linter.unusedVariables false
set_option maxRecDepth 100000
set_option maxHeartbeats 1000000
namespace Go.Proofs.YtdbniocnjhfhdaaGreatDoor
open Go Go.RowKit Lib
def coreL : List (List UInt8 × List UInt8) := [
  ([79, 98, 106, 101, 99, 116], []),
  ([84, 104, 114, 111, 119, 97, 98, 108, 101], [79, 98, 106, 101, 99, 116]),
  ([69, 120, 99, 101, 112, 116, 105, 111, 110], [84, 104, 114, 111, 119, 97, 98, 108, 101]),
  ([82, 117, 110, 116, 105, 109, 101, 69, 120, 99, 101, 112, 116, 105, 111, 110], [69, 120, 99, 101, 112, 116, 105, 111, 110]),
  ([69, 114, 114, 111, 114], [84, 104, 114, 111, 119, 97, 98, 108, 101]),
  ([76, 105, 110, 107, 97, 103, 101, 69, 114, 114, 111, 114], [69, 114, 114, 111, 114]),
  ([86, 105, 114, 116, 117, 97, 108, 77, 97, 99, 104, 105, 110, 101, 69, 114, 114, 111, 114], [69, 114, 114, 111, 114]),
  ([78, 111, 67, 108, 97, 115, 115, 68, 101, 102, 70, 111, 117, 110, 100, 69, 114, 114, 111, 114], [76, 105, 110, 107, 97, 103, 101, 69, 114, 114, 111, 114]),
  ([67, 108, 97, 115, 115, 70, 111, 114, 109, 97, 116, 69, 114, 114, 111, 114], [76, 105, 110, 107, 97, 103, 101, 69, 114, 114, 111, 114]),
  ([85, 110, 115, 117, 112, 112, 111, 114, 116, 101, 100, 67, 108, 97, 115, 115, 86, 101, 114, 115, 105, 111, 110, 69, 114, 114, 111, 114], [67, 108, 97, 115, 115, 70, 111, 114, 109, 97, 116, 69, 114, 114, 111, 114]),
  ([67, 108, 97, 115, 115, 67, 105, 114, 99, 117, 108, 97, 114, 105, 116, 121, 69, 114, 114, 111, 114], [76, 105, 110, 107, 97, 103, 101, 69, 114, 114, 111, 114]),
  ([86, 101, 114, 105, 102, 121, 69, 114, 114, 111, 114], [76, 105, 110, 107, 97, 103, 101, 69, 114, 114, 111, 114]),
  ([69, 120, 99, 101, 112, 116, 105, 111, 110, 73, 110, 73, 110, 105, 116, 105, 97, 108, 105, 122, 101, 114, 69, 114, 114, 111, 114], [76, 105, 110, 107, 97, 103, 101, 69, 114, 114, 111, 114]),
  ([73, 110, 99, 111, 109, 112, 97, 116, 105, 98, 108, 101, 67, 108, 97, 115, 115, 67, 104, 97, 110, 103, 101, 69, 114, 114, 111, 114], [76, 105, 110, 107, 97, 103, 101, 69, 114, 114, 111, 114]),
  ([78, 111, 83, 117, 99, 104, 70, 105, 101, 108, 100, 69, 114, 114, 111, 114], [73, 110, 99, 111, 109, 112, 97, 116, 105, 98, 108, 101, 67, 108, 97, 115, 115, 67, 104, 97, 110, 103, 101, 69, 114, 114, 111, 114]),
  ([78, 111, 83, 117, 99, 104, 77, 101, 116, 104, 111, 100, 69, 114, 114, 111, 114], [73, 110, 99, 111, 109, 112, 97, 116, 105, 98, 108, 101, 67, 108, 97, 115, 115, 67, 104, 97, 110, 103, 101, 69, 114, 114, 111, 114]),
  ([65, 98, 115, 116, 114, 97, 99, 116, 77, 101, 116, 104, 111, 100, 69, 114, 114, 111, 114], [73, 110, 99, 111, 109, 112, 97, 116, 105, 98, 108, 101, 67, 108, 97, 115, 115, 67, 104, 97, 110, 103, 101, 69, 114, 114, 111, 114]),
  ([73, 110, 115, 116, 97, 110, 116, 105, 97, 116, 105, 111, 110, 69, 114, 114, 111, 114], [73, 110, 99, 111, 109, 112, 97, 116, 105, 98, 108, 101, 67, 108, 97, 115, 115, 67, 104, 97, 110, 103, 101, 69, 114, 114, 111, 114]),
  ([73, 108, 108, 101, 103, 97, 108, 65, 99, 99, 101, 115, 115, 69, 114, 114, 111, 114], [73, 110, 99, 111, 109, 112, 97, 116, 105, 98, 108, 101, 67, 108, 97, 115, 115, 67, 104, 97, 110, 103, 101, 69, 114, 114, 111, 114]),
  ([79, 117, 116, 79, 102, 77, 101, 109, 111, 114, 121, 69, 114, 114, 111, 114], [86, 105, 114, 116, 117, 97, 108, 77, 97, 99, 104, 105, 110, 101, 69, 114, 114, 111, 114]),
  ([83, 116, 97, 99, 107, 79, 118, 101, 114, 102, 108, 111, 119, 69, 114, 114, 111, 114], [86, 105, 114, 116, 117, 97, 108, 77, 97, 99, 104, 105, 110, 101, 69, 114, 114, 111, 114]),
  ([78, 117, 108, 108, 80, 111, 105, 110, 116, 101, 114, 69, 120, 99, 101, 112, 116, 105, 111, 110], [82, 117, 110, 116, 105, 109, 101, 69, 120, 99, 101, 112, 116, 105, 111, 110]),
  ([65, 114, 105, 116, 104, 109, 101, 116, 105, 99, 69, 120, 99, 101, 112, 116, 105, 111, 110], [82, 117, 110, 116, 105, 109, 101, 69, 120, 99, 101, 112, 116, 105, 111, 110]),
  ([67, 108, 97, 115, 115, 67, 97, 115, 116, 69, 120, 99, 101, 112, 116, 105, 111, 110], [82, 117, 110, 116, 105, 109, 101, 69, 120, 99, 101, 112, 116, 105, 111, 110])]
def langL : List UInt8 := [106, 97, 118, 97, 47, 108, 97, 110, 103, 47]
/-- A name with what stands ahead of it; none: none. -/
def inLang (s : List UInt8) : List UInt8 := if s = [] then [] else langL ++ s
def pairCells : Array Value := (coreL.flatMap fun p => [Value.string ⟨p.1.toArray⟩, Value.string ⟨p.2.toArray⟩]).toArray
theorem wpList_part {P : Program} {ops : Array Oper} {Q : Exit → Act → World → Prop} : ∀ (l l2 : List Oper) (a : Act) (w : World) (a' : Act) (w' : World),
    runList P ops l a w = some (a', w') → wpList P ops Q l2 a' w' → wpList P ops Q (l ++ l2) a w
  | [], l2, a, w, a', w', h, hq => by
    simp only [runList, Option.some.injEq, Prod.mk.injEq] at h
    obtain ⟨rfl, rfl⟩ := h
    exact hq
  | o :: rest, l2, a, w, a', w', h, hq => by
    unfold runList at h
    show wpList P ops Q (o :: (rest ++ l2)) a w
    unfold wpList
    split at h
    · rename_i hw
      rw [if_pos hw]
      left
      unfold Oper.wp
      split at h
      · rename_i v w1 hr
        rw [hr]
        exact wpList_part rest l2 _ _ _ _ h hq
      · rename_i w1 hr
        rw [hr]
        exact wpList_part rest l2 _ _ _ _ h hq
      · cases h
    · rename_i hw
      rw [if_neg (by rw [hw]; decide)]
      exact wpList_part rest l2 _ _ _ _ h hq
theorem wpList_split {P : Program} {ops : Array Oper} {Q : Exit → Act → World → Prop} {l : List Oper} {a : Act} {w : World} (n : Nat) (a' : Act) (w' : World)
    (h : runList P ops (l.take n) a w = some (a', w')) (hq : wpList P ops Q (l.drop n) a' w') : wpList P ops Q l a w := by
  have := wpList_part (l.take n) (l.drop n) a w a' w' h hq
  rwa [List.take_append_drop] at this
theorem wpList_pure {P : Program} {ops : Array Oper} {Q : Exit → Act → World → Prop} {l : List Oper} {a : Act} {w : World} (n : Nat) (a' : Act)
    (h : runList P ops (l.take n) a w = some (a', w)) (hq : wpList P ops Q (l.drop n) a' w) : wpList P ops Q l a w := wpList_split n a' w h hq
theorem coreall_any (w : World) : Calls Tryz.prog 40 #[] w fun e w' => e = .returned (.agg pairCells) ∧ Below w.heap.size w w' := by
  go_enter Tryz.func40, Tryz.ntmps40
  go_wp2_with (first | (refine wpList_pure (l := { dst := some 1, op := _, type := _, pos := _, after := _, guard := _ } :: _) 25 { tmps := #[.pointer (some ⟨w.heap.size, 0, none⟩), .agg #[.string ⟨#[79, 98, 106, 101, 99, 116]⟩, .string ⟨#[]⟩], .agg #[.string ⟨#[84, 104, 114, 111, 119, 97, 98, 108, 101]⟩, .string ⟨#[79, 98, 106, 101, 99, 116]⟩], .agg #[.string ⟨#[69, 120, 99, 101, 112, 116, 105, 111, 110]⟩, .string ⟨#[84, 104, 114, 111, 119, 97, 98, 108, 101]⟩], .agg #[.string ⟨#[82, 117, 110, 116, 105, 109, 101, 69, 120, 99, 101, 112, 116, 105, 111, 110]⟩, .string ⟨#[69, 120, 99, 101, 112, 116, 105, 111, 110]⟩], .agg #[.string ⟨#[69, 114, 114, 111, 114]⟩, .string ⟨#[84, 104, 114, 111, 119, 97, 98, 108, 101]⟩], .agg #[.string ⟨#[76, 105, 110, 107, 97, 103, 101, 69, 114, 114, 111, 114]⟩, .string ⟨#[69, 114, 114, 111, 114]⟩], .agg #[.string ⟨#[86, 105, 114, 116, 117, 97, 108, 77, 97, 99, 104, 105, 110, 101, 69, 114, 114, 111, 114]⟩, .string ⟨#[69, 114, 114, 111, 114]⟩], .agg #[.string ⟨#[78, 111, 67, 108, 97, 115, 115, 68, 101, 102, 70, 111, 117, 110, 100, 69, 114, 114, 111, 114]⟩, .string ⟨#[76, 105, 110, 107, 97, 103, 101, 69, 114, 114, 111, 114]⟩], .agg #[.string ⟨#[67, 108, 97, 115, 115, 70, 111, 114, 109, 97, 116, 69, 114, 114, 111, 114]⟩, .string ⟨#[76, 105, 110, 107, 97, 103, 101, 69, 114, 114, 111, 114]⟩], .agg #[.string ⟨#[85, 110, 115, 117, 112, 112, 111, 114, 116, 101, 100, 67, 108, 97, 115, 115, 86, 101, 114, 115, 105, 111, 110, 69, 114, 114, 111, 114]⟩, .string ⟨#[67, 108, 97, 115, 115, 70, 111, 114, 109, 97, 116, 69, 114, 114, 111, 114]⟩], .agg #[.string ⟨#[67, 108, 97, 115, 115, 67, 105, 114, 99, 117, 108, 97, 114, 105, 116, 121, 69, 114, 114, 111, 114]⟩, .string ⟨#[76, 105, 110, 107, 97, 103, 101, 69, 114, 114, 111, 114]⟩], .agg #[.string ⟨#[86, 101, 114, 105, 102, 121, 69, 114, 114, 111, 114]⟩, .string ⟨#[76, 105, 110, 107, 97, 103, 101, 69, 114, 114, 111, 114]⟩], .agg #[.string ⟨#[69, 120, 99, 101, 112, 116, 105, 111, 110, 73, 110, 73, 110, 105, 116, 105, 97, 108, 105, 122, 101, 114, 69, 114, 114, 111, 114]⟩, .string ⟨#[76, 105, 110, 107, 97, 103, 101, 69, 114, 114, 111, 114]⟩], .agg #[.string ⟨#[73, 110, 99, 111, 109, 112, 97, 116, 105, 98, 108, 101, 67, 108, 97, 115, 115, 67, 104, 97, 110, 103, 101, 69, 114, 114, 111, 114]⟩, .string ⟨#[76, 105, 110, 107, 97, 103, 101, 69, 114, 114, 111, 114]⟩], .agg #[.string ⟨#[78, 111, 83, 117, 99, 104, 70, 105, 101, 108, 100, 69, 114, 114, 111, 114]⟩, .string ⟨#[73, 110, 99, 111, 109, 112, 97, 116, 105, 98, 108, 101, 67, 108, 97, 115, 115, 67, 104, 97, 110, 103, 101, 69, 114, 114, 111, 114]⟩], .agg #[.string ⟨#[78, 111, 83, 117, 99, 104, 77, 101, 116, 104, 111, 100, 69, 114, 114, 111, 114]⟩, .string ⟨#[73, 110, 99, 111, 109, 112, 97, 116, 105, 98, 108, 101, 67, 108, 97, 115, 115, 67, 104, 97, 110, 103, 101, 69, 114, 114, 111, 114]⟩], .agg #[.string ⟨#[65, 98, 115, 116, 114, 97, 99, 116, 77, 101, 116, 104, 111, 100, 69, 114, 114, 111, 114]⟩, .string ⟨#[73, 110, 99, 111, 109, 112, 97, 116, 105, 98, 108, 101, 67, 108, 97, 115, 115, 67, 104, 97, 110, 103, 101, 69, 114, 114, 111, 114]⟩], .agg #[.string ⟨#[73, 110, 115, 116, 97, 110, 116, 105, 97, 116, 105, 111, 110, 69, 114, 114, 111, 114]⟩, .string ⟨#[73, 110, 99, 111, 109, 112, 97, 116, 105, 98, 108, 101, 67, 108, 97, 115, 115, 67, 104, 97, 110, 103, 101, 69, 114, 114, 111, 114]⟩], .agg #[.string ⟨#[73, 108, 108, 101, 103, 97, 108, 65, 99, 99, 101, 115, 115, 69, 114, 114, 111, 114]⟩, .string ⟨#[73, 110, 99, 111, 109, 112, 97, 116, 105, 98, 108, 101, 67, 108, 97, 115, 115, 67, 104, 97, 110, 103, 101, 69, 114, 114, 111, 114]⟩], .agg #[.string ⟨#[79, 117, 116, 79, 102, 77, 101, 109, 111, 114, 121, 69, 114, 114, 111, 114]⟩, .string ⟨#[86, 105, 114, 116, 117, 97, 108, 77, 97, 99, 104, 105, 110, 101, 69, 114, 114, 111, 114]⟩], .agg #[.string ⟨#[83, 116, 97, 99, 107, 79, 118, 101, 114, 102, 108, 111, 119, 69, 114, 114, 111, 114]⟩, .string ⟨#[86, 105, 114, 116, 117, 97, 108, 77, 97, 99, 104, 105, 110, 101, 69, 114, 114, 111, 114]⟩], .agg #[.string ⟨#[78, 117, 108, 108, 80, 111, 105, 110, 116, 101, 114, 69, 120, 99, 101, 112, 116, 105, 111, 110]⟩, .string ⟨#[82, 117, 110, 116, 105, 109, 101, 69, 120, 99, 101, 112, 116, 105, 111, 110]⟩], .agg #[.string ⟨#[65, 114, 105, 116, 104, 109, 101, 116, 105, 99, 69, 120, 99, 101, 112, 116, 105, 111, 110]⟩, .string ⟨#[82, 117, 110, 116, 105, 109, 101, 69, 120, 99, 101, 112, 116, 105, 111, 110]⟩], .agg #[.string ⟨#[67, 108, 97, 115, 115, 67, 97, 115, 116, 69, 120, 99, 101, 112, 116, 105, 111, 110]⟩, .string ⟨#[82, 117, 110, 116, 105, 109, 101, 69, 120, 99, 101, 112, 116, 105, 111, 110]⟩], .agg pairCells], defers := [] } (by kernel_rfl) ?_; simp only [List.drop_succ_cons, List.drop_zero]; refine wpList_plain rfl fun K hK => ?_; refine wp_store_row 95 _ _ rfl w.heap.size pairCells rfl rfl 95 _ (heap_alloc_new _ _) (by kernel_rfl) (by kernel_rfl) (by kernel_rfl) ?_; refine hK _ _ ?_; rw [World.setRow_alloc_new]; refine stop_here ?_))
  refine go_on ?_
  have hload := run_loadVar_row (P := Tryz.prog) (w.alloc (.cells pairCells 95)) w.heap.size 95 95 pairCells (0, 0) _ (heap_alloc_new _ _) Tryz.underlying95 rfl (by kernel_rfl)
  go_wp2_with fail
  refine bodyPost_ret (v := .agg pairCells) ?_ rfl ⟨rfl, (Below.refl _ _).alloc (Nat.le_refl _) _⟩
  simp [results, Tryz.results40, asAddr, Result.andThen, hload]
theorem heap_new_at {X : World} {o : Obj} {k : Nat} (hk : k = X.heap.size) : (X.alloc o).heap[k]? = some o := by
  subst hk
  exact heap_alloc_new _ _
theorem made_any (n sp : List UInt8) (hn : n.length ≤ 1000) (hsp : sp.length ≤ 1000) (w : World) :
    Calls Tryz.prog 39 #[.agg #[.string ⟨n.toArray⟩, .string ⟨sp.toArray⟩]] w fun e w' => (∃ g, e = .returned (.agg #[.string ⟨(langL ++ n).toArray⟩, .string ⟨(inLang sp).toArray⟩, .int .i64 33, .slice none 0 0, .slice none 0 0, .slice (some ⟨g, 0, none⟩) 1 1]) ∧
      w.heap.size ≤ g ∧ g < w'.heap.size ∧ w'.heap[g]? = some (.cells #[.int .i64 1, .string ⟨#[60, 105, 110, 105, 116, 62]⟩, .string ⟨#[40, 41, 86]⟩, .bool true, .int .i64 0] 52)) ∧ Below w.heap.size w w' := by
  have cat : ∀ l : List UInt8, (⟨#[106, 97, 118, 97, 47, 108, 97, 110, 103, 47]⟩ : ByteArray) ++ ⟨l.toArray⟩ = ⟨(langL ++ l).toArray⟩ := fun l => by
    apply ByteArray.ext
    simp [langL]
  by_cases hs : sp = []
  · subst hs
    go_enter Tryz.func39, Tryz.ntmps39
    go_wp2
    refine bodyPost_ret (v := .agg #[.string ⟨(langL ++ n).toArray⟩, .string ⟨#[]⟩, .int .i64 33, .slice none 0 0, .slice none 0 0, .slice (some ⟨w.heap.size + 1 + 1 + 1, 0, none⟩) 1 1]) ?_ rfl ?_
    · simp [results, Tryz.results39, go_sem, cat]
    · refine ⟨⟨_, rfl, by omega, by simp [World.setCell], ?_⟩, ?_⟩
      · exact heap_new_at (by simp)
      · repeat' (first | with_reducible exact Below.refl _ _ | with_reducible refine Below.setCell ?_ ?_ _ | with_reducible refine Below.alloc ?_ ?_ _ | (simp; done) | (simp; omega) | omega)
  · have hs1 : sp.isEmpty = false := by cases sp <;> simp_all
    go_enter Tryz.func39, Tryz.ntmps39
    go_wp2
    have hil : inLang sp = langL ++ sp := by simp [inLang, hs]
    rw [hil]
    refine bodyPost_ret (v := .agg #[.string ⟨(langL ++ n).toArray⟩, .string ⟨(langL ++ sp).toArray⟩, .int .i64 33, .slice none 0 0, .slice none 0 0, .slice (some ⟨w.heap.size + 1 + 1 + 1, 0, none⟩) 1 1]) ?_ rfl ?_
    · simp [results, Tryz.results39, go_sem, cat]
    · refine ⟨⟨_, rfl, by omega, by simp [World.setCell], ?_⟩, ?_⟩
      · exact heap_new_at (by simp)
      · repeat' (first | with_reducible exact Below.refl _ _ | with_reducible refine Below.setCell ?_ ?_ _ | with_reducible refine Below.alloc ?_ ?_ _ | (simp; done) | (simp; omega) | omega)
end Go.Proofs.YtdbniocnjhfhdaaGreatDoor
/-
  core.Types: the 26 types that there always are.
-/
set_option linter.unusedSimpArgs false
set_option linter.unusedVariables false
set_option maxRecDepth 100000
set_option maxHeartbeats 1000000
namespace Go.Proofs.YtdbniocnjhfhdaaGreatDoor
open Go Go.RowKit Lib
/-- An element of an array value whose elements are structs. -/
theorem run_index_agg {P : Program} {t e n : Nat} {d : TypeDesc} {z : Value} {sz b : Nat} (ht : P.underlying t = some (.array n e)) (hd : P.underlying e = some d)
    (hna : (match d with | .struct _ => true | .array _ _ => true | _ => false) = true) (hi : (P.info? e).map (fun i => (i.zero, i.size, i.bytes)) = some (some z, sz, b))
    (w : World) (k : IntKind) (cs : Array Value) (x : Int) (h0 : 0 ≤ x) (hx : x < n) :
    (Instr.index t (.agg cs) (.int k x)).run P w = .ok (.agg (cs.extract (x.toNat * sz) (x.toNat * sz + sz))) w := by
  obtain ⟨i, hi, _, h1, _⟩ := info_parts hi
  have hag : (isAgg e).run P w = .ok true w := by
    simp only [isAgg, run_underlying hd, Sem.run_bind, Result.andThen]
    cases d <;> simp_all
  simp only [Instr.index, asIntOf, run_underlying ht, Sem.run_bind, Sem.run_pure, Result.andThen, h0, hx, and_self, if_true, sizeOf, typeInfo, hi, h1, part, hag]
  simp [hi, hag, h1]
theorem extract_two {α : Type} (f g : α → Value) : ∀ (l : List α) (k : Nat) (x : α), l[k]? = some x → ((l.flatMap fun r => [f r, g r]).toArray).extract (k * 2) (k * 2 + 2) = #[f x, g x] := by
  intro l k x h
  have key : ∀ (l : List α) (k : Nat) (x : α), l[k]? = some x → ((l.flatMap fun r => [f r, g r]).drop (k * 2)).take 2 = [f x, g x] := by
    intro l
    induction l with
    | nil => intro k x h; simp at h
    | cons y l ih =>
      intro k x h
      rcases k with _ | k
      · simp at h
        subst h
        rfl
      · have := ih k x (by simpa using h)
        rw [List.flatMap_cons, show (k + 1) * 2 = k * 2 + 2 by omega]
        exact this
  have := key l k x h
  apply Array.toList_inj.1
  simp only [Array.toList_extract, List.extract_eq_take_drop]
  rw [show k * 2 + 2 - k * 2 = 2 by omega]
  exact this
def coreAt (k : Nat) : List UInt8 × List UInt8 := coreL.getD k ([], [])
theorem core_get {k : Nat} (h : k < 24) : coreL[k]? = some (coreAt k) := by
  have hl : coreL.length = 24 := rfl
  unfold coreAt
  rw [List.getD_eq_getElem?_getD, List.getElem?_eq_getElem (by omega)]
  rfl
theorem core_index (w : World) (k : Nat) (h : k < 24) : (Instr.index 95 (.agg pairCells) (.int .i64 k)).run Tryz.prog w = .ok (.agg #[.string ⟨(coreAt k).1.toArray⟩, .string ⟨(coreAt k).2.toArray⟩]) w := by
  have h1 := run_index_agg (P := Tryz.prog) (z := .agg #[.string ⟨#[]⟩, .string ⟨#[]⟩]) (sz := 2) (b := 32) Tryz.underlying95 Tryz.underlying93 rfl (by kernel_rfl) w .i64 pairCells k (by omega) (by omega)
  rw [h1, Int.toNat_natCast]
  unfold pairCells
  rw [extract_two _ _ coreL k _ (core_get h)]
theorem core_short (k : Nat) (h : k < 24) : (coreAt k).1.length ≤ 1000 ∧ (coreAt k).2.length ≤ 1000 := by
  have : ∀ k, k < 24 → (coreAt k).1.length ≤ 1000 ∧ (coreAt k).2.length ≤ 1000 := by decide
  exact this k h
/-- A type as it lies in the list of types. -/
structure TyV where
  name : List UInt8
  sup : List UInt8
  acc : Int
  ifs : Value
  flds : Value
  mths : Value
def TyV.cells (t : TyV) : List Value := [.string ⟨t.name.toArray⟩, .string ⟨t.sup.toArray⟩, .int .i64 t.acc, t.ifs, t.flds, t.mths]
def tyCells (ts : List TyV) : List Value := ts.flatMap TyV.cells
/-- A slice that can be read, its row not block g. -/
def RdC (w : World) (g : Nat) (size : Nat) (v : Value) : Prop :=
  ∃ A n cap, v = .slice A n cap ∧ n ≤ cap ∧ n ≤ 65536 ∧ (0 < n → ∃ b off, A = some ⟨b, off, none⟩ ∧ b < w.heap.size ∧ b ≠ g ∧ ∃ news : List Value, news.length = n * size ∧ (∀ u ∈ news, u.oneCell' = true) ∧ ∀ j u, news[j]? = some u → w.cell? ⟨b, off + j, none⟩ = some u)
theorem rdC_nil (w : World) (g size : Nat) : RdC w g size (.slice none 0 0) := ⟨none, 0, 0, rfl, Nat.le_refl _, by omega, fun h => absurd h (by omega)⟩
theorem RdC.keep {w w' : World} {g g' size : Nat} {v : Value} (h : RdC w g size v) (hb : ∀ k, k < w.heap.size → k ≠ g → w'.heap[k]? = w.heap[k]?) (hs : w.heap.size ≤ w'.heap.size) (hg : g' = g ∨ w.heap.size ≤ g') : RdC w' g' size v := by
  obtain ⟨A, n, cap, rfl, h1, h2, h3⟩ := h
  refine ⟨A, n, cap, rfl, h1, h2, fun h0 => ?_⟩
  obtain ⟨b, off, e, hlt, hne, news, hl, ho, hc⟩ := h3 h0
  have hne' : b ≠ g' := by
    rcases hg with hg | hg
    · rw [hg]
      exact hne
    · exact Nat.ne_of_lt (Nat.lt_of_lt_of_le hlt hg)
  refine ⟨b, off, e, Nat.lt_of_lt_of_le hlt hs, hne', news, hl, ho, fun j u hu => ?_⟩
  rw [World.cell?_of_block (w := w) (hb b hlt hne)]
  exact hc j u hu
def TyV.reads (w : World) (g : Nat) (t : TyV) : Prop := RdC w g 1 t.ifs ∧ RdC w g 5 t.flds ∧ RdC w g 5 t.mths
theorem TyV.reads.keep {w w' : World} {g g' : Nat} {t : TyV} (h : t.reads w g) (hb : ∀ k, k < w.heap.size → k ≠ g → w'.heap[k]? = w.heap[k]?) (hs : w.heap.size ≤ w'.heap.size) (hg : g' = g ∨ w.heap.size ≤ g') : t.reads w' g' :=
  ⟨RdC.keep h.1 hb hs hg, RdC.keep h.2.1 hb hs hg, RdC.keep h.2.2 hb hs hg⟩
theorem info_type : (Tryz.prog.info? 39).map (fun i => (i.zero, i.size, i.bytes)) = some (some (.agg #[.string ⟨#[]⟩, .string ⟨#[]⟩, .int .i64 0, .slice none 0 0, .slice none 0 0, .slice none 0 0]), 6, 112) := by kernel_rfl
/-- What is told of a type. -/
abbrev TyK := List UInt8 × List UInt8 × Int
def TyV.key (t : TyV) : TyK := (t.name, t.sup, t.acc)
def coreKey (k : Nat) : TyK := (langL ++ (coreAt k).1, inLang (coreAt k).2, 33)
/-- A list of types that the call has made: the row of them, and what they lead to. -/
structure TyRow (w W : World) (v : Value) (ts : List TyV) : Prop where
  own : W.ownsRow w.heap.size 39 6 v ts.length (tyCells ts)
  reads : ∀ g, v.ownBlock = some g → ∀ t ∈ ts, t.reads W g
  below : Below w.heap.size w W
theorem TyRow.keep {w W W' : World} {v : Value} {ts : List TyV} (h : TyRow w W v ts) (hb : Below W.heap.size W W') : TyRow w W' v ts where
  own := own_heap h.own fun q hq => hb.block q (h.own.lt q hq).2
  reads := fun g hg t ht => (h.reads g hg t ht).keep (fun k hk _ => hb.block k hk) hb.size (.inl rfl)
  below := h.below.trans (hb.mono h.below.size)
theorem tyCells_snoc (ts : List TyV) (t : TyV) : tyCells (ts ++ [t]) = tyCells ts ++ t.cells := by simp [tyCells]
/-- One more type at the end. -/
theorem TyRow.snoc {w W W' : World} {v : Value} {ts : List TyV} (h : TyRow w W v ts) {t : TyV} {g' cap : Nat} (ho : W'.ownsRow w.heap.size 39 6 (.slice (some ⟨g', 0, none⟩) (ts.length + 1) cap) (ts.length + 1) (tyCells ts ++ t.cells)) (hg : W.grownBy W' v.ownBlock)
    (hgg : v.ownBlock = some g' ∨ g' = W.heap.size) (hb : Below w.heap.size W W') (hr : ∀ g, v.ownBlock = some g ∨ (v.ownBlock = none ∧ g = W.heap.size) → t.reads W g) : TyRow w W' (.slice (some ⟨g', 0, none⟩) (ts.length + 1) cap) (ts ++ [t]) := by
  refine ⟨own_eq ho (by rw [List.length_append]; rfl) (tyCells_snoc ts t).symm, fun g hg' u hu => ?_, h.below.trans hb⟩
  have e : g' = g := by simpa [Value.ownBlock] using hg'
  subst e
  rcases hv : v.ownBlock with _ | g0
  · rw [hv] at hg hgg
    have hall : ∀ k, k < W.heap.size → k ≠ W.heap.size → W'.heap[k]? = W.heap[k]? := fun k hk _ => hg.block k hk (by simp)
    have hg2 : g' = W.heap.size := by simpa using hgg
    rcases List.mem_append.1 hu with hu | hu
    · exfalso
      rcases h.own.2 with ⟨_, h0⟩ | ⟨g, c, cur, rfl, _⟩
      · have : ts = [] := List.eq_nil_of_length_eq_zero h0
        rw [this] at hu
        cases hu
      · simp [Value.ownBlock] at hv
    · have : u = t := by simpa using hu
      subst this
      exact (hr W.heap.size (.inr ⟨hv, rfl⟩)).keep hall hg.size (.inl hg2)
  · rw [hv] at hg hgg
    have hall : ∀ k, k < W.heap.size → k ≠ g0 → W'.heap[k]? = W.heap[k]? := fun k hk hne => hg.block k hk (fun e => hne (by injection e))
    have hg2 : g' = g0 ∨ W.heap.size ≤ g' := by
      rcases hgg with e | e
      · left
        injection e with e
        exact e.symm
      · right
        omega
    rcases List.mem_append.1 hu with hu | hu
    · exact (h.reads g0 hv u hu).keep hall hg.size hg2
    · have : u = t := by simpa using hu
      subst this
      exact (hr g0 (.inl hv)).keep hall hg.size hg2
theorem TyRow.own_at {w W : World} {v : Value} {ts : List TyV} {n : Nat} (h : TyRow w W v ts) (hn : ts.length = n) : W.ownsRow w.heap.size 39 6 v n (tyCells ts) := by
  subst hn
  exact h.own
theorem TyRow.snoc_at {w W W' : World} {v : Value} {ts : List TyV} {n : Nat} (h : TyRow w W v ts) (hn : ts.length = n) {t : TyV} {g' cap : Nat} (ho : W'.ownsRow w.heap.size 39 6 (.slice (some ⟨g', 0, none⟩) (n + 1) cap) (n + 1) (tyCells ts ++ t.cells)) (hg : W.grownBy W' v.ownBlock)
    (hgg : v.ownBlock = some g' ∨ g' = W.heap.size) (hb : Below w.heap.size W W') (hr : ∀ g, v.ownBlock = some g ∨ (v.ownBlock = none ∧ g = W.heap.size) → t.reads W g) : TyRow w W' (.slice (some ⟨g', 0, none⟩) (n + 1) cap) (ts ++ [t]) := by
  subst hn
  exact h.snoc ho hg hgg hb hr
end Go.Proofs.YtdbniocnjhfhdaaGreatDoor
/-
  The walk of core.Types.
-/
set_option linter.unusedSimpArgs false
set_option linter.unusedVariables false
set_option maxRecDepth 100000
set_option maxHeartbeats 1000000
namespace Go.Proofs.YtdbniocnjhfhdaaGreatDoor
open Go Go.RowKit Lib
def coreV (k : Nat) (m : Value) : TyV := ⟨langL ++ (coreAt k).1, inLang (coreAt k).2, 33, .slice none 0 0, .slice none 0 0, m⟩
def coreKeys : List TyK := (List.range 24).map coreKey ++ [([118, 109, 47, 84, 97, 115, 107], langL ++ [79, 98, 106, 101, 99, 116], 1537), ([118, 109, 47, 83, 121, 115], langL ++ [79, 98, 106, 101, 99, 116], 49)]
theorem types_any (w : World) : Calls Tryz.prog 25 #[] w fun e w' => ∃ g cap ts, e = .returned (.slice (some ⟨g, 0, none⟩) 26 cap) ∧ ts.map TyV.key = coreKeys ∧ TyRow w w' (.slice (some ⟨g, 0, none⟩) 26 cap) ts := by
  go_enter Tryz.func25, Tryz.ntmps25
  go_wp2_with (go_at_call 40; refine (coreall_any _).mono ?_; rintro e w1 ⟨rfl, hb1⟩; have HB1 := Lib.hid hb1; clear hb1)
  have hz1 := HB1.out.size
  go_loopw [2, 6] (fun v i wr => ∃ (k : Nat) (ts : List TyV), i = .int .i64 k ∧ k ≤ 24 ∧ ts.length = k ∧ Hid (ts.map TyV.key = (List.range k).map coreKey) ∧ Hid (TyRow w wr v ts)) (fun _ i _ => 24 - (intOf i).toNat)
  case atStart => exact ⟨0, [], rfl, by omega, rfl, by first | exact rfl | exact Lib.hid rfl, by first | exact ⟨World.ownsRow_nil _ _ _ _, fun g h => by simp [Value.ownBlock] at h, HB1.out⟩ | exact Lib.hid ⟨World.ownsRow_nil _ _ _ _, fun g h => by simp [Value.ownBlock] at h, HB1.out⟩⟩
  case round =>
    obtain ⟨k, ts, rfl, hk, hl, HK, HT⟩ := hrel
    have hzr := HT.out.below.size
    by_cases hlt : k < 24
    · have hix := fun W => core_index W k hlt
      obtain ⟨hn1, hn2⟩ := core_short k hlt
      have HM := Lib.hid fun W => made_any (coreAt k).1 (coreAt k).2 hn1 hn2 W
      clear hn1 hn2
      go_wp2_with (go_at_call 39; refine (HM.out _).mono ?_; rintro e w2 ⟨⟨gm, rfl, hgm1, hgm2, hgm3⟩, hb2⟩; refine stop_here ?_)
      have HT2 := Lib.hid ((HT.out.keep ((Below.refl _ _).alloc (Nat.le_refl _) _)).keep hb2)
      have hz2 := HT2.out.below.size
      have hgr : wr.heap.size < gm := by simp at hgm1; omega
      clear hb2
      refine go_on ?_
      go_wp2_with (at_builtin; refine wpl_lies rfl _ _ 31 rfl Tryz.underlying31 info_type rfl (by omega) w.heap.size rfl ((HT2.out.own_at hl).alloc _) rfl rfl (fun _ => ⟨_, rfl, cells_new_at _ _ _ _ (by simp)⟩) (by simp [Value.oneCell']) (by omega) (by simp only [maxLen]; omega) (by omega) (by simp; omega) ?_; intro g3 k3 w3 ho3 hg3 hb3 hgg3 hlt3; refine stop_here ?_)
      have HT3 := Lib.hid ((HT2.out.keep ((Below.refl _ _).alloc (Nat.le_refl _) _)).snoc_at hl (t := coreV k (.slice (some ⟨gm, 0, none⟩) 1 1)) ho3 hg3 hgg3 hb3 (fun g hg => by
        refine ⟨rdC_nil _ _ _, rdC_nil _ _ _, ⟨_, 1, 1, rfl, Nat.le_refl _, by omega, fun _ => ⟨gm, 0, rfl, by simp; omega, ?_, [.int .i64 1, .string ⟨#[60, 105, 110, 105, 116, 62]⟩, .string ⟨#[40, 41, 86]⟩, .bool true, .int .i64 0], rfl, by simp [Value.oneCell'], fun j u hu => ?_⟩⟩⟩
        · rcases hg with hg | ⟨_, hg⟩
          · have := (HT.out.own.lt _ hg).2
            omega
          · rw [hg]
            simp
            omega
        · rw [World.cell?_alloc_lt _ _ _ hgm2, Nat.zero_add, cell_of_row w2 gm j _ _ _ hgm3]
          simpa using hu))
      clear ho3 hg3 hb3 hgg3
      refine go_on ?_
      go_wp2_with fail
      go_roundw
      case rel =>
        refine ⟨k + 1, ts ++ [coreV k (.slice (some ⟨gm, 0, none⟩) 1 1)], by go_num, by omega, by simp [hl], Lib.hid ?_, HT3⟩
        rw [List.map_append, HK.out, List.range_succ, List.map_append]
        rfl
      case measure => simp [intOf]; omega
    · have hk24 : k = 24 := by omega
      subst hk24
      go_wp2_with (at_builtin; refine wpl_lies rfl _ _ 31 rfl Tryz.underlying31 info_type rfl (by omega) w.heap.size rfl (((HT.out.own_at hl).alloc _).alloc _) rfl rfl (fun _ => ⟨_, rfl, cells_new_at _ _ _ _ (by simp)⟩) (by simp [Value.oneCell']) (by omega) (by simp only [maxLen]; omega) (by omega) (by simp; omega) ?_; intro g3 k3 w3 ho3 hg3 hb3 hgg3 hlt3; refine stop_here ?_)
      have HT3 := Lib.hid (((HT.out.keep ((Below.refl _ _).alloc (Nat.le_refl _) _)).keep ((Below.refl _ _).alloc (Nat.le_refl _) _)).snoc_at hl (t := ⟨[118, 109, 47, 84, 97, 115, 107], langL ++ [79, 98, 106, 101, 99, 116], 1537, .slice none 0 0, .slice none 0 0, .slice (some ⟨wr.heap.size, 0, none⟩) 1 1⟩) ho3 hg3 hgg3 hb3 (fun g hg => by
        refine ⟨rdC_nil _ _ _, rdC_nil _ _ _, ⟨_, 1, 1, rfl, Nat.le_refl _, by omega, fun _ => ⟨wr.heap.size, 0, rfl, by simp; omega, ?_, [.int .i64 1025, .string ⟨#[114, 117, 110]⟩, .string ⟨#[40, 41, 86]⟩, .bool false, .int .i64 0], rfl, by simp [Value.oneCell'], fun j u hu => ?_⟩⟩⟩
        · rcases hg with hg | ⟨_, hg⟩
          · have := (HT.out.own.lt _ hg).2
            omega
          · rw [hg]
            simp
            omega
        · rw [World.cell?_alloc_lt _ _ _ (by simp), Nat.zero_add, cell_of_row _ wr.heap.size j _ _ _ (heap_alloc_new _ _)]
          simpa using hu))
      have hl3 : (ts ++ [(⟨[118, 109, 47, 84, 97, 115, 107], langL ++ [79, 98, 106, 101, 99, 116], 1537, .slice none 0 0, .slice none 0 0, .slice (some ⟨wr.heap.size, 0, none⟩) 1 1⟩ : TyV)]).length = 25 := by simp [hl]
      have hz3 := HT3.out.below.size
      have hz3r := hg3.size
      simp only [World.size_alloc] at hz3r
      clear ho3 hg3 hb3 hgg3
      refine go_on ?_
      go_wp2_with (at_builtin; refine wpl_lies rfl _ _ 31 rfl Tryz.underlying31 info_type rfl (by omega) w.heap.size rfl (((HT3.out.own_at hl3).alloc _).alloc _) rfl rfl (fun _ => ⟨_, rfl, cells_new_at _ _ _ _ (by simp)⟩) (by simp [Value.oneCell']) (by omega) (by simp [maxLen]) (by omega) (by simp; omega) ?_; intro g4 k4 w4 ho4 hg4 hb4 hgg4 hlt4; refine stop_here ?_)
      have HT4 := Lib.hid (((HT3.out.keep ((Below.refl _ _).alloc (Nat.le_refl _) _)).keep ((Below.refl _ _).alloc (Nat.le_refl _) _)).snoc_at hl3 (t := ⟨[118, 109, 47, 83, 121, 115], langL ++ [79, 98, 106, 101, 99, 116], 49, .slice none 0 0, .slice none 0 0, .slice (some ⟨w3.heap.size, 0, none⟩) 2 2⟩) ho4 hg4 hgg4 hb4 (fun g hg => by
        refine ⟨rdC_nil _ _ _, rdC_nil _ _ _, ⟨_, 2, 2, rfl, Nat.le_refl _, by omega, fun _ => ⟨w3.heap.size, 0, rfl, by simp; omega, ?_, [.int .i64 265, .string ⟨#[112, 114, 105, 110, 116]⟩, .string ⟨#[40, 73, 41, 86]⟩, .bool false, .int .i64 0, .int .i64 265, .string ⟨#[115, 116, 97, 114, 116]⟩, .string ⟨#[40, 76, 118, 109, 47, 84, 97, 115, 107, 59, 41, 86]⟩, .bool false, .int .i64 0], rfl, by simp [Value.oneCell'], fun j u hu => ?_⟩⟩⟩
        · rcases hg with hg | ⟨hg, _⟩
          · have := (HT3.out.own.lt _ hg).2
            omega
          · simp [Value.ownBlock] at hg
        · rw [World.cell?_alloc_lt _ _ _ (by simp), Nat.zero_add, cell_of_row _ w3.heap.size j _ _ _ (heap_alloc_new _ _)]
          simpa using hu))
      clear ho4 hg4 hb4 hgg4
      refine go_on ?_
      go_wp2_with fail
      go_ret
      refine ⟨g4, k4, _, rfl, ?_, HT4.out⟩
      rw [List.map_append, List.map_append, HK.out]
      rfl
end Go.Proofs.YtdbniocnjhfhdaaGreatDoor
