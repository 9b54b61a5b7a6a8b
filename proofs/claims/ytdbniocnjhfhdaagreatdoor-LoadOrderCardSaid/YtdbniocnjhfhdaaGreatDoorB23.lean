/-
  What the loader's laws rest on, part 23: walks of the program's functions and plain laws. Conditions: none but those that each theorem names.
-/
import Derived.Test.YtdbniocnjhfhdaaGreatDoorB01
import Derived.Test.YtdbniocnjhfhdaaGreatDoorB08
import Derived.Test.YtdbniocnjhfhdaaGreatDoorB09
import Derived.Test.YtdbniocnjhfhdaaGreatDoorB18
import Derived.Test.YtdbniocnjhfhdaaGreatDoorB22

set_option linter.unusedSimpArgs false
set_option linter.unusedVariables false
namespace Go.Proofs.YtdbniocnjhfhdaaGreatDoor
open Go Go.RowKit Lib
def RxAll {α : Type} (Q : α → Prop) (x : Rx α) : Prop := ∀ a s, x = .ok (a, s) → Q a
theorem RxAll.bind {α β : Type} {x : Rx α} {f : α → Rs → Rx β} {Q : α → Prop} {R : β → Prop} (h : RxAll Q x) (hf : ∀ a s, Q a → RxAll R (f a s)) : RxAll R (Rx.bind x f) := by
  rcases x with e | ⟨a, s⟩
  · intro b s' hb; cases hb
  · exact hf a s (h a s rfl)
theorem RxAll.err {α : Type} {Q : α → Prop} (e : Nat × Nat) : RxAll Q (.error e : Rx α) := fun a s h => by cases h
theorem RxAll.ok {α : Type} {Q : α → Prop} {a : α} {s : Rs} (h : Q a) : RxAll Q (.ok (a, s) : Rx α) := fun b s' e => by cases e; exact h
theorem RxAll.ite {α : Type} {Q : α → Prop} {c : Prop} [Decidable c] {x y : Rx α} (h1 : c → RxAll Q x) (h2 : ¬ c → RxAll Q y) : RxAll Q (if c then x else y) := by
  by_cases h : c
  · rw [if_pos h]; exact h1 h
  · rw [if_neg h]; exact h2 h
theorem beN_more (l : List UInt8) (x : UInt8) : beN (l ++ [x]) = beN l * 256 + x.toNat := by simp [beN]
theorem beN_less : ∀ n (l : List UInt8), l.length = n → beN l < 256 ^ n
  | 0, l, h => by
    obtain rfl := List.length_eq_zero_iff.1 h
    simp [beN]
  | n + 1, l, h => by
    have hne : l ≠ [] := by intro e; subst e; simp at h
    obtain ⟨l', x, rfl⟩ : ∃ l' x, l = l' ++ [x] := ⟨_, _, (List.dropLast_concat_getLast hne).symm⟩
    have h' : l'.length = n := by simpa using h
    have := beN_less n l' h'
    have hx := x.toNat_lt
    rw [beN_more, Nat.pow_succ]
    omega
theorem bytesP_all (l : List UInt8) (n : Nat) (st : Rs) : RxAll (fun b => b.length ≤ n ∧ b.length ≤ l.length) (bytesP l n st) := by
  unfold bytesP
  refine RxAll.ite (fun _ => .err _) fun _ => RxAll.ite (fun _ => .err _) fun _ => .ok ⟨List.length_take_le _ _, ?_⟩
  rw [List.length_take, List.length_drop]
  omega
theorem numP_all (l : List UInt8) (n : Nat) (st : Rs) (hn : n ≤ 4) : RxAll (fun v => v < 4294967296) (numP l n st) := by
  unfold numP
  refine (bytesP_all l n st).bind fun b s hb => .ok ?_
  have h1 := beN_less _ b rfl
  have h2 : 256 ^ b.length ≤ 256 ^ 4 := Nat.pow_le_pow_right (by omega) (by omega)
  have h3 : (256 : Nat) ^ 4 = 4294967296 := by decide
  omega
theorem countP_all (l : List UInt8) (m : Nat) (st : Rs) : RxAll (fun v => v ≤ m) (countP l m st) := by
  unfold countP
  exact (numP_all l 2 st (by omega)).bind fun n s _ => RxAll.ite (fun _ => .err _) fun h => .ok (by omega)
theorem fine_nat {n : Nat} (h : n < 4294967296) : Fine n := ⟨by omega, by omega⟩
theorem fine_zero : Fine 0 := ⟨by decide, by decide⟩
def TagOk (n : Int) : Prop := n = 1 ∨ n = 3 ∨ n = 7 ∨ n = 9 ∨ n = 10 ∨ n = 11 ∨ n = 12
def KoFine (k : Ko) : Prop := Fine k.a ∧ Fine k.b ∧ k.text.size ≤ 65536 ∧ TagOk k.tag
theorem koP_all (l : List UInt8) (st : Rs) (hl : l.length ≤ 65536) : RxAll KoFine (koP l st) := by
  unfold koP
  refine (numP_all l 1 st (by omega)).bind fun t s1 ht => ?_
  refine RxAll.ite (fun _ => ?_) fun _ => RxAll.ite (fun _ => ?_) fun _ => RxAll.ite (fun _ => ?_) fun _ => RxAll.ite (fun h9 => ?_) fun _ => .err _
  · refine (numP_all l 2 s1 (by omega)).bind fun n s2 _ => (bytesP_all l n s2).bind fun b s3 hb => .ok ⟨fine_zero, fine_zero, ?_⟩
    refine ⟨?_, .inl rfl⟩
    show b.toArray.size ≤ 65536
    simp
    omega
  · exact (numP_all l 4 s1 (by omega)).bind fun n s2 _ => .ok ⟨fine_zero, fine_zero, Nat.zero_le _, .inr (.inl rfl)⟩
  · exact (numP_all l 2 s1 (by omega)).bind fun n s2 hn => .ok ⟨fine_nat hn, fine_zero, Nat.zero_le _, .inr (.inr (.inl rfl))⟩
  · exact (numP_all l 2 s1 (by omega)).bind fun n s2 hn => (numP_all l 2 s2 (by omega)).bind fun m s3 hm => .ok ⟨fine_nat hn, fine_nat hm, Nat.zero_le _, by unfold TagOk; show (t : Int) = 1 ∨ (t : Int) = 3 ∨ (t : Int) = 7 ∨ (t : Int) = 9 ∨ (t : Int) = 10 ∨ (t : Int) = 11 ∨ (t : Int) = 12; omega⟩
theorem repP_all {α : Type} {f : Rs → Rx α} {Q : α → Prop} (h : ∀ s, RxAll Q (f s)) : ∀ k st, RxAll (fun r => (∀ a ∈ r, Q a) ∧ r.length = k) (repP f k st)
  | 0, st => by
    rw [repP]
    exact .ok ⟨by simp, rfl⟩
  | k + 1, st => by
    rw [repP]
    refine (h st).bind fun a s ha => (repP_all h k s).bind fun r s' hr => .ok ⟨fun x hx => ?_, by simp [hr.2]⟩
    rcases List.mem_cons.1 hx with rfl | hx
    · exact ha
    · exact hr.1 x hx
theorem attrP_all {σ : Type} (l : List UInt8) (want : Option (List UInt8)) (act : σ → Nat → Nat → Rs → Rx σ) {Q : σ → Prop} (ha : ∀ x a n s, Q x → RxAll Q (act x a n s)) : ∀ k seen x st, Q x → RxAll Q (attrP l want act k seen x st)
  | 0, _, x, st, hx => by
    rw [attrP]
    exact .ok hx
  | k + 1, seen, x, st, hx => by
    rw [attrP]
    refine RxAll.bind (Q := fun _ => True) (fun _ _ _ => trivial) fun a s1 _ => RxAll.ite (fun _ => .err _) fun _ => ?_
    refine RxAll.bind (Q := fun _ => True) (fun _ _ _ => trivial) fun n s2 _ => RxAll.ite (fun _ => ?_) fun _ => ?_
    · exact (ha x a.1 n s2 hx).bind fun x' s3 hx' => attrP_all l want act ha k true x' s3 hx'
    · exact RxAll.bind (Q := fun _ => True) (fun _ _ _ => trivial) fun _ s3 _ => attrP_all l want act ha k seen x s3 hx
theorem attrsP_all {σ : Type} (l : List UInt8) (want : Option (List UInt8)) (act : σ → Nat → Nat → Rs → Rx σ) {Q : σ → Prop} (ha : ∀ x a n s, Q x → RxAll Q (act x a n s)) (x : σ) (st : Rs) (hx : Q x) : RxAll Q (attrsP l want act x st) := by
  unfold attrsP
  exact RxAll.bind (Q := fun _ => True) (fun _ _ _ => trivial) fun k s _ => attrP_all l want act ha k false x s hx
def FieldFine (x : FieldV) : Prop := Fine x.name ∧ Fine x.desc ∧ Fine x.value
theorem fieldP_all (l : List UInt8) (st : Rs) : RxAll FieldFine (fieldP l st) := by
  unfold fieldP
  refine (numP_all l 2 st (by omega)).bind fun a s1 _ => (numP_all l 2 s1 (by omega)).bind fun n s2 hn => (numP_all l 2 s2 (by omega)).bind fun d s3 hd => ?_
  refine attrsP_all l _ _ (fun x at' long s hx => RxAll.ite (fun _ => .err _) fun _ => ?_) _ _ ⟨fine_nat hn, fine_nat hd, fine_zero⟩
  exact (numP_all l 2 s (by omega)).bind fun v s' hv => .ok ⟨hx.1, hx.2.1, fine_nat hv⟩
def TrapFine (x : TrapV) : Prop := Fine x.lo ∧ Fine x.hi ∧ Fine x.tgt ∧ Fine x.kind
theorem trapP_all (l : List UInt8) (st : Rs) : RxAll TrapFine (trapP l st) := by
  unfold trapP
  exact (numP_all l 2 st (by omega)).bind fun a s1 h1 => (numP_all l 2 s1 (by omega)).bind fun b s2 h2 => (numP_all l 2 s2 (by omega)).bind fun c s3 h3 => (numP_all l 2 s3 (by omega)).bind fun d s4 h4 => .ok ⟨fine_nat h1, fine_nat h2, fine_nat h3, fine_nat h4⟩
def MethFine (x : MethV) : Prop := Fine x.name ∧ Fine x.desc ∧ Fine x.stack ∧ Fine x.locals ∧ ∀ t ∈ x.traps, TrapFine t
theorem methP_all (l : List UInt8) (st : Rs) : RxAll MethFine (methP l st) := by
  unfold methP
  refine (numP_all l 2 st (by omega)).bind fun a s1 _ => (numP_all l 2 s1 (by omega)).bind fun n s2 hn => (numP_all l 2 s2 (by omega)).bind fun d s3 hd => ?_
  refine attrsP_all l _ _ (fun x at' long s hx => ?_) _ _ ⟨fine_nat hn, fine_nat hd, fine_zero, fine_zero, by simp⟩
  unfold codeP
  refine (numP_all l 2 _ (by omega)).bind fun sk s1 h1 => (numP_all l 2 s1 (by omega)).bind fun lo s2 h2 => (numP_all l 4 s2 (by omega)).bind fun k s3 h3 => RxAll.ite (fun _ => .err _) fun _ => ?_
  refine RxAll.bind (Q := fun _ => True) (fun _ _ _ => trivial) fun b s4 _ => RxAll.bind (Q := fun _ => True) (fun _ _ _ => trivial) fun k s5 _ => ?_
  refine (repP_all (trapP_all l) k s5).bind fun ts s6 hts => RxAll.bind (Q := fun _ => True) (fun _ _ _ => trivial) fun _ s7 _ => RxAll.ite (fun _ => .err _) fun _ => .ok ⟨hx.1, hx.2.1, fine_nat h1, fine_nat h2, hts.1⟩
structure ClassFine (c : ClassV) : Prop where
  pool : ∀ k ∈ c.pool, KoFine k
  this : Fine c.this
  sup : Fine c.sup
  ifs : ∀ n ∈ c.ifs, Fine n
  flds : ∀ x ∈ c.flds, FieldFine x
  mths : ∀ x ∈ c.mths, MethFine x
structure ClassCnt (c : ClassV) : Prop where
  npool : c.pool.length ≤ 1024
  nifs : c.ifs.length ≤ 64
  nflds : c.flds.length ≤ 64
  nmths : c.mths.length ≤ 64
theorem readP_fine {l : List UInt8} {c : ClassV} (h : readP l = .ok c) : ClassFine c ∧ ClassCnt c := by
  unfold readP at h
  by_cases hl : 65536 < l.length
  · rw [if_pos hl] at h; cases h
  · rw [if_neg hl] at h
    have key : RxAll (fun c => ClassFine c ∧ ClassCnt c) (classP l ⟨0, 4611686018427387904, 0, []⟩) := by
      unfold classP
      refine RxAll.bind (Q := fun _ => True) (fun _ _ _ => trivial) fun m s0 _ => RxAll.ite (fun _ => .err _) fun _ => ?_
      refine RxAll.bind (Q := fun _ => True) (fun _ _ _ => trivial) fun mi s1 _ => RxAll.bind (Q := fun _ => True) (fun _ _ _ => trivial) fun ma s2 _ => ?_
      refine (countP_all l 1025 s2).bind fun n s3 hn => RxAll.ite (fun _ => .err _) fun _ => ?_
      refine (repP_all (fun s => koP_all l s (by omega)) (n - 1) s3).bind fun pool s4 hp => ?_
      unfold clsB
      refine RxAll.bind (Q := fun _ => True) (fun _ _ _ => trivial) fun a s5 _ => (numP_all l 2 s5 (by omega)).bind fun t s6 ht => (numP_all l 2 s6 (by omega)).bind fun u s7 hu => ?_
      refine (countP_all l 64 s7).bind fun ni s8 hni => (repP_all (fun s => numP_all l 2 s (by omega)) ni s8).bind fun ifs s9 hi => ?_
      unfold clsC
      refine (countP_all l 64 s9).bind fun nf s10 hnf => (repP_all (fun s => fieldP_all l s) nf s10).bind fun flds s11 hf => ?_
      unfold clsD
      refine (countP_all l 64 s11).bind fun nm s12 hnm => (repP_all (fun s => methP_all l s) nm s12).bind fun mths s13 hm => ?_
      unfold clsE
      refine RxAll.bind (Q := fun _ => True) (fun _ _ _ => trivial) fun _ s14 _ => RxAll.ite (fun _ => .err _) fun _ => .ok ?_
      refine ⟨⟨hp.1, fine_nat ht, fine_nat hu, fun x hx => ?_, hf.1, hm.1⟩, by have := hp.2; show pool.length ≤ 1024; omega, by show (ifs.map Int.ofNat).length ≤ 64; rw [List.length_map]; omega, by show flds.length ≤ 64; omega, by show mths.length ≤ 64; omega⟩
      obtain ⟨y, hy, rfl⟩ := List.mem_map.1 hx
      exact fine_nat (hi.1 y hy)
    rcases hc : classP l ⟨0, 4611686018427387904, 0, []⟩ with e | ⟨c', s⟩
    · rw [hc] at h; cases h
    · rw [hc] at h
      injection h with h
      subst h
      exact key c' s hc
end Go.Proofs.YtdbniocnjhfhdaaGreatDoor

set_option linter.unusedSimpArgs false
set_option linter.unusedVariables false
set_option maxRecDepth 100000
set_option maxHeartbeats 1000000
namespace Go.Proofs.YtdbniocnjhfhdaaGreatDoor
open Go Go.RowKit Lib
def conF (pool : List Ko) (k : Ko) : Int := if k.tag = 7 then classE pool k.a else if k.tag = 12 then namedE pool k.a k.b else if k.tag = 9 ∨ k.tag = 10 ∨ k.tag = 11 then memberE pool k.tag k.a k.b else 0
def seenFl (pool : List Ko) (cacc : Int) (l : List FieldV) : List NmD := l.foldl (fun s x => if fldBad pool cacc x then s else nmOf pool x.name x.desc :: s) []
def seenMt (pool : List Ko) (cacc : Int) (l : List MethV) : List NmD := l.foldl (fun s x => if mthBad pool cacc x then s else nmOf pool x.name x.desc :: s) []
theorem seenFl_len (pool : List Ko) (cacc : Int) : ∀ (l : List FieldV) (s : List NmD), (l.foldl (fun s x => if fldBad pool cacc x then s else nmOf pool x.name x.desc :: s) s).length ≤ s.length + l.length
  | [], s => Nat.le_refl _
  | x :: l, s => by
    rw [List.foldl_cons]
    refine Nat.le_trans (seenFl_len pool cacc l _) ?_
    split <;> simp <;> omega
theorem seenM_len (pool : List Ko) (cacc : Int) : ∀ (l : List MethV) (s : List NmD), (l.foldl (fun s x => if mthBad pool cacc x then s else nmOf pool x.name x.desc :: s) s).length ≤ s.length + l.length
  | [], s => Nat.le_refl _
  | x :: l, s => by
    rw [List.foldl_cons]
    refine Nat.le_trans (seenM_len pool cacc l _) ?_
    split <;> simp <;> omega
def checkF (c : ClassV) : Int := checkE (conF c.pool) (fun l x => fldIn c.pool c.acc (seenFl c.pool c.acc l) x) (fun l x => mthIn c.pool c.acc (seenMt c.pool c.acc l) x) c
theorem seen_new (W : World) (b : Nat) (h : W.heap[b]? = some (.map #[] 0)) : SeenM W b [] := ⟨#[], 0, h, by
  refine ⟨?_, ?_, ?_, ?_, ?_⟩ <;> simp⟩
theorem seen_keep {s : List NmD} (W W' : World) (b : Nat) (h : SeenM W b s) (hb : W'.heap[b]? = W.heap[b]?) : SeenM W' b s := by
  obtain ⟨es, clock, hm, hg⟩ := h
  exact ⟨es, clock, hb.trans hm, hg⟩
theorem check_full (c : ClassV) (p i f m : Value) (ok : Nat → Prop) (w : World) (h : ClassAt w ok c p i f m) (hF : ClassFine c) :
    Calls Tryz.prog 95 #[bookV c p i f m] w fun e w' => e = .returned (.int .i64 (checkF c)) ∧ Below w.heap.size w w' := by
  have h' := h.mono (ok' := fun g => ok g ∧ g < w.heap.size) fun g hg ho => ⟨ho, hg⟩
  have hlf : c.flds.length ≤ 1048576 := by obtain ⟨A3, k3, e3, q3, z3⟩ := sl_len h.hflds; exact z3
  have hlm : c.mths.length ≤ 1048576 := by obtain ⟨ms, m1, m2, m3⟩ := h.hmths; obtain ⟨A4, k4, e4, q4, z4⟩ := sl_len m2; exact z4
  have htx : ∀ k ∈ c.pool, k.text.size ≤ 65536 := fun k hk => (hF.pool k hk).2.2.1
  refine check_any c p i f m (fun g => ok g ∧ g < w.heap.size) w h' (fun g hg => hg.2) hF.this hF.sup (fun k hk => (hF.pool k hk).1) hF.ifs htx
    (conF c.pool) (fun l x => fldIn c.pool c.acc (seenFl c.pool c.acc l) x) (fun l x => mthIn c.pool c.acc (seenMt c.pool c.acc l) x)
    (fun l b W => SeenM W b (seenFl c.pool c.acc l)) (fun l b W => SeenM W b (seenMt c.pool c.acc l)) ⟨fun W b hb => seen_new W b hb, fun l b W W' hs hb => seen_keep W W' b hs hb⟩ ⟨fun W b hb => seen_new W b hb, fun l b W W' hs hb => seen_keep W W' b hs hb⟩
    (fun k hk W hW => ?_) (fun k x hx W b hW hb hs => ?_) (fun k x hx W b cv tv hW hM hb hs => ?_)
  · obtain ⟨A1, k1, rfl, q1, z1⟩ := sl_len hW.hpool
    obtain ⟨A2, k2, rfl, q2, z2⟩ := sl_len hW.hifs
    obtain ⟨A3, k3, rfl, q3, z3⟩ := sl_len hW.hflds
    obtain ⟨ms, m1, m2, m3⟩ := hW.hmths
    obtain ⟨A4, k4, rfl, q4, z4⟩ := sl_len m2
    have hk' := hF.pool k hk
    have hbo : BookOk W (fun g => ok g ∧ g < w.heap.size) c A1 k1 (.slice A2 c.ifs.length k2) (.slice A3 c.flds.length k3) (.slice A4 c.mths.length k4) := ⟨hW.hpool, rfl, rfl, rfl⟩
    obtain ⟨tag, tx, nu, a, b⟩ := k
    obtain ⟨ha, hb, ht, htag⟩ := hk'
    unfold conF
    simp only at ha hb htag ⊢
    rcases htag with rfl | rfl | rfl | rfl | rfl | rfl | rfl
    · exact constant_plain c _ _ _ _ ⟨1, tx, nu, a, b⟩ (.inl rfl) W
    · exact constant_plain c _ _ _ _ ⟨3, tx, nu, a, b⟩ (.inr rfl) W
    · exact constant_seven c A1 k1 _ _ _ _ tx nu a b W hbo ha htx
    · exact constant_ref c A1 k1 _ _ _ _ 9 tx nu a b W hbo ha hb (fun k hk => ⟨(hF.pool k hk).1, (hF.pool k hk).2.1⟩) htx (.inl rfl)
    · exact constant_ref c A1 k1 _ _ _ _ 10 tx nu a b W hbo ha hb (fun k hk => ⟨(hF.pool k hk).1, (hF.pool k hk).2.1⟩) htx (.inr (.inl rfl))
    · exact constant_ref c A1 k1 _ _ _ _ 11 tx nu a b W hbo ha hb (fun k hk => ⟨(hF.pool k hk).1, (hF.pool k hk).2.1⟩) htx (.inr (.inr rfl))
    · exact constant_twelve c A1 k1 _ _ _ _ tx nu a b W hbo ha hb htx
  · obtain ⟨A1, k1, rfl, q1, z1⟩ := sl_len hW.hpool
    obtain ⟨A2, k2, rfl, q2, z2⟩ := sl_len hW.hifs
    obtain ⟨A3, k3, rfl, q3, z3⟩ := sl_len hW.hflds
    obtain ⟨ms, m1, m2, m3⟩ := hW.hmths
    obtain ⟨A4, k4, rfl, q4, z4⟩ := sl_len m2
    have hx' := hF.flds x (List.mem_of_getElem? hx)
    have hl := seenFl_len c.pool c.acc (c.flds.take k) []
    have hl2 : (c.flds.take k).length ≤ c.flds.length := List.length_take_le' _ _
    have hst : seenFl c.pool c.acc (c.flds.take (k + 1)) = if fldBad c.pool c.acc x then seenFl c.pool c.acc (c.flds.take k) else nmOf c.pool x.name x.desc :: seenFl c.pool c.acc (c.flds.take k) := by
      obtain ⟨hlt, hg⟩ := List.getElem?_eq_some_iff.1 hx
      rw [List.take_succ_eq_append_getElem hlt, hg]
      unfold seenFl
      rw [List.foldl_append]
      rfl
    rw [hst]
    exact field_book c A1 k1 _ _ _ _ x b _ W ⟨hW.hpool, rfl, rfl, rfl⟩ hs (by unfold seenFl; simp only [List.length_nil] at hl; omega) hx'.1 hx'.2.1 hx'.2.2 htx
  · obtain ⟨A1, k1, rfl, q1, z1⟩ := sl_len hW.hpool
    obtain ⟨A2, k2, rfl, q2, z2⟩ := sl_len hW.hifs
    obtain ⟨A3, k3, rfl, q3, z3⟩ := sl_len hW.hflds
    obtain ⟨ms, m1, m2, m3⟩ := hW.hmths
    obtain ⟨A4, k4, rfl, q4, z4⟩ := sl_len m2
    have hx' := hF.mths x (List.mem_of_getElem? hx)
    have hl := seenM_len c.pool c.acc (c.mths.take k) []
    have hl2 : (c.mths.take k).length ≤ c.mths.length := List.length_take_le' _ _
    have hst : seenMt c.pool c.acc (c.mths.take (k + 1)) = if mthBad c.pool c.acc x then seenMt c.pool c.acc (c.mths.take k) else nmOf c.pool x.name x.desc :: seenMt c.pool c.acc (c.mths.take k) := by
      obtain ⟨hlt, hg⟩ := List.getElem?_eq_some_iff.1 hx
      rw [List.take_succ_eq_append_getElem hlt, hg]
      unfold seenMt
      rw [List.foldl_append]
      rfl
    rw [hst]
    exact method_book c A1 k1 _ _ _ _ _ x cv tv b _ W ⟨hW.hpool, rfl, rfl, rfl⟩ hM hs (by unfold seenMt; simp only [List.length_nil] at hl; omega) hx'.1 hx'.2.1 (fun t ht => (hx'.2.2.2.2 t ht).2.2.2) htx
end Go.Proofs.YtdbniocnjhfhdaaGreatDoor
