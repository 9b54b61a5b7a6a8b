/-
  What the loader's laws rest on, part 1: walks of the program's functions and plain laws. Conditions: none but those that each theorem names.
-/
import Derived.Test.YtdbniocnjhfhdaaGreatDoorB00
import Derived.Lib.AppendStr

set_option linter.unusedSimpArgs false
set_option linter.unusedVariables false
namespace Go.Proofs.YtdbniocnjhfhdaaGreatDoor
open Go Go.RowKit Lib
structure Ko where
  tag : Int
  text : ByteArray
  num : Int
  a : Int
  b : Int
def Ko.cells (k : Ko) : List Value := [.int .i64 k.tag, .string k.text, .int .i64 k.num, .int .i64 k.a, .int .i64 k.b]
structure FieldV where
  acc : Int
  name : Int
  desc : Int
  value : Int
def FieldV.cells (f : FieldV) : List Value := [.int .i64 f.acc, .int .i64 f.name, .int .i64 f.desc, .int .i64 f.value]
structure TrapV where
  lo : Int
  hi : Int
  tgt : Int
  kind : Int
def TrapV.cells (f : TrapV) : List Value := [.int .i64 f.lo, .int .i64 f.hi, .int .i64 f.tgt, .int .i64 f.kind]
structure MethV where
  acc : Int
  name : Int
  desc : Int
  has : Bool
  stack : Int
  locals : Int
  code : List UInt8
  traps : List TrapV
structure ClassV where
  minor : Int
  major : Int
  pool : List Ko
  acc : Int
  this : Int
  sup : Int
  ifs : List Int
  flds : List FieldV
  mths : List MethV
def SlAt (w : World) (ok : Nat → Prop) (size n : Nat) (cells : List Value) (v : Value) : Prop :=
  ∃ A cap, v = .slice A n cap ∧ n ≤ cap ∧ n ≤ 1048576 ∧ cells.length = n * size ∧ (0 < n → ∃ b off, A = some ⟨b, off, none⟩ ∧ b < w.heap.size ∧ ok b ∧ ∀ j u, cells[j]? = some u → w.cell? ⟨b, off + j, none⟩ = some u)
structure Kept (ok : Nat → Prop) (w w' : World) : Prop where
  size : w.heap.size ≤ w'.heap.size
  cell : ∀ g, g < w.heap.size → ok g → ∀ o, w'.cell? ⟨g, o, none⟩ = w.cell? ⟨g, o, none⟩
theorem Kept.of_but {ok : Nat → Prop} {S : List Nat} {w w' : World} (h : But w.heap.size S w w') (hs : ∀ g, ok g → g ∉ S) : Kept ok w w' :=
  ⟨h.size, fun g hg ho o => h.cell (p := ⟨g, o, none⟩) hg (hs g ho)⟩
theorem Kept.of_below {ok : Nat → Prop} {w w' : World} (h : Below w.heap.size w w') : Kept ok w w' := ⟨h.size, fun g hg _ o => h.cell (p := ⟨g, o, none⟩) hg⟩
theorem Kept.trans {ok : Nat → Prop} {a b c : World} (h : Kept ok a b) (k : Kept ok b c) : Kept ok a c :=
  ⟨Nat.le_trans h.size k.size, fun g hg ho o => (k.cell g (Nat.lt_of_lt_of_le hg h.size) ho o).trans (h.cell g hg ho o)⟩
theorem Kept.mono {ok ok' : Nat → Prop} {w w' : World} (h : Kept ok w w') (hs : ∀ g, ok' g → ok g) : Kept ok' w w' := ⟨h.size, fun g hg ho o => h.cell g hg (hs g ho) o⟩
theorem SlAt.keep {w w' : World} {ok : Nat → Prop} {size n : Nat} {cells : List Value} {v : Value} (h : SlAt w ok size n cells v) (hk : Kept ok w w') : SlAt w' ok size n cells v := by
  obtain ⟨A, cap, rfl, h1, h2, h3, h4⟩ := h
  refine ⟨A, cap, rfl, h1, h2, h3, fun h0 => ?_⟩
  obtain ⟨b, off, e, hlt, ho, hc⟩ := h4 h0
  exact ⟨b, off, e, Nat.lt_of_lt_of_le hlt hk.size, ho, fun j u hu => (hk.cell b hlt ho _).trans (hc j u hu)⟩
theorem SlAt.mono {w : World} {ok ok' : Nat → Prop} {size n : Nat} {cells : List Value} {v : Value} (h : SlAt w ok size n cells v) (hs : ∀ g, g < w.heap.size → ok g → ok' g) : SlAt w ok' size n cells v := by
  obtain ⟨A, cap, rfl, h1, h2, h3, h4⟩ := h
  refine ⟨A, cap, rfl, h1, h2, h3, fun h0 => ?_⟩
  obtain ⟨b, off, e, hlt, ho, hc⟩ := h4 h0
  exact ⟨b, off, e, hlt, hs b hlt ho, hc⟩
theorem slAt_nil (w : World) (ok : Nat → Prop) (size : Nat) : SlAt w ok size 0 [] (.slice none 0 0) := ⟨none, 0, rfl, Nat.le_refl _, by omega, by simp, fun h => absurd h (by omega)⟩
theorem slAt_own {w : World} {base : Nat} {e : TypeId} {size n : Nat} {v : Value} {xs : List Value} (h : w.ownsRow base e size v n xs) (ok : Nat → Prop) (hs : 0 < size) (hn : n ≤ 1048576) (ho : ∀ g, v.ownBlock = some g → ok g) : SlAt w ok size n xs v := by
  rcases h.2 with ⟨rfl, h0⟩ | ⟨g, cap, cur, rfl, hb, hg, hnc, hcm, hcs, hx⟩
  · subst h0
    have hn0 : xs = [] := by
      have hl := h.1
      simp at hl
      exact hl
    subst hn0
    exact slAt_nil w ok size
  · exact ⟨_, cap, rfl, hnc, hn, h.1, fun h0 => ⟨g, 0, rfl, (h.lt g rfl).2, ho g rfl, fun j u hu => by
      have hl : j < n * size := by
        have := (List.getElem?_eq_some_iff.1 hu).1
        have := h.1
        omega
      rw [Nat.zero_add, h.cellAt j hl]
      exact hu⟩⟩
structure MethAt (w : World) (ok : Nat → Prop) (m : MethV) (code traps : Value) : Prop where
  hcode : SlAt w ok 1 m.code.length (m.code.map bV) code
  htraps : SlAt w ok 4 m.traps.length (m.traps.flatMap TrapV.cells) traps
def MethV.cells (m : MethV) (code traps : Value) : List Value := [.int .i64 m.acc, .int .i64 m.name, .int .i64 m.desc, .bool m.has, .int .i64 m.stack, .int .i64 m.locals, code, traps]
def methCells (ms : List (MethV × Value × Value)) : List Value := ms.flatMap fun m => m.1.cells m.2.1 m.2.2
def ClassV.cells (c : ClassV) (pool ifs flds mths : Value) : List Value := [.int .i64 c.minor, .int .i64 c.major, pool, .int .i64 c.acc, .int .i64 c.this, .int .i64 c.sup, ifs, flds, mths]
structure ClassAt (w : World) (ok : Nat → Prop) (c : ClassV) (pool ifs flds mths : Value) : Prop where
  hpool : SlAt w ok 5 c.pool.length (c.pool.flatMap Ko.cells) pool
  hifs : SlAt w ok 1 c.ifs.length (c.ifs.map (Value.int .i64)) ifs
  hflds : SlAt w ok 4 c.flds.length (c.flds.flatMap FieldV.cells) flds
  hmths : ∃ ms : List (MethV × Value × Value), ms.map (·.1) = c.mths ∧ SlAt w ok 8 c.mths.length (methCells ms) mths ∧ ∀ m ∈ ms, MethAt w ok m.1 m.2.1 m.2.2
theorem ClassAt.keep {w w' : World} {ok : Nat → Prop} {c : ClassV} {pool ifs flds mths : Value} (h : ClassAt w ok c pool ifs flds mths) (hk : Kept ok w w') : ClassAt w' ok c pool ifs flds mths where
  hpool := h.hpool.keep hk
  hifs := h.hifs.keep hk
  hflds := h.hflds.keep hk
  hmths := by
    obtain ⟨ms, h1, h2, h3⟩ := h.hmths
    exact ⟨ms, h1, h2.keep hk, fun m hm => ⟨(h3 m hm).hcode.keep hk, (h3 m hm).htraps.keep hk⟩⟩
theorem ClassAt.mono {w : World} {ok ok' : Nat → Prop} {c : ClassV} {pool ifs flds mths : Value} (h : ClassAt w ok c pool ifs flds mths) (hs : ∀ g, g < w.heap.size → ok g → ok' g) : ClassAt w ok' c pool ifs flds mths where
  hpool := h.hpool.mono hs
  hifs := h.hifs.mono hs
  hflds := h.hflds.mono hs
  hmths := by
    obtain ⟨ms, h1, h2, h3⟩ := h.hmths
    exact ⟨ms, h1, h2.mono hs, fun m hm => ⟨(h3 m hm).hcode.mono hs, (h3 m hm).htraps.mono hs⟩⟩
end Go.Proofs.YtdbniocnjhfhdaaGreatDoor

set_option linter.unusedSimpArgs false
set_option linter.unusedVariables false
namespace Go.Proofs.YtdbniocnjhfhdaaGreatDoor
open Go Go.RowKit Lib
structure Rs where
  pos : Nat
  most : Nat
  named : Nat
  pool : List Ko
abbrev Rx (α : Type) := Except (Nat × Nat) (α × Rs)
def Rx.bind {α β : Type} (x : Rx α) (f : α → Rs → Rx β) : Rx β :=
  match x with
  | .error e => .error e
  | .ok (a, s) => f a s
theorem Rx.bind_error {α β : Type} (e : Nat × Nat) (f : α → Rs → Rx β) : Rx.bind (.error e) f = .error e := rfl
theorem Rx.bind_ok {α β : Type} (a : α) (s : Rs) (f : α → Rs → Rx β) : Rx.bind (.ok (a, s)) f = f a s := rfl
theorem Rx.bind_assoc {α β γ : Type} (x : Rx α) (f : α → Rs → Rx β) (g : β → Rs → Rx γ) : Rx.bind (Rx.bind x f) g = Rx.bind x fun a s => Rx.bind (f a s) g := by
  rcases x with e | ⟨a, s⟩ <;> rfl
def bytesP (l : List UInt8) (n : Nat) (st : Rs) : Rx (List UInt8) :=
  if l.length < st.pos + n then .error (st.pos, 10) else if st.most < st.pos + n then .error (st.named, 25) else .ok ((l.drop st.pos).take n, { st with pos := st.pos + n })
def beN (l : List UInt8) : Nat := l.foldl (fun v x => v * 256 + x.toNat) 0
def numP (l : List UInt8) (n : Nat) (st : Rs) : Rx Nat := Rx.bind (bytesP l n st) fun b s => .ok (beN b, s)
def countP (l : List UInt8) (m : Nat) (st : Rs) : Rx Nat := Rx.bind (numP l 2 st) fun n s => if m < n then .error (st.pos, 2) else .ok (n, s)
def int32P (n : Nat) : Int := if n < 2147483648 then n else (n : Int) - 4294967296
def koP (l : List UInt8) (st : Rs) : Rx Ko := Rx.bind (numP l 1 st) fun t s1 =>
  if t = 1 then Rx.bind (numP l 2 s1) fun n s2 => Rx.bind (bytesP l n s2) fun b s3 => .ok (⟨1, ⟨b.toArray⟩, 0, 0, 0⟩, s3)
  else if t = 3 then Rx.bind (numP l 4 s1) fun n s2 => .ok (⟨3, ⟨#[]⟩, int32P n, 0, 0⟩, s2)
  else if t = 7 then Rx.bind (numP l 2 s1) fun n s2 => .ok (⟨7, ⟨#[]⟩, 0, n, 0⟩, s2)
  else if t = 9 ∨ t = 10 ∨ t = 11 ∨ t = 12 then Rx.bind (numP l 2 s1) fun n s2 => Rx.bind (numP l 2 s2) fun m s3 => .ok (⟨t, ⟨#[]⟩, 0, n, m⟩, s3)
  else .error (st.pos, 13)
def repP {α : Type} (f : Rs → Rx α) : Nat → Rs → Rx (List α)
  | 0, st => .ok ([], st)
  | k + 1, st => Rx.bind (f st) fun a s => Rx.bind (repP f k s) fun r s' => .ok (a :: r, s')
def Rx.pre {α : Type} (cs : List α) (x : Rx (List α)) : Rx (List α) := Rx.bind x fun r s => .ok (cs ++ r, s)
theorem Rx.pre_nil {α : Type} (x : Rx (List α)) : Rx.pre [] x = x := by rcases x with e | ⟨a, s⟩ <;> rfl
theorem repP_step {α : Type} {f : Rs → Rx α} {k : Nat} {st : Rs} {cs : List α} {a : α} {s : Rs} (h : f st = .ok (a, s)) : Rx.pre cs (repP f (k + 1) st) = Rx.pre (cs ++ [a]) (repP f k s) := by
  unfold Rx.pre
  rw [repP, h, Rx.bind_ok, Rx.bind_assoc]
  congr 1
  funext r s'
  rw [Rx.bind_ok]
  simp
theorem repP_stop {α : Type} {f : Rs → Rx α} {k : Nat} {st : Rs} {cs : List α} {e : Nat × Nat} (h : f st = .error e) : Rx.pre cs (repP f (k + 1) st) = .error e := by
  unfold Rx.pre
  rw [repP, h]
  rfl
theorem repP_end {α : Type} {f : Rs → Rx α} {st : Rs} {cs : List α} : Rx.pre cs (repP f 0 st) = .ok (cs, st) := by
  unfold Rx.pre
  rw [repP, Rx.bind_ok, List.append_nil]
def nameP (l : List UInt8) (st : Rs) : Rx (Nat × ByteArray) := Rx.bind (numP l 2 st) fun n s =>
  match (if n = 0 then none else st.pool[n - 1]?) with
  | none => .error (st.pos, 20)
  | some k => if k.tag = 1 then .ok ((st.pos, k.text), s) else .error (st.pos, 20)
def attrP {σ : Type} (l : List UInt8) (want : Option (List UInt8)) (act : σ → Nat → Nat → Rs → Rx σ) : Nat → Bool → σ → Rs → Rx σ
  | 0, _, x, st => .ok (x, st)
  | k + 1, seen, x, st => Rx.bind (nameP l st) fun a s1 =>
    if want = some a.2.toList ∧ seen = true then .error (a.1, 24)
    else Rx.bind (numP l 4 s1) fun long s2 =>
      if want = some a.2.toList then Rx.bind (act x a.1 long s2) fun x' s3 => attrP l want act k true x' s3
      else Rx.bind (bytesP l long s2) fun _ s3 => attrP l want act k seen x s3
def attrsP {σ : Type} (l : List UInt8) (want : Option (List UInt8)) (act : σ → Nat → Nat → Rs → Rx σ) (x : σ) (st : Rs) : Rx σ := Rx.bind (numP l 2 st) fun k s => attrP l want act k false x s
def skipP (l : List UInt8) (st : Rs) : Rx Unit := attrsP l none (fun x _ _ s => .ok (x, s)) () st
def constantValueL : List UInt8 := "ConstantValue".toUTF8.data.toList
def codeL : List UInt8 := "Code".toUTF8.data.toList
def fieldP (l : List UInt8) (st : Rs) : Rx FieldV := Rx.bind (numP l 2 st) fun a s1 => Rx.bind (numP l 2 s1) fun n s2 => Rx.bind (numP l 2 s2) fun d s3 =>
  attrsP l (some constantValueL) (fun f at' long s => if long ≠ 2 then .error (at', 26) else Rx.bind (numP l 2 s) fun v s' => .ok ({ f with value := v }, s')) ⟨a, n, d, 0⟩ s3
def trapP (l : List UInt8) (st : Rs) : Rx TrapV := Rx.bind (numP l 2 st) fun a s1 => Rx.bind (numP l 2 s1) fun b s2 => Rx.bind (numP l 2 s2) fun c s3 => Rx.bind (numP l 2 s3) fun d s4 => .ok (⟨a, b, c, d⟩, s4)
def codeP (l : List UInt8) (m : MethV) (at' long : Nat) (st : Rs) : Rx MethV :=
  Rx.bind (numP l 2 { st with most := st.pos + long, named := at' }) fun sk s1 => Rx.bind (numP l 2 s1) fun lo s2 => Rx.bind (numP l 4 s2) fun n s3 =>
    if 4096 < n then .error (s2.pos, 2)
    else Rx.bind (bytesP l n s3) fun b s4 => Rx.bind (countP l 64 s4) fun k s5 => Rx.bind (repP (trapP l) k s5) fun ts s6 => Rx.bind (skipP l s6) fun _ s7 =>
      if s7.pos ≠ s7.most then .error (at', 25) else .ok ({ m with has := true, stack := sk, locals := lo, code := b, traps := ts }, { s7 with most := 4611686018427387904 })
def methP (l : List UInt8) (st : Rs) : Rx MethV := Rx.bind (numP l 2 st) fun a s1 => Rx.bind (numP l 2 s1) fun n s2 => Rx.bind (numP l 2 s2) fun d s3 =>
  attrsP l (some codeL) (fun m at' long s => codeP l m at' long s) ⟨a, n, d, false, 0, 0, [], []⟩ s3
def clsE (l : List UInt8) (mi ma : Nat) (pool : List Ko) (a t u : Nat) (ifs : List Nat) (flds : List FieldV) (mths : List MethV) (s : Rs) : Rx ClassV := Rx.bind (skipP l s) fun _ s' =>
  if s'.pos < l.length then .error (s'.pos, 14) else .ok (⟨mi, ma, pool, a, t, u, ifs.map Int.ofNat, flds, mths⟩, s')
def clsD (l : List UInt8) (mi ma : Nat) (pool : List Ko) (a t u : Nat) (ifs : List Nat) (flds : List FieldV) (s : Rs) : Rx ClassV := Rx.bind (countP l 64 s) fun n s' => Rx.bind (repP (methP l) n s') (clsE l mi ma pool a t u ifs flds)
def clsC (l : List UInt8) (mi ma : Nat) (pool : List Ko) (a t u : Nat) (ifs : List Nat) (s : Rs) : Rx ClassV := Rx.bind (countP l 64 s) fun n s' => Rx.bind (repP (fieldP l) n s') (clsD l mi ma pool a t u ifs)
def clsB (l : List UInt8) (mi ma : Nat) (pool : List Ko) (s : Rs) : Rx ClassV := Rx.bind (numP l 2 { s with pool := pool }) fun a s5 => Rx.bind (numP l 2 s5) fun t s6 => Rx.bind (numP l 2 s6) fun u s7 =>
  Rx.bind (countP l 64 s7) fun n s' => Rx.bind (repP (numP l 2) n s') (clsC l mi ma pool a t u)
def classP (l : List UInt8) (st : Rs) : Rx ClassV := Rx.bind (numP l 4 st) fun m s0 => if m ≠ 3405691582 then .error (0, 11)
  else Rx.bind (numP l 2 s0) fun mi s1 => Rx.bind (numP l 2 s1) fun ma s2 => Rx.bind (countP l 1025 s2) fun n s3 => if n = 0 then .error (s2.pos, 20)
    else Rx.bind (repP (koP l) (n - 1) s3) (clsB l mi ma)
def readP (l : List UInt8) : Except (Nat × Nat) ClassV :=
  if 65536 < l.length then .error (0, 2)
  else match classP l ⟨0, 4611686018427387904, 0, []⟩ with
    | .error e => .error e
    | .ok (c, _) => .ok c
end Go.Proofs.YtdbniocnjhfhdaaGreatDoor

set_option linter.unusedSimpArgs false
set_option linter.unusedVariables false
namespace Go.Proofs.YtdbniocnjhfhdaaGreatDoor
open Go Go.RowKit Lib
def AtL (l : List UInt8) (p : Nat) (r : List UInt8) : Prop := ∃ pre, l = pre ++ r ∧ pre.length = p
theorem AtL.next {l : List UInt8} {p : Nat} {b r : List UInt8} (h : AtL l p (b ++ r)) : AtL l (p + b.length) r := by
  obtain ⟨pre, e, hp⟩ := h
  exact ⟨pre ++ b, by rw [e, List.append_assoc], by rw [List.length_append, hp]⟩
theorem bytes_at {l : List UInt8} {p most nm : Nat} {pool : List Ko} {b r : List UInt8} {n : Nat} (h : AtL l p (b ++ r)) (hn : b.length = n) (hm : l.length ≤ most) :
    bytesP l n ⟨p, most, nm, pool⟩ = .ok (b, ⟨p + n, most, nm, pool⟩) := by
  obtain ⟨pre, e, hp⟩ := h
  have hl : l.length = p + (n + r.length) := by rw [e, List.length_append, List.length_append, hp, hn]
  unfold bytesP
  rw [if_neg (by show ¬ l.length < p + n; omega), if_neg (by show ¬ most < p + n; omega)]
  show Except.ok ((l.drop p).take n, _) = _
  rw [e, ← hp, ← hn, List.drop_left, List.take_left]
theorem num_at {l : List UInt8} {p most nm : Nat} {pool : List Ko} (b : List UInt8) {r : List UInt8} {n : Nat} (h : AtL l p (b ++ r)) (hn : b.length = n) (hm : l.length ≤ most) :
    numP l n ⟨p, most, nm, pool⟩ = .ok (beN b, ⟨p + n, most, nm, pool⟩) := by
  unfold numP
  rw [bytes_at h hn hm, Rx.bind_ok]
theorem ko_one {l : List UInt8} {p most nm : Nat} {pool : List Ko} {x y : UInt8} {b r : List UInt8} (h : AtL l p (1 :: x :: y :: (b ++ r))) (hn : b.length = beN [x, y]) (hm : l.length ≤ most) :
    koP l ⟨p, most, nm, pool⟩ = .ok (⟨1, ⟨b.toArray⟩, 0, 0, 0⟩, ⟨p + 3 + b.length, most, nm, pool⟩) := by
  have h1 : AtL l (p + 1) (x :: y :: (b ++ r)) := h.next (b := [1])
  have h2 : AtL l (p + 3) (b ++ r) := h1.next (b := [x, y])
  unfold koP
  rw [num_at [1] (n := 1) (r := x :: y :: (b ++ r)) h rfl hm, Rx.bind_ok, if_pos (by rfl), num_at [x, y] (n := 2) (r := b ++ r) h1 rfl hm, Rx.bind_ok, bytes_at h2 hn hm, Rx.bind_ok, ← hn]
theorem ko_seven {l : List UInt8} {p most nm : Nat} {pool : List Ko} {x y : UInt8} {r : List UInt8} (h : AtL l p (7 :: x :: y :: r)) (hm : l.length ≤ most) :
    koP l ⟨p, most, nm, pool⟩ = .ok (⟨7, ⟨#[]⟩, 0, beN [x, y], 0⟩, ⟨p + 3, most, nm, pool⟩) := by
  have h1 : AtL l (p + 1) (x :: y :: r) := h.next (b := [7])
  unfold koP
  rw [num_at [7] (n := 1) (r := x :: y :: r) h rfl hm, Rx.bind_ok, if_neg (by decide), if_neg (by decide), if_pos (by rfl), num_at [x, y] (n := 2) (r := r) h1 rfl hm, Rx.bind_ok]
end Go.Proofs.YtdbniocnjhfhdaaGreatDoor

set_option linter.unusedSimpArgs false
set_option linter.unusedVariables false
set_option maxRecDepth 10000
namespace Go.Proofs.YtdbniocnjhfhdaaGreatDoor
open Go Go.RowKit Lib
def hiB (n : Nat) : UInt8 := UInt8.ofNat (n / 256)
def loB (n : Nat) : UInt8 := UInt8.ofNat (n % 256)
theorem beN_two (n : Nat) (h : n < 65536) : beN [hiB n, loB n] = n := by
  simp [beN, hiB, loB, UInt8.toNat_ofNat]
  omega
def bareL (n s : List UInt8) : List UInt8 :=
  [202, 254, 186, 190] ++ ([0, 0] ++ ([0, 52] ++ ([0, 5] ++ (1 :: hiB n.length :: loB n.length :: (n ++ (7 :: 0 :: 1 :: (1 :: hiB s.length :: loB s.length :: (s ++ (7 :: 0 :: 3 :: ([0, 33] ++ ([0, 2] ++ ([0, 4] ++ ([0, 0] ++ ([0, 0] ++ ([0, 0] ++ ([0, 0] ++ []))))))))))))))))
def bareP (n s : List UInt8) : List Ko := [⟨1, ⟨n.toArray⟩, 0, 0, 0⟩, ⟨7, ⟨#[]⟩, 0, 1, 0⟩, ⟨1, ⟨s.toArray⟩, 0, 0, 0⟩, ⟨7, ⟨#[]⟩, 0, 3, 0⟩]
def bareC (n s : List UInt8) : ClassV := ⟨0, 52, bareP n s, 33, 2, 4, [], [], []⟩
theorem rep4 {α : Type} {f : Rs → Rx α} {s0 s1 s2 s3 s4 : Rs} {a b c d : α} (h1 : f s0 = .ok (a, s1)) (h2 : f s1 = .ok (b, s2)) (h3 : f s2 = .ok (c, s3)) (h4 : f s3 = .ok (d, s4)) : repP f 4 s0 = .ok ([a, b, c, d], s4) := by
  simp only [repP, h1, h2, h3, h4, Rx.bind_ok]
theorem read_bare (n s : List UInt8) (hn : n.length ≤ 1000) (hs : s.length ≤ 1000) : readP (bareL n s) = .ok (bareC n s) := by
  obtain ⟨l, hl⟩ : ∃ l, bareL n s = l := ⟨_, rfl⟩
  have hlen : l.length = 36 + n.length + s.length := by rw [← hl]; simp [bareL]; omega
  have hm : l.length ≤ 4611686018427387904 := by omega
  have h0 : AtL l 0 (bareL n s) := ⟨[], by rw [hl]; rfl, rfl⟩
  rw [hl]
  clear hl
  unfold bareL at h0
  have h1 := h0.next
  have h2 := h1.next
  have h3 := h2.next
  have h4 := h3.next
  have h5 := (h4.next (b := [1, hiB n.length, loB n.length])).next
  have h6 := h5.next (b := [7, 0, 1])
  have h7 := (h6.next (b := [1, hiB s.length, loB s.length])).next
  have h8 : AtL l _ ([0, 33] ++ ([0, 2] ++ ([0, 4] ++ ([0, 0] ++ ([0, 0] ++ ([0, 0] ++ ([0, 0] ++ []))))))) := h7.next (b := [7, 0, 3])
  have h9 := h8.next
  have h10 := h9.next
  have h11 := h10.next
  have h12 := h11.next
  have h13 := h12.next
  have h14 := h13.next
  have h15 := h14.next
  have e0 := fun nm pool => num_at (n := 4) (nm := nm) (pool := pool) _ h0 rfl hm
  have e1 := fun nm pool => num_at (n := 2) (nm := nm) (pool := pool) _ h1 rfl hm
  have e2 := fun nm pool => num_at (n := 2) (nm := nm) (pool := pool) _ h2 rfl hm
  have e3 := fun nm pool => num_at (n := 2) (nm := nm) (pool := pool) _ h3 rfl hm
  have k4 := ko_one (nm := 0) (pool := []) h4 (beN_two _ (by omega)).symm hm
  have k5 := ko_seven (nm := 0) (pool := []) h5 hm
  have k6 := ko_one (nm := 0) (pool := []) h6 (beN_two _ (by omega)).symm hm
  have k7 := ko_seven (nm := 0) (pool := []) h7 hm
  have r := rep4 k4 k5 k6 k7
  have e8 := fun nm pool => num_at (n := 2) (nm := nm) (pool := pool) _ h8 rfl hm
  have e9 := fun nm pool => num_at (n := 2) (nm := nm) (pool := pool) _ h9 rfl hm
  have e10 := fun nm pool => num_at (n := 2) (nm := nm) (pool := pool) _ h10 rfl hm
  have e11 := fun nm pool => num_at (n := 2) (nm := nm) (pool := pool) _ h11 rfl hm
  have e12 := fun nm pool => num_at (n := 2) (nm := nm) (pool := pool) _ h12 rfl hm
  have e13 := fun nm pool => num_at (n := 2) (nm := nm) (pool := pool) _ h13 rfl hm
  have e14 := fun nm pool => num_at (n := 2) (nm := nm) (pool := pool) _ h14 rfl hm
  obtain ⟨pre, ep, hp⟩ := h15
  rw [List.append_nil] at ep
  subst ep
  clear h0 h1 h2 h3 h4 h5 h6 h7 h8 h9 h10 h11 h12 h13 h14 k4 k5 k6 k7
  have z0 : beN [0, 0] = 0 := by decide
  have z4 : beN [202, 254, 186, 190] = 3405691582 := by decide
  have z5 : beN [0, 5] = 5 := by decide
  have z52 : beN [0, 52] = 52 := by decide
  have z33 : beN [0, 33] = 33 := by decide
  have z2 : beN [0, 2] = 2 := by decide
  have z3 : beN [0, 3] = 3 := by decide
  have z1 : beN [0, 1] = 1 := by decide
  have y4 : beN [0, 4] = 4 := by decide
  simp only [List.length_cons, List.length_nil, Nat.zero_add, Nat.reduceAdd, z0, z4, z5, z52, z33, z2, z3, z1, y4] at *
  unfold readP
  rw [if_neg (by omega)]
  simp only [classP, clsB, clsC, clsD, clsE, countP, skipP, attrsP, attrP, e0, e1, e2, e3, r, e8, e9, e10, e11, e12, e13, e14, Rx.bind_ok, repP, ne_eq, not_true_eq_false, if_false, Nat.reduceLT, Nat.reduceEqDiff, Nat.reduceSub, Nat.not_lt_zero, List.map_nil, hp, Nat.lt_irrefl]
  rfl
end Go.Proofs.YtdbniocnjhfhdaaGreatDoor

set_option linter.unusedSimpArgs false
set_option linter.unusedVariables false
set_option maxRecDepth 100000
set_option maxHeartbeats 1000000
namespace Go.Proofs.YtdbniocnjhfhdaaGreatDoor
open Go Go.RowKit Lib
theorem put1_any (v : Int) (w : World) :
    Calls Tryz.prog 51 #[.int .i64 v, .int .i64 1] w fun e w' => ∃ r, e = .returned r ∧ w'.ownsRow w.heap.size 5 1 r 1 [.int .u8 (v % 256)] ∧ Below w.heap.size w w' := by
  go_enter Tryz.func51, Tryz.ntmps51
  go_wp2
  refine wp_loop_rounds 2 ?_
  rw [rounds_succ]
  go_wp2_with (at_builtin; refine wpl_append rfl _ _ 27 rfl Tryz.underlying27 info_u8 rfl (by omega) w.heap.size rfl (World.ownsRow_nil _ _ _ _) rfl rfl (cells_new_at _ _ _ _ (by simp)) (by simp [Value.oneCell']) (by simp [maxLen]) (by omega) (by simp) ?_; intro v1 w1 ho1 hg1 hb1; have hz1 := hb1.size; simp only [World.size_alloc] at hz1; have hB1 := Lib.hid (((Below.refl w.heap.size w).alloc (Nat.le_refl _) _).trans hb1))
  rw [rounds_succ]
  go_wp2
  go_ret
  exact ⟨_, rfl, ho1, hB1.out⟩
theorem put2_any (v : Int) (w : World) :
    Calls Tryz.prog 51 #[.int .i64 v, .int .i64 2] w fun e w' => ∃ r, e = .returned r ∧ w'.ownsRow w.heap.size 5 1 r 2 [.int .u8 (v / 256 % 256), .int .u8 (v % 256)] ∧ Below w.heap.size w w' := by
  go_enter Tryz.func51, Tryz.ntmps51
  go_wp2
  refine wp_loop_rounds 3 ?_
  rw [rounds_succ]
  go_wp2_with (at_builtin; refine wpl_append rfl _ _ 27 rfl Tryz.underlying27 info_u8 rfl (by omega) w.heap.size rfl (World.ownsRow_nil _ _ _ _) rfl rfl (cells_new_at _ _ _ _ (by simp)) (by simp [Value.oneCell']) (by simp [maxLen]) (by omega) (by simp) ?_; intro v1 w1 ho1 hg1 hb1; have hz1 := hb1.size; simp only [World.size_alloc] at hz1; have hB1 := Lib.hid (((Below.refl w.heap.size w).alloc (Nat.le_refl _) _).trans hb1))
  rw [rounds_succ]
  go_wp2_with (at_builtin; refine wpl_append rfl _ _ 27 rfl Tryz.underlying27 info_u8 rfl (by omega) w.heap.size rfl (ho1.alloc _) rfl rfl (cells_new_at _ _ _ _ (by simp)) (by simp [Value.oneCell']) (by simp [maxLen]) (by omega) (by have := hz1; simp; omega) ?_; intro v2 w2 ho2 hg2 hb2; have hz2 := hb2.size; simp only [World.size_alloc] at hz2; have hB2 := Lib.hid ((hB1.out.alloc (by omega) _).trans hb2))
  rw [rounds_succ]
  go_wp2
  go_ret
  exact ⟨_, rfl, ho2, hB2.out⟩
theorem put4_any (v : Int) (w : World) :
    Calls Tryz.prog 51 #[.int .i64 v, .int .i64 4] w fun e w' => ∃ r, e = .returned r ∧ w'.ownsRow w.heap.size 5 1 r 4 [.int .u8 (v / 16777216 % 256), .int .u8 (v / 65536 % 256), .int .u8 (v / 256 % 256), .int .u8 (v % 256)] ∧ Below w.heap.size w w' := by
  go_enter Tryz.func51, Tryz.ntmps51
  go_wp2
  refine wp_loop_rounds 5 ?_
  rw [rounds_succ]
  go_wp2_with (at_builtin; refine wpl_append rfl _ _ 27 rfl Tryz.underlying27 info_u8 rfl (by omega) w.heap.size rfl (World.ownsRow_nil _ _ _ _) rfl rfl (cells_new_at _ _ _ _ (by simp)) (by simp [Value.oneCell']) (by simp [maxLen]) (by omega) (by simp) ?_; intro v1 w1 ho1 hg1 hb1; have hz1 := hb1.size; simp only [World.size_alloc] at hz1; have hB1 := Lib.hid (((Below.refl w.heap.size w).alloc (Nat.le_refl _) _).trans hb1))
  rw [rounds_succ]
  go_wp2_with (at_builtin; refine wpl_append rfl _ _ 27 rfl Tryz.underlying27 info_u8 rfl (by omega) w.heap.size rfl (ho1.alloc _) rfl rfl (cells_new_at _ _ _ _ (by simp)) (by simp [Value.oneCell']) (by simp [maxLen]) (by omega) (by have := hz1; simp; omega) ?_; intro v2 w2 ho2 hg2 hb2; have hz2 := hb2.size; simp only [World.size_alloc] at hz2; have hB2 := Lib.hid ((hB1.out.alloc (by omega) _).trans hb2))
  rw [rounds_succ]
  go_wp2_with (at_builtin; refine wpl_append rfl _ _ 27 rfl Tryz.underlying27 info_u8 rfl (by omega) w.heap.size rfl (ho2.alloc _) rfl rfl (cells_new_at _ _ _ _ (by simp)) (by simp [Value.oneCell']) (by simp [maxLen]) (by omega) (by have := hz2; simp; omega) ?_; intro v3 w3 ho3 hg3 hb3; have hz3 := hb3.size; simp only [World.size_alloc] at hz3; have hB3 := Lib.hid ((hB2.out.alloc (by omega) _).trans hb3))
  rw [rounds_succ]
  go_wp2_with (at_builtin; refine wpl_append rfl _ _ 27 rfl Tryz.underlying27 info_u8 rfl (by omega) w.heap.size rfl (ho3.alloc _) rfl rfl (cells_new_at _ _ _ _ (by simp)) (by simp [Value.oneCell']) (by simp [maxLen]) (by omega) (by have := hz3; simp; omega) ?_; intro v4 w4 ho4 hg4 hb4; have hz4 := hb4.size; simp only [World.size_alloc] at hz4; have hB4 := Lib.hid ((hB3.out.alloc (by omega) _).trans hb4))
  rw [rounds_succ]
  go_wp2
  go_ret
  exact ⟨_, rfl, ho4, hB4.out⟩
end Go.Proofs.YtdbniocnjhfhdaaGreatDoor

set_option linter.unusedSimpArgs false
set_option linter.unusedVariables false
set_option maxRecDepth 100000
set_option maxHeartbeats 1000000
namespace Go.Proofs.YtdbniocnjhfhdaaGreatDoor
open Go Go.RowKit Lib
theorem own_src {w : World} {base : Nat} {e : TypeId} {g n cap : Nat} {xs : List Value} (h : w.ownsRow base e 1 (.slice (some ⟨g, 0, none⟩) n cap) n xs) : ∀ j u, xs[j]? = some u → w.cell? ((⟨g, 0, none⟩ : Addr).add j) = some u := fun j u hj => by
  have hl : j < n := by
    have := (List.getElem?_eq_some_iff.1 hj).1
    have := h.1
    omega
  rw [add_cell, Nat.zero_add, h.cellAt j (by omega)]
  exact hj
def twoV (v : Int) : List Value := [.int .u8 (v / 256 % 256), .int .u8 (v % 256)]
theorem twos_snoc {L : List Int} {i : Nat} {v : Int} (h : L[i]? = some v) : (L.take (i + 1)).flatMap twoV = (L.take i).flatMap twoV ++ twoV v := by
  rw [List.take_add_one, h]
  simp
theorem two_any (base g n cap : Nat) (xs : List Value) (bl off m capl : Nat) (L : List Int) (w : World) (ho : w.ownsRow base 5 1 (.slice (some ⟨g, 0, none⟩) n cap) n xs) (hbase : base ≤ w.heap.size) (h0 : 0 < n) (hn : n ≤ 100000) (hL : L.length = m) (hm : m ≤ 1000) (hml : m ≤ capl)
    (hc : ∀ j v, L[j]? = some v → w.cell? ⟨bl, off + j, none⟩ = some (.int .i64 v)) (hlt : bl < w.heap.size) (hne : bl ≠ g) :
    Calls Tryz.prog 52 #[.slice (some ⟨g, 0, none⟩) n cap, .slice (some ⟨bl, off, none⟩) m capl] w fun e w' => ∃ g' cap', e = .returned (.slice (some ⟨g', 0, none⟩) (n + 2 * m) cap') ∧
      w'.ownsRow base 5 1 (.slice (some ⟨g', 0, none⟩) (n + 2 * m) cap') (n + 2 * m) (xs ++ L.flatMap twoV) ∧ But w.heap.size [g] w w' ∧ (g' = g ∨ w.heap.size ≤ g') := by
  have HO := Lib.hid ho
  have HL := Lib.hid hL
  have HC := Lib.hid hc
  have hgb := (ho.lt g rfl)
  clear ho hL hc
  go_enter Tryz.func52, Tryz.ntmps52
  go_wp2_with fail
  go_loopw [0, 5] (fun b i wr => ∃ k g' cap' : Nat, i = .int .i64 k ∧ k ≤ m ∧ b = .slice (some ⟨g', 0, none⟩) (n + 2 * k) cap' ∧ Hid (wr.ownsRow base 5 1 (.slice (some ⟨g', 0, none⟩) (n + 2 * k) cap') (n + 2 * k) (xs ++ (L.take k).flatMap twoV)) ∧ Hid (But w.heap.size [g] w wr) ∧ (g' = g ∨ w.heap.size ≤ g')) (fun _ i _ => m - (RowKit.intOf i).toNat)
  case atStart => exact ⟨0, g, cap, rfl, by omega, rfl, by first | exact (by simpa using HO.out : w.ownsRow _ _ _ _ _ _) | exact Lib.hid (by simpa using HO.out), by first | exact But.refl _ _ _ | exact Lib.hid (But.refl _ _ _), .inl rfl⟩
  case round =>
    obtain ⟨k, g1, c1, rfl, hk, rfl, HO1, HB1, hg1⟩ := hrel
    have hz1 := HB1.out.size
    by_cases hlt2 : k < m
    · obtain ⟨v, hv⟩ : ∃ v, L[k]? = some v := ⟨_, List.getElem?_eq_getElem (by rw [HL.out]; exact hlt2)⟩
      have cv := (HB1.out.cell (p := ⟨bl, off + k, none⟩) hlt (by simpa using hne)).trans (HC.out k v hv)
      have HV := Lib.hid (twos_snoc hv)
      clear hv
      go_wp2_with (go_at_call 51; refine (put2_any _ _).mono ?_; rintro e p ⟨r, rfl, hq, hbp⟩; refine stop_here ?_)
      obtain ⟨gp, kp, rfl, _, _⟩ := hq.form (by omega)
      have HQ := Lib.hid (own_src hq)
      have HO2 := Lib.hid (own_heap HO1.out fun q hq => hbp.block q (HO1.out.lt q hq).2)
      have HB2 := Lib.hid (HB1.out.trans (But.of_below (hbp.mono hz1)))
      have hg1s := (HO1.out.lt g1 rfl).2
      have hzp := hbp.size
      clear hq hbp cv
      refine go_on ?_
      go_wp2_with (at_builtin; refine wpl_lies (v := .slice (some ⟨g1, 0, none⟩) (n + 2 * k) c1) rfl _ _ 27 rfl Tryz.underlying27 info_u8 rfl (by omega) base rfl HO2.out rfl rfl (fun _ => ⟨_, rfl, HQ.out⟩) (by simp [Value.oneCell']) (by omega) (by simp only [maxLen]; omega) (by omega) (by omega) ?_; intro g3 c3 w3 ho3 hg3 hb3 hgg3 hlt3; refine stop_here ?_)
      have HO3 := Lib.hid (own_eq ho3 (show n + 2 * k + 2 = n + 2 * k + 2 from rfl) (show _ = xs ++ (L.take (k + 1)).flatMap twoV by rw [HV.out, ← List.append_assoc]; rfl))
      have HB3 := Lib.hid (HB2.out.grown hg3 (by omega) (fun q hq => by
        have e : g1 = q := by simpa [Value.ownBlock] using hq
        subst e
        rcases hg1 with h | h
        · left
          simp [h]
        · right
          exact h))
      have hg3' : g3 = g ∨ w.heap.size ≤ g3 := by
        rcases hgg3 with h | h
        · have e : g1 = g3 := by simpa [Value.ownBlock] using h
          subst e
          exact hg1
        · right
          omega
      clear ho3 hg3 hb3 hgg3
      refine go_on ?_
      go_wp2_with fail
      go_roundw
      case rel => exact ⟨k + 1, g3, c3, by go_num, by omega, by first | rfl | (congr 1), HO3, HB3, hg3'⟩
      case measure => simp [RowKit.intOf]; omega
    · have hkm : k = m := by omega
      subst hkm
      have ht : L.take k = L := List.take_of_length_le (by have := HL.out; omega)
      rw [ht] at HO1
      go_wp2_with fail
      go_ret
      exact ⟨g1, c1, rfl, HO1.out, HB1.out, hg1⟩
end Go.Proofs.YtdbniocnjhfhdaaGreatDoor

set_option linter.unusedSimpArgs false
set_option linter.unusedVariables false
namespace Go.Proofs.YtdbniocnjhfhdaaGreatDoor
open Go Go.RowKit Lib
theorem app_str {P : Program} (w : World) (base : Nat) (t u ty e : TypeId) (ht : P.underlying t = some (.slice e)) (hu : P.underlying u = some .string) (hi : (P.info? e).map (fun i => (i.zero, i.size, i.bytes)) = some (some (.int .u8 0), 1, 1))
    {g n cap : Nat} {xs : List Value} (hown : w.ownsRow base e 1 (.slice (some ⟨g, 0, none⟩) n cap) n xs) (s : ByteArray) (hpos : 0 < n) (h63 : n + s.size ≤ maxLen) (hbytes : n + s.size ≤ 140737488355328) (hbase : base ≤ w.heap.size) :
    ∃ g' cap' w', (Builtin.append_ #[t, u] ty #[.slice (some ⟨g, 0, none⟩) n cap, .string s]).run P w = .ok (.slice (some ⟨g', 0, none⟩) (n + s.size) cap') w' ∧ w'.ownsRow base e 1 (.slice (some ⟨g', 0, none⟩) (n + s.size) cap') (n + s.size) (xs ++ strCells s) ∧ w.grownBy w' (some g) ∧ (g' = g ∨ g' = w.heap.size) := by
  obtain ⟨i, hi, hz, hsize, hby⟩ := info_parts hi
  obtain ⟨v', w', hr, h2, h3, _⟩ := run_append_own_string (P := P) w base t u ty e i ht hu hi hz hsize hby _ n xs hown s h63 hbytes hbase
  obtain ⟨g', cap', rfl, _, _⟩ := h2.form (by omega)
  refine ⟨g', cap', w', hr, h2, h3, ?_⟩
  rcases hown.2 with ⟨hv, _⟩ | ⟨g0, cap0, cur, hv, hb, hg, hnc, hcm, hcs, hx⟩
  · cases hv
  · injection hv with hv _ hcp
    injection hv with hv
    injection hv with hv
    subst hv
    subst hcp
    by_cases hroom : n + s.size ≤ cap
    · left
      have hr2 := run_append_room_string (P := P) w t u ty e i ht hu hi hsize g n cap cur hg s hroom (by omega)
      rw [hr] at hr2
      injection hr2 with hr2
      injection hr2 with hr2
      injection hr2 with hr2
      injection hr2
    · right
      have hr2 := run_append_grow_string (P := P) w t u ty e i (.int .u8 0) ht hu hi hz ⟨g, 0, none⟩ n cap xs (by rw [hsize]; simpa using hown.1) (hown.cells (g := g) rfl) s (by omega) (by unfold maxLen at h63; omega) (by rw [hby]; exact growslice_fits (by omega) (by omega))
      rw [hr] at hr2
      injection hr2 with hr2
      injection hr2 with hr2
      injection hr2 with hr2
      injection hr2
theorem wpl_app_str {P : Program} {w : World} {ops : Array Oper} {rest : List Oper} {o : Oper} {a : Act} {Q : Exit → Act → World → Prop} (hgd : o.guard = none) (sl x : Operand) (t u : TypeId)
    (ho : o.op = .call { callee := .builtin .append, args := #[sl, x], argTypes := #[t, u] }) {e : TypeId} (ht : P.underlying t = some (.slice e)) (hu : P.underlying u = some .string)
    (hi : (P.info? e).map (fun i => (i.zero, i.size, i.bytes)) = some (some (.int .u8 0), 1, 1)) (base : Nat) {g n cap : Nat} {xs : List Value} (hs : a.eval sl = .slice (some ⟨g, 0, none⟩) n cap) (hown : w.ownsRow base e 1 (.slice (some ⟨g, 0, none⟩) n cap) n xs)
    {s : ByteArray} (hx : a.eval x = .string s) (hpos : 0 < n) (h63 : n + s.size ≤ maxLen) (hbytes : n + s.size ≤ 140737488355328) (hbase : base ≤ w.heap.size)
    (h : ∀ g' cap' w', w'.ownsRow base e 1 (.slice (some ⟨g', 0, none⟩) (n + s.size) cap') (n + s.size) (xs ++ strCells s) → w.grownBy w' (some g) → (g' = g ∨ g' = w.heap.size) → wpList P ops Q rest (a.put o.dst (.slice (some ⟨g', 0, none⟩) (n + s.size) cap')) w') : wpList P ops Q (o :: rest) a w := by
  refine wpList_plain hgd fun K hK => ?_
  obtain ⟨g', cap', w', hr, h2, h3, h4⟩ := app_str (P := P) w base t u o.type e ht hu hi hown s hpos h63 hbytes hbase
  unfold Oper.wp execOp
  simp only [ho, resolve, invoke, builtin, Sem.run_bind, Sem.run_pure, Result.andThen_ok, List.map_toArray, List.map_cons, List.map_nil, hs, hx, hr]
  exact hK _ _ (h g' cap' w' h2 h3 h4)
end Go.Proofs.YtdbniocnjhfhdaaGreatDoor

set_option linter.unusedSimpArgs false
set_option linter.unusedVariables false
set_option maxRecDepth 100000
set_option maxHeartbeats 1000000
namespace Go.Proofs.YtdbniocnjhfhdaaGreatDoor
open Go Go.RowKit Lib
theorem const_class (base g n cap : Nat) (xs : List Value) (a : Int) (w : World) (ho : w.ownsRow base 5 1 (.slice (some ⟨g, 0, none⟩) n cap) n xs) (hbase : base ≤ w.heap.size) (h0 : 0 < n) (hn : n ≤ 90000) :
    Calls Tryz.prog 53 #[.slice (some ⟨g, 0, none⟩) n cap, .agg #[.int .i64 7, .string ⟨#[]⟩, .int .i64 0, .int .i64 a, .int .i64 0]] w fun e w' => ∃ g' cap', e = .returned (.slice (some ⟨g', 0, none⟩) (n + 3) cap') ∧
      w'.ownsRow base 5 1 (.slice (some ⟨g', 0, none⟩) (n + 3) cap') (n + 3) (xs ++ ([.int .u8 7] ++ twoV a)) ∧ But w.heap.size [g] w w' ∧ (g' = g ∨ w.heap.size ≤ g') := by
  have HO := Lib.hid ho
  have hgb := (ho.lt g rfl)
  clear ho
  obtain ⟨x1, x2, x3, x4, x5, x6, x7, x8, x9, x10, x11, x12⟩ := far g w.heap.size hgb.2
  go_enter Tryz.func53, Tryz.ntmps53
  go_wp2_with (at_builtin; refine wpl_lies (v := .slice (some ⟨g, 0, none⟩) n cap) rfl _ _ 27 rfl Tryz.underlying27 info_u8 rfl (by omega) base rfl ((HO.out.alloc _).alloc _) rfl rfl (fun _ => ⟨_, rfl, cells_new_at _ _ _ _ (by simp)⟩) (by simp [Value.oneCell']) (by omega) (by simp only [maxLen]; omega) (by omega) (by simp; omega) ?_; intro g3 c3 w3 ho3 hg3 hb3 hgg3 hlt3; refine stop_here ?_)
  have F := grown_facts hg3 rfl
  have hz3 := F.2.2.2
  simp only [World.size_alloc] at hz3
  have b0 := (F.1 w.heap.size 0 (by simp; omega) (by omega)).trans (show _ = some (Value.int .i64 7) by simp [go_sem])
  have b3 := (F.1 w.heap.size 3 (by simp; omega) (by omega)).trans (show _ = some (Value.int .i64 a) by simp [go_sem])
  have HO3 := Lib.hid ho3
  have hg3' : g3 = g ∨ w.heap.size < g3 := by
    rcases hgg3 with h | h
    · left
      have e : g = g3 := by simpa [Value.ownBlock] using h
      exact e.symm
    · right
      simp at h
      omega
  have HB3 := Lib.hid ((But.of_below (S := [g]) (((Below.refl w.heap.size w).alloc (Nat.le_refl _) _).alloc (by simp) _)).grown hg3 (by simp; omega) (fun q hq => by
    have e : g = q := by simpa [Value.ownBlock] using hq
    left
    simp [e]))
  clear F ho3 hg3 hb3 hgg3
  have hgl3 := (HO3.out.lt g3 rfl)
  refine go_on ?_
  go_wp2_with (go_at_call 52; refine (two_any base g3 (n + 1) c3 _ w3.heap.size 0 1 1 [a] _ (HO3.out.alloc _) (by simp; omega) (by omega) (by omega) rfl (by omega) (by omega) (fun j v hj => by
    have h := cells_new w3 [Value.int .i64 a] 3 j (.int .i64 v) (by rcases j with _ | j <;> simp_all)
    rw [add_cell] at h
    exact h) (by simp) (by omega)).mono ?_; rintro e w4 ⟨g4, c4, rfl, ho4, hb4, hg4⟩; refine stop_here ?_)
  have HO4 := Lib.hid (own_eq ho4 (show n + 1 + 2 * 1 = n + 3 by omega) (show _ = xs ++ ([.int .u8 7] ++ twoV a) by simp))
  have HB4 := Lib.hid (HB3.out.trans ((But.of_below (S := [g]) ((Below.refl w.heap.size w3).alloc (by omega) _)).trans (hb4.mono (by simp; omega) (fun k hk hkm => by
    have e : k = g3 := by simpa using hkm
    subst e
    rcases hg3' with h | h
    · simp [h]
    · omega))))
  have hg4' : g4 = g ∨ w.heap.size ≤ g4 := by
    rcases hg4 with h | h
    · rw [h]
      rcases hg3' with h | h
      · exact .inl h
      · exact .inr (by omega)
    · right
      simp at h
      omega
  clear ho4 hb4 hg4
  refine go_on ?_
  go_wp2_with fail
  go_ret
  exact ⟨g4, c4, rfl, HO4.out, HB4.out, hg4'⟩
theorem const_text (base g n cap : Nat) (xs : List Value) (s : ByteArray) (w : World) (ho : w.ownsRow base 5 1 (.slice (some ⟨g, 0, none⟩) n cap) n xs) (hbase : base ≤ w.heap.size) (h0 : 0 < n) (hn : n ≤ 90000) (hs : s.size ≤ 1000) :
    Calls Tryz.prog 53 #[.slice (some ⟨g, 0, none⟩) n cap, .agg #[.int .i64 1, .string s, .int .i64 0, .int .i64 0, .int .i64 0]] w fun e w' => ∃ g' cap', e = .returned (.slice (some ⟨g', 0, none⟩) (n + 3 + s.size) cap') ∧
      w'.ownsRow base 5 1 (.slice (some ⟨g', 0, none⟩) (n + 3 + s.size) cap') (n + 3 + s.size) (xs ++ ([.int .u8 1] ++ twoV s.size ++ strCells s)) ∧ But w.heap.size [g] w w' ∧ (g' = g ∨ w.heap.size ≤ g') := by
  have HO := Lib.hid ho
  have hgb := (ho.lt g rfl)
  clear ho
  obtain ⟨x1, x2, x3, x4, x5, x6, x7, x8, x9, x10, x11, x12⟩ := far g w.heap.size hgb.2
  go_enter Tryz.func53, Tryz.ntmps53
  go_wp2_with (at_builtin; refine wpl_lies (v := .slice (some ⟨g, 0, none⟩) n cap) rfl _ _ 27 rfl Tryz.underlying27 info_u8 rfl (by omega) base rfl ((HO.out.alloc _).alloc _) rfl rfl (fun _ => ⟨_, rfl, cells_new_at _ _ _ _ (by simp)⟩) (by simp [Value.oneCell']) (by omega) (by simp only [maxLen]; omega) (by omega) (by simp; omega) ?_; intro g3 c3 w3 ho3 hg3 hb3 hgg3 hlt3; refine stop_here ?_)
  have F := grown_facts hg3 rfl
  have hz3 := F.2.2.2
  simp only [World.size_alloc] at hz3
  have b0 := (F.1 w.heap.size 0 (by simp; omega) (by omega)).trans (show _ = some (Value.int .i64 1) by simp [go_sem])
  have b1 := (F.1 w.heap.size 1 (by simp; omega) (by omega)).trans (show _ = some (Value.string s) by simp [go_sem])
  have HO3 := Lib.hid ho3
  have hg3' : g3 = g ∨ w.heap.size < g3 := by
    rcases hgg3 with h | h
    · left
      have e : g = g3 := by simpa [Value.ownBlock] using h
      exact e.symm
    · right
      simp at h
      omega
  have HB3 := Lib.hid ((But.of_below (S := [g]) (((Below.refl w.heap.size w).alloc (Nat.le_refl _) _).alloc (by simp) _)).grown hg3 (by simp; omega) (fun q hq => by
    have e : g = q := by simpa [Value.ownBlock] using hq
    left
    simp [e]))
  clear F ho3 hg3 hb3 hgg3
  have hgl3 := (HO3.out.lt g3 rfl)
  refine go_on ?_
  go_wp2_with (go_at_call 52; refine (two_any base g3 (n + 1) c3 _ w3.heap.size 0 1 1 [(s.size : Int)] _ (HO3.out.alloc _) (by simp; omega) (by omega) (by omega) rfl (by omega) (by omega) (fun j v hj => by
    have h := cells_new w3 [Value.int .i64 s.size] 3 j (.int .i64 v) (by rcases j with _ | j <;> simp_all)
    rw [add_cell] at h
    exact h) (by simp) (by omega)).mono ?_; rintro e w4 ⟨g4, c4, rfl, ho4, hb4, hg4⟩; refine stop_here ?_)
  have HO4 := Lib.hid (own_eq ho4 (show n + 1 + 2 * 1 = n + 3 by omega) (show _ = xs ++ ([.int .u8 1] ++ twoV s.size) by simp))
  have c1 := (hb4.cell (p := ⟨w.heap.size, 1, none⟩) (by simp; omega) (by simp; omega)).trans (show _ = some (Value.string s) by rw [World.cell?_alloc_lt _ _ _ (by show w.heap.size < _; omega)]; exact b1)
  have hz4 := hb4.size
  simp only [World.size_alloc] at hz4
  have HB4 := Lib.hid (HB3.out.trans ((But.of_below (S := [g]) ((Below.refl w.heap.size w3).alloc (by omega) _)).trans (hb4.mono (by simp; omega) (fun k hk hkm => by
    have e : k = g3 := by simpa using hkm
    subst e
    rcases hg3' with h | h
    · simp [h]
    · omega))))
  have hg4' : g4 = g ∨ w.heap.size < g4 := by
    rcases hg4 with h | h
    · rw [h]
      rcases hg3' with h | h
      · exact .inl h
      · exact .inr (by omega)
    · right
      simp at h
      omega
  clear ho4 hb4 hg4
  refine go_on ?_
  go_wp2_with (at_builtin; refine wpl_app_str (n := n + 3) rfl _ _ 27 9 rfl Tryz.underlying27 Tryz.underlying9 info_u8 base rfl HO4.out rfl (by omega) (by simp only [maxLen]; omega) (by omega) (by omega) ?_; intro g5 c5 w5 ho5 hg5 hgg5; refine stop_here ?_)
  have HO5 := Lib.hid (own_eq ho5 rfl (show _ = xs ++ ([.int .u8 1] ++ twoV s.size ++ strCells s) by rw [List.append_assoc]))
  have HB5 := Lib.hid (HB4.out.grown hg5 (by omega) (fun q hq => by
    injection hq with hq
    subst hq
    rcases hg4' with h | h
    · left
      simp [h]
    · right
      omega))
  have hg5' : g5 = g ∨ w.heap.size ≤ g5 := by
    rcases hgg5 with h | h
    · rw [h]
      rcases hg4' with h | h
      · exact .inl h
      · exact .inr (by omega)
    · right
      omega
  clear ho5 hg5 hgg5
  refine go_on ?_
  go_wp2_with fail
  go_ret
  exact ⟨g5, c5, rfl, HO5.out, HB5.out, hg5'⟩
end Go.Proofs.YtdbniocnjhfhdaaGreatDoor

set_option linter.unusedSimpArgs false
set_option linter.unusedVariables false
set_option maxRecDepth 100000
set_option maxHeartbeats 1000000
namespace Go.Proofs.YtdbniocnjhfhdaaGreatDoor
open Go Go.RowKit Lib
theorem wrap0 (w : World) : Calls Tryz.prog 102 #[.int .i64 0] w fun e w' => e = .returned (.int .i64 0) ∧ w' = w := by
  have H : bits .and .i64 0 4294967295 = 0 := by decide
  go_enter Tryz.func102, Tryz.ntmps102
  go_wp2
  all_goals go_ret
  all_goals first | exact ⟨by simp [H], rfl⟩ | exact ⟨rfl, rfl⟩
theorem kind1 (w : World) : Calls Tryz.prog 74 #[.int .i64 1] w fun e w' => e = .returned (.bool true) ∧ w' = w := by
  go_enter Tryz.func74, Tryz.ntmps74
  go_wp2
  go_ret
  exact ⟨rfl, rfl⟩
theorem kind7 (w : World) : Calls Tryz.prog 74 #[.int .i64 7] w fun e w' => e = .returned (.bool true) ∧ w' = w := by
  go_enter Tryz.func74, Tryz.ntmps74
  go_wp2
  go_ret
  exact ⟨rfl, rfl⟩
theorem twos_nil (w : World) : Calls Tryz.prog 75 #[.slice none 0 0] w fun e w' => e = .returned (.bool true) ∧ w' = w := by
  go_enter Tryz.func75, Tryz.ntmps75
  go_wp2
  refine wp_loop_rounds 1 ?_
  rw [rounds_succ]
  go_wp2
  go_ret
  exact ⟨rfl, rfl⟩
theorem twos_ok (b off n cap : Nat) (L : List Int) (w : World) (hl : L.length = n) (hm : n ≤ 1000) (hcap : n ≤ cap) (hc : ∀ j v, L[j]? = some v → w.cell? ⟨b, off + j, none⟩ = some (.int .i64 v)) (hr : ∀ v ∈ L, 0 ≤ v ∧ v ≤ 65535) :
    Calls Tryz.prog 75 #[.slice (some ⟨b, off, none⟩) n cap] w fun e w' => e = .returned (.bool true) ∧ w' = w := by
  have HL := Lib.hid hl
  have HC := Lib.hid hc
  have HR := Lib.hid hr
  clear hl hc hr
  go_enter Tryz.func75, Tryz.ntmps75
  go_wp2_with fail
  go_loop [3] (fun i => ∃ k : Nat, k ≤ n ∧ i = .int .i64 k) (fun i => n - (RowKit.intOf i).toNat)
  case atStart => exact ⟨0, by omega, rfl⟩
  case round =>
    obtain ⟨k, hk, rfl⟩ := hrel
    by_cases hlt : k < n
    · obtain ⟨v, hv⟩ : ∃ v, L[k]? = some v := ⟨_, List.getElem?_eq_getElem (by rw [HL.out]; exact hlt)⟩
      have cv := HC.out k v hv
      obtain ⟨r0, r1⟩ := HR.out v (List.mem_of_getElem? hv)
      have r0' : ¬ v < 0 := by omega
      have r1' : ¬ 65535 < v := by omega
      clear hv
      go_wp2
      go_round
      case rel => exact ⟨k + 1, by omega, by go_num⟩
      case measure => simp [RowKit.intOf]; omega
    · go_wp2
      go_ret
      exact ⟨rfl, rfl⟩
theorem fair_text (s : ByteArray) (hs : s.size ≤ 1000) (w : World) :
    Calls Tryz.prog 76 #[.agg #[.int .i64 1, .string s, .int .i64 0, .int .i64 0, .int .i64 0]] w fun e w' => e = .returned (.bool true) ∧ Below w.heap.size w w' := by
  have HT : ∀ W : World, Calls Tryz.prog 75 #[.slice (some ⟨W.heap.size, 0, none⟩) 2 2] (W.alloc (.cells #[.int .i64 0, .int .i64 0] 3)) fun e w' => e = .returned (.bool true) ∧ w' = W.alloc (.cells #[.int .i64 0, .int .i64 0] 3) := fun W =>
    twos_ok W.heap.size 0 2 2 [0, 0] _ rfl (by omega) (by omega) (fun j v hj => by
      have h := cells_new W [Value.int .i64 0, .int .i64 0] 3 j (.int .i64 v) (by rcases j with _ | _ | j <;> simp_all)
      rw [add_cell] at h
      exact h) (by intro v hv; simp at hv; rcases hv with rfl | rfl <;> omega)
  have HT' := Lib.hid HT
  clear HT
  go_enter Tryz.func76, Tryz.ntmps76
  go_wp2_with fail
  have h1 := HT'.out (w.alloc (.cells #[.int .i64 1, .string s, .int .i64 0, .int .i64 0, .int .i64 0] 78))
  simp only [World.size_alloc] at h1
  refine h1.mono ?_
  rintro e w2 ⟨rfl, rfl⟩
  clear h1
  have hd : ¬ (65535 : Int) < (s.size : Int) := by omega
  have hd2 : ¬ 65535 < s.size := by omega
  go_wp2_with fail
  go_quiet ((go_at_call 102; exact Calls.quiet_of_same (wrap0 _)))
  go_wp2_with fail
  go_ret
  refine ⟨rfl, ?_⟩
  repeat' (first | with_reducible exact Below.refl _ _ | with_reducible refine below_drewN ?_ _ | with_reducible refine Below.alloc ?_ ?_ _ | (simp; done) | (simp; omega) | omega)
theorem fair_class (a : Int) (h0 : 0 ≤ a) (h1 : a ≤ 65535) (w : World) :
    Calls Tryz.prog 76 #[.agg #[.int .i64 7, .string ⟨#[]⟩, .int .i64 0, .int .i64 a, .int .i64 0]] w fun e w' => e = .returned (.bool true) ∧ Below w.heap.size w w' := by
  have HT : ∀ W : World, Calls Tryz.prog 75 #[.slice (some ⟨W.heap.size, 0, none⟩) 2 2] (W.alloc (.cells #[.int .i64 a, .int .i64 0] 3)) fun e w' => e = .returned (.bool true) ∧ w' = W.alloc (.cells #[.int .i64 a, .int .i64 0] 3) := fun W =>
    twos_ok W.heap.size 0 2 2 [a, 0] _ rfl (by omega) (by omega) (fun j v hj => by
      have h := cells_new W [Value.int .i64 a, .int .i64 0] 3 j (.int .i64 v) (by rcases j with _ | _ | j <;> simp_all)
      rw [add_cell] at h
      exact h) (by intro v hv; simp at hv; rcases hv with rfl | rfl <;> omega)
  have HT' := Lib.hid HT
  clear HT
  go_enter Tryz.func76, Tryz.ntmps76
  go_wp2_with fail
  have h5 := HT'.out (w.alloc (.cells #[.int .i64 7, .string ⟨#[]⟩, .int .i64 0, .int .i64 a, .int .i64 0] 78))
  simp only [World.size_alloc] at h5
  refine h5.mono ?_
  rintro e w2 ⟨rfl, rfl⟩
  clear h5
  go_wp2_with fail
  go_quiet ((go_at_call 102; exact Calls.quiet_of_same (wrap0 _)))
  go_wp2_with fail
  go_ret
  refine ⟨rfl, ?_⟩
  repeat' (first | with_reducible exact Below.refl _ _ | with_reducible refine below_drewN ?_ _ | with_reducible refine Below.alloc ?_ ?_ _ | (simp; done) | (simp; omega) | omega)
end Go.Proofs.YtdbniocnjhfhdaaGreatDoor

set_option linter.unusedSimpArgs false
set_option linter.unusedVariables false
set_option maxRecDepth 100000
set_option maxHeartbeats 1000000
namespace Go.Proofs.YtdbniocnjhfhdaaGreatDoor
open Go Go.RowKit Lib
theorem long4 (A : Option Addr) (cap : Nat) (mi ma acc th su : Int) (w : World) :
    Calls Tryz.prog 73 #[.agg #[.int .i64 mi, .int .i64 ma, .slice A 4 cap, .int .i64 acc, .int .i64 th, .int .i64 su, .slice none 0 0, .slice none 0 0, .slice none 0 0]] w fun e w' => e = .returned (.bool false) ∧ Below w.heap.size w w' := by
  go_enter Tryz.func73, Tryz.ntmps73
  go_wp2_with fail
  refine wp_loop_rounds 1 ?_
  rw [rounds_succ]
  go_wp2_with fail
  go_ret
  exact ⟨rfl, (Below.refl _ _).alloc (Nat.le_refl _) _⟩
end Go.Proofs.YtdbniocnjhfhdaaGreatDoor

set_option linter.unusedSimpArgs false
set_option linter.unusedVariables false
set_option maxRecDepth 100000
set_option maxHeartbeats 1000000
namespace Go.Proofs.YtdbniocnjhfhdaaGreatDoor
open Go Go.RowKit Lib
def PoolAt (w : World) (g : Nat) (ks : List Ko) : Prop := ∀ (j : Nat) (k : Ko), ks[j]? = some k → w.cell? ⟨g, j * 5, none⟩ = some (.int .i64 k.tag) ∧ w.cell? ⟨g, j * 5 + 1, none⟩ = some (.string k.text) ∧ w.cell? ⟨g, j * 5 + 2, none⟩ = some (.int .i64 k.num) ∧ w.cell? ⟨g, j * 5 + 3, none⟩ = some (.int .i64 k.a) ∧ w.cell? ⟨g, j * 5 + 4, none⟩ = some (.int .i64 k.b)
theorem PoolAt.below {w w' : World} {g B : Nat} {ks : List Ko} (h : PoolAt w g ks) (hb : Below B w w') (hg : g < B) : PoolAt w' g ks := fun j k hk => by
  obtain ⟨h0, h1, h2, h3, h4⟩ := h j k hk
  exact ⟨(hb.cell (by exact hg)).trans h0, (hb.cell (by exact hg)).trans h1, (hb.cell (by exact hg)).trans h2, (hb.cell (by exact hg)).trans h3, (hb.cell (by exact hg)).trans h4⟩
def BoxAt (w : World) (g : Nat) (vs : List Value) : Prop := ∀ (j : Nat) (u : Value), vs[j]? = some u → w.cell? ⟨g, j, none⟩ = some u
theorem BoxAt.below {w w' : World} {g B : Nat} {vs : List Value} (h : BoxAt w g vs) (hb : Below B w w') (hg : g < B) : BoxAt w' g vs := fun j u hj => (hb.cell (by exact hg)).trans (h j u hj)
theorem box_new (w : World) (vs : List Value) (e : TypeId) : BoxAt (w.alloc (.cells vs.toArray e)) w.heap.size vs := fun j u hj => by
  have h := cells_new w vs e j u hj
  rw [add_cell] at h
  simpa using h
def four (n s : ByteArray) : List Ko := [⟨1, n, 0, 0, 0⟩, ⟨7, ⟨#[]⟩, 0, 1, 0⟩, ⟨1, s, 0, 0, 0⟩, ⟨7, ⟨#[]⟩, 0, 3, 0⟩]
theorem four_fair {n s : ByteArray} (hn : n.size ≤ 1000) (hs : s.size ≤ 1000) {j : Nat} {k : Ko} (h : (four n s)[j]? = some k) : (∃ t : ByteArray, t.size ≤ 1000 ∧ k = ⟨1, t, 0, 0, 0⟩) ∨ (∃ a : Int, 0 ≤ a ∧ a ≤ 65535 ∧ k = ⟨7, ⟨#[]⟩, 0, a, 0⟩) := by
  rcases j with _ | _ | _ | _ | j
  · exact .inl ⟨n, hn, by simpa [four] using h.symm⟩
  · exact .inr ⟨1, by omega, by omega, by simpa [four] using h.symm⟩
  · exact .inl ⟨s, hs, by simpa [four] using h.symm⟩
  · exact .inr ⟨3, by omega, by omega, by simpa [four] using h.symm⟩
  · simp [four] at h
theorem refused4 (g cap : Nat) (n s : ByteArray) (hn : n.size ≤ 1000) (hs : s.size ≤ 1000) (hcap : 4 ≤ cap) (w : World) (hp : PoolAt w g (four n s)) (hg : g < w.heap.size) :
    Calls Tryz.prog 50 #[.agg #[.int .i64 0, .int .i64 52, .slice (some ⟨g, 0, none⟩) 4 cap, .int .i64 33, .int .i64 2, .int .i64 4, .slice none 0 0, .slice none 0 0, .slice none 0 0]] w fun e w' => e = .returned (.int .i64 0) ∧ Below w.heap.size w w' := by
  have HP := Lib.hid hp
  clear hp
  obtain ⟨x1, x2, x3, x4, x5, x6, x7, x8, x9, x10, x11, x12⟩ := far g w.heap.size hg
  go_enter Tryz.func50, Tryz.ntmps50
  go_wp2_with (go_at_call 73; refine (long4 _ _ _ _ _ _ _ _).mono ?_; rintro e w1 ⟨rfl, hb1⟩; refine stop_here ?_)
  have hz1 := hb1.size
  simp only [World.size_alloc] at hz1
  have HP1 := Lib.hid (HP.out.below (((Below.refl w.heap.size w).alloc (Nat.le_refl _) _).trans (hb1.mono (by simp))) hg)
  have HB1 := Lib.hid ((box_new w [.int .i64 0, .int .i64 52, .slice (some ⟨g, 0, none⟩) 4 cap, .int .i64 33, .int .i64 2, .int .i64 4, .slice none 0 0, .slice none 0 0, .slice none 0 0] 58).below hb1 (by simp))
  have HW1 := Lib.hid (((Below.refl w.heap.size w).alloc (Nat.le_refl _) (.cells #[.int .i64 0, .int .i64 52, .slice (some ⟨g, 0, none⟩) 4 cap, .int .i64 33, .int .i64 2, .int .i64 4, .slice none 0 0, .slice none 0 0, .slice none 0 0] 58)).trans (hb1.mono (by simp)))
  clear hb1
  have b2 := HB1.out 2 _ rfl
  refine go_on ?_
  go_wp2_with fail
  go_loop [4, 5] (fun i o => ∃ k : Nat, k ≤ 4 ∧ i = .int .i64 k) (fun i o => 4 - (RowKit.intOf i).toNat)
  case atStart => exact ⟨0, by omega, rfl⟩
  case round =>
    obtain ⟨k, hk, rfl⟩ := hrel
    by_cases hlt : k < 4
    · obtain ⟨v, hv⟩ : ∃ v, (four n s)[k]? = some v := ⟨_, List.getElem?_eq_getElem (by simpa [four] using hlt)⟩
      have hf := four_fair hn hs hv
      have c0 := (HP1.out k v hv).1
      clear hv
      rcases hf with ⟨t, ht, rfl⟩ | ⟨a, ha0, ha1, rfl⟩
      · go_wp2_with (go_at_call 74; refine (kind1 _).mono ?_; rintro e w2 ⟨rfl, rfl⟩)
        go_round
        case rel => exact ⟨k + 1, by omega, by go_num⟩
        case measure => simp [RowKit.intOf]; omega
      · go_wp2_with (go_at_call 74; refine (kind7 _).mono ?_; rintro e w2 ⟨rfl, rfl⟩)
        go_round
        case rel => exact ⟨k + 1, by omega, by go_num⟩
        case measure => simp [RowKit.intOf]; omega
    · have hk4 : k = 4 := by omega
      subst hk4
      have b0 := HB1.out 0 _ rfl
      have b1 := HB1.out 1 _ rfl
      have b3 := HB1.out 3 _ rfl
      have b4 := HB1.out 4 _ rfl
      have b5 := HB1.out 5 _ rfl
      have b6 := HB1.out 6 _ rfl
      go_wp2_with fail
      refine (twos_ok w1.heap.size 0 5 5 [0, 52, 33, 2, 4] _ rfl (by omega) (by omega) (fun j v hj => by
        have h := cells_new w1 [Value.int .i64 0, .int .i64 52, .int .i64 33, .int .i64 2, .int .i64 4] 3 j (.int .i64 v) (by rcases j with _ | _ | _ | _ | _ | j <;> simp_all)
        rw [add_cell] at h
        exact h) (by intro v hv; simp at hv; rcases hv with rfl | rfl | rfl | rfl | rfl <;> omega)).mono ?_
      rintro e w2 ⟨rfl, rfl⟩
      obtain ⟨z1, z2, z3, z4, z5, z6, z7, z8, z9, z10, z11, z12⟩ := far w.heap.size w1.heap.size (by omega)
      go_wp2_with fail
      refine (twos_nil _).mono ?_
      rintro e w2 ⟨rfl, rfl⟩
      go_wp2_with fail
      have HB2 := Lib.hid (HB1.out.below ((Below.refl (w.heap.size + 1) w1).alloc (by omega) (.cells #[.int .i64 0, .int .i64 52, .int .i64 33, .int .i64 2, .int .i64 4] 3)) (by omega))
      have HP2 := Lib.hid (HP1.out.below ((Below.refl (w.heap.size + 1) w1).alloc (by omega) (.cells #[.int .i64 0, .int .i64 52, .int .i64 33, .int .i64 2, .int .i64 4] 3)) (by omega))
      have HW2 := Lib.hid (HW1.out.alloc (by omega) (.cells #[.int .i64 0, .int .i64 52, .int .i64 33, .int .i64 2, .int .i64 4] 3))
      have hz2 : w.heap.size + 1 ≤ (w1.alloc (.cells #[.int .i64 0, .int .i64 52, .int .i64 33, .int .i64 2, .int .i64 4] 3)).heap.size := by simp; omega
      clear b0 b1 b2 b3 b4 b5 b6
      generalize w1.alloc (.cells #[.int .i64 0, .int .i64 52, .int .i64 33, .int .i64 2, .int .i64 4] 3) = w2 at *
      go_loopw [6, 7, 8] (fun ok i f wr => ∃ k : Nat, k ≤ 4 ∧ ok = .bool true ∧ i = .int .i64 k ∧ Hid (Below (w.heap.size + 1) w2 wr) ∧ w2.heap.size ≤ wr.heap.size) (fun ok i f _ => 4 - (RowKit.intOf i).toNat)
      case atStart => exact ⟨0, by omega, rfl, rfl, by first | exact Below.refl _ _ | exact Lib.hid (Below.refl _ _), Nat.le_refl _⟩
      case round =>
        obtain ⟨k, hk, rfl, rfl, HR, hzr⟩ := hrel
        have b2 := (HB2.out.below HR.out (by omega)) 2 _ rfl
        by_cases hlt : k < 4
        · obtain ⟨v, hv⟩ : ∃ v, (four n s)[k]? = some v := ⟨_, List.getElem?_eq_getElem (by simpa [four] using hlt)⟩
          have hf := four_fair hn hs hv
          obtain ⟨c0, c1, c2, c3, c4⟩ := (HP2.out.below HR.out (by omega)) k v hv
          clear hv
          rcases hf with ⟨t, ht, rfl⟩ | ⟨a, ha0, ha1, rfl⟩
          · go_wp2_with (go_at_call 76; refine (fair_text _ ht _).mono ?_; rintro e w3 ⟨rfl, hb3⟩; refine stop_here ?_)
            have HR3 := Lib.hid (HR.out.trans (hb3.mono (by omega)))
            have hz3 := hb3.size
            clear hb3 b2 c0 c1 c2 c3 c4
            refine go_on ?_
            go_wp2_with fail
            go_roundw
            case rel => exact ⟨k + 1, by omega, rfl, by go_num, HR3, by omega⟩
            case measure => simp [RowKit.intOf]; omega
          · go_wp2_with (go_at_call 76; refine (fair_class _ ha0 ha1 _).mono ?_; rintro e w3 ⟨rfl, hb3⟩; refine stop_here ?_)
            have HR3 := Lib.hid (HR.out.trans (hb3.mono (by omega)))
            have hz3 := hb3.size
            clear hb3 b2 c0 c1 c2 c3 c4
            refine go_on ?_
            go_wp2_with fail
            go_roundw
            case rel => exact ⟨k + 1, by omega, rfl, by go_num, HR3, by omega⟩
            case measure => simp [RowKit.intOf]; omega
        · have hk4 : k = 4 := by omega
          subst hk4
          have HB3 := Lib.hid (HB2.out.below HR.out (by omega))
          have b7 := HB3.out 7 _ rfl
          have b8 := HB3.out 8 _ rfl
          go_wp2_with fail
          refine wp_loop_rounds 1 ?_
          rw [rounds_succ]
          go_wp2_with fail
          refine wp_loop_rounds 1 ?_
          rw [rounds_succ]
          go_wp2_with fail
          refine wp_loop_rounds 1 ?_
          rw [rounds_succ]
          go_wp2_with fail
          go_ret
          exact ⟨rfl, HW2.out.trans (HR.out.mono (by omega))⟩
end Go.Proofs.YtdbniocnjhfhdaaGreatDoor
