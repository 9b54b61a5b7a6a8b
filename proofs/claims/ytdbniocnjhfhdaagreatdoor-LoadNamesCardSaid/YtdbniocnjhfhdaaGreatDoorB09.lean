/-
  What the loader's laws rest on, part 9: walks of the program's functions and plain laws. Conditions: none but those that each theorem names.
-/
import Derived.Test.YtdbniocnjhfhdaaGreatDoorB08
/-
  The reader of class files: three numbers, read while a variable for them is made (the region that a field and a method begin with).
-/
set_option linter.unusedSimpArgs false
set_option linter.unusedVariables false
set_option maxRecDepth 100000
set_option maxHeartbeats 1000000
namespace Go.Proofs.YtdbniocnjhfhdaaGreatDoor
open Go Go.RowKit Lib
/-- What three numbers say, when k of them have been read. -/
def threeP {α : Type} (l : List UInt8) (K : Nat → Nat → Nat → Rs → Rx α) (x1 x2 x3 : Nat) (st : Rs) : Nat → Rx α
  | 0 => Rx.bind (numP l 2 st) fun a s1 => Rx.bind (numP l 2 s1) fun n s2 => Rx.bind (numP l 2 s2) fun d s3 => K a n d s3
  | 1 => Rx.bind (numP l 2 st) fun n s2 => Rx.bind (numP l 2 s2) fun d s3 => K x1 n d s3
  | 2 => Rx.bind (numP l 2 st) fun d s3 => K x1 x2 d s3
  | _ => K x1 x2 x3 st
structure NumW (T : TypeId) (zs : List Value) (w : World) (r b nr : Nat) (A : Option Addr) (cap : Nat) (l : List UInt8) (s : Rs) (wk : World) : Prop where
  rb : RB r w wk
  box : Bx wk b [.pointer (some ⟨r, 0, none⟩)] 173
  res : Bx wk nr zs T
  rd : RdrAt wk r A cap l s
theorem NumW.step {T : TypeId} {zs : List Value} {w : World} {r b nr : Nat} {A : Option Addr} {cap : Nat} {l : List UInt8} {s s' : Rs} {wk wq : World} (h : NumW T zs w r b nr A cap l s wk) (hb : b ≠ r) (hn : nr ≠ r) (hq : RB r wk wq) (hs : RdrAt wq r A cap l s') : NumW T zs w r b nr A cap l s' wq :=
  ⟨⟨h.rb.but.trans (hq.but.mono h.rb.but.size fun _ _ h => h), hq.c4.trans h.rb.c4⟩, h.box.but hq.but (ne_one hb), h.res.but hq.but (ne_one hn), hs⟩
theorem NumW.below {T : TypeId} {zs : List Value} {w : World} {r b nr : Nat} {A : Option Addr} {cap : Nat} {l : List UInt8} {s : Rs} {wk wq : World} (h : NumW T zs w r b nr A cap l s wk) (hr : r < w.heap.size) (hb : Below wk.heap.size wk wq) : NumW T zs w r b nr A cap l s wq :=
  ⟨ha_low h.rb hr (hb.mono h.rb.but.size), h.box.below hb h.box.lt, h.res.below hb h.res.lt, h.rd.keep hb⟩
theorem NumW.other {T : TypeId} {zs : List Value} {w : World} {r b nr g : Nat} {A : Option Addr} {cap : Nat} {l : List UInt8} {s : Rs} {wk : World} (h : NumW T zs w r b nr A cap l s wk) (cs : Array Value) (hr : g ≠ r) (hb : g ≠ b) (hn : g ≠ nr) (hg : w.heap.size ≤ g) (hA : ∀ a, A = some a → 0 < l.length → a.block ≠ g) : NumW T zs w r b nr A cap l s (wk.setRow g cs) := by
  have hbt : But wk.heap.size [g] wk (wk.setRow g cs) := ⟨rfl, rfl, rfl, by simp, fun k _ hs => setRow_other wk g k cs (by simpa using hs)⟩
  have hc : ∀ o, (wk.setRow g cs).cell? ⟨r, o, none⟩ = wk.cell? ⟨r, o, none⟩ := fun o => cell_setRow_other wk g cs _ (Ne.symm hr)
  refine ⟨⟨⟨h.rb.but.os, h.rb.but.tape, h.rb.but.output, by simpa using h.rb.but.size, fun k hk hs => (setRow_other wk g k cs (by omega)).trans (h.rb.but.block k hk hs)⟩, (hc 4).trans h.rb.c4⟩,
    h.box.but hbt (ne_one (Ne.symm hb)), h.res.but hbt (ne_one (Ne.symm hn)), ?_⟩
  exact { c0 := (hc 0).trans h.rd.c0, c1 := (hc 1).trans h.rd.c1, c2 := (hc 2).trans h.rd.c2, c3 := (hc 3).trans h.rd.c3
          fz := fun o => (World.frozen?_of_block (w := wk) (setRow_other wk g r cs (Ne.symm hr))).trans (h.rd.fz o)
          rd := ⟨h.rd.rd.hlen, h.rd.rd.hle, h.rd.rd.hmax, fun h0 => by
            obtain ⟨k, off, e, hlt, hc⟩ := h.rd.rd.hat h0
            exact ⟨k, off, e, by simpa using hlt, fun i hi => (cell_setRow_other wk g cs ⟨k, off + i, none⟩ (hA ⟨k, off, none⟩ e h0)).trans (hc i hi)⟩⟩
          ne := h.rd.ne, lt := by simpa using h.rd.lt, len := h.rd.len, pos := h.rd.pos, pm := h.rd.pm, most := h.rd.most }
theorem if_pos_mp {c : Bool} {p q : Prop} (h : c = true) (hp : p) : if c = true then p else q := by rw [if_pos h]; exact hp
theorem RB.trans {r : Nat} {a b c : World} (h : RB r a b) (k : RB r b c) : RB r a c := ⟨h.but.trans (k.but.mono h.but.size fun _ _ h => h), k.c4.trans h.c4⟩
theorem region_three {α : Type} (T : TypeId) (pos : String) (zs : List Value) (mk : Nat → Nat → Nat → List Value) (r b nr : Nat) (A : Option Addr) (cap : Nat) (l : List UInt8) (st : Rs) (w W0 : World) (p : Rx α) (K : Nat → Nat → Nat → Rs → Rx α)
    (hbr : b ≠ r) (hnr : nr ≠ r) (hbw : w.heap.size ≤ b) (hnw : w.heap.size ≤ nr) (hrw : r < w.heap.size) (hAw : ∀ a, A = some a → 0 < l.length → a.block < w.heap.size) (h0 : NumW T zs w r b nr A cap l st W0) (hp : p = threeP l K 0 0 0 st 0)
    (hal : ∀ (a : Act) (wk : World), (execOp a.eval { dst := some 3, op := Op.alloc T, type := 0, pos := pos, after := #[], guard := none }).run Tryz.prog wk = .ok (.value (.pointer (some ⟨wk.heap.size, 0, none⟩))) (wk.alloc (.cells zs.toArray T)))
    (hbu : ∀ (v3 v10 : Value) (wk : World) (x y z : Nat), (execOp (Act.eval { tmps := #[.pointer (some ⟨r, 0, none⟩), .pointer (some ⟨b, 0, none⟩), .pointer (some ⟨nr, 0, none⟩), v3, .pointer (some ⟨r, 0, none⟩), .int .i64 x, .pointer (some ⟨r, 0, none⟩), .int .i64 y, .pointer (some ⟨r, 0, none⟩), .int .i64 z, v10, undef, undef, undef, undef], defers := [] }) { dst := some 10, op := Op.build T #[(0, Operand.tmp 5), (1, Operand.tmp 7), (2, Operand.tmp 9)], type := T, pos := pos, after := #[{ on := 1, ground := Ground.data }, { on := 3, ground := Ground.data }, { on := 5, ground := Ground.data }], guard := none }).run Tryz.prog wk = .ok (.value (.agg (mk x y z).toArray)) wk)
    (hmk : ∀ x y z, (mk x y z).length = zs.length ∧ ∀ v ∈ (mk x y z), v.oneCell' = true) (d : TypeDesc) (hu : Tryz.prog.underlying T = some d) (hd : (match d with | .struct _ | .array _ _ => true | _ => false) = true) (hinf : (Tryz.prog.info? T).map (·.size) = some zs.length)
    (Q : Exit → Act → World → Prop) (hQ : ∀ c a (k : Nat) v w, Q (.panic c) (a.put (some k) v) w → Q (.panic c) a w)
    (hpan : ∀ (a : Act) pa er wk, a.defers = [] → p = .error (pa, er) → RB r w wk → Q (.panic [{ v := stopV pa er, recovered := false }]) a wk)
    (hfin : ∀ (x1 x2 x3 : Nat) (s3 : Rs) (g : Nat) (wk : World), p = K x1 x2 x3 s3 → s3.pool = st.pool → NumW T zs w r b nr A cap l s3 wk → Bx wk g (mk x1 x2 x3) T → W0.heap.size ≤ g →
      Q .normal { tmps := #[.pointer (some ⟨r, 0, none⟩), .pointer (some ⟨b, 0, none⟩), .pointer (some ⟨nr, 0, none⟩), .pointer (some ⟨g, 0, none⟩), .pointer (some ⟨r, 0, none⟩), .int .i64 x1, .pointer (some ⟨r, 0, none⟩), .int .i64 x2, .pointer (some ⟨r, 0, none⟩), .int .i64 x3, .agg (mk x1 x2 x3).toArray, undef, undef, undef, undef], defers := [] } wk) :
    Code.wp Tryz.prog (Code.region 1 #[
      { dst := some 4, op := Op.load 173 (Operand.tmp 1), type := 173, pos := pos, after := #[], guard := none },
      { dst := some 5, op := Op.call { callee := Callee.value (Operand.func 117), args := #[Operand.tmp 4, Operand.const (Value.int IntKind.i64 2)], argTypes := #[173, 3] }, type := 3, pos := pos, after := #[{ on := 0, ground := Ground.data }], guard := none },
      { dst := some 6, op := Op.load 173 (Operand.tmp 1), type := 173, pos := pos, after := #[], guard := none },
      { dst := some 7, op := Op.call { callee := Callee.value (Operand.func 117), args := #[Operand.tmp 6, Operand.const (Value.int IntKind.i64 2)], argTypes := #[173, 3] }, type := 3, pos := pos, after := #[{ on := 2, ground := Ground.data }, { on := 1, ground := Ground.chain }], guard := none },
      { dst := some 8, op := Op.load 173 (Operand.tmp 1), type := 173, pos := pos, after := #[], guard := none },
      { dst := some 9, op := Op.call { callee := Callee.value (Operand.func 117), args := #[Operand.tmp 8, Operand.const (Value.int IntKind.i64 2)], argTypes := #[173, 3] }, type := 3, pos := pos, after := #[{ on := 4, ground := Ground.data }, { on := 3, ground := Ground.chain }], guard := none },
      { dst := some 10, op := Op.build T #[(0, Operand.tmp 5), (1, Operand.tmp 7), (2, Operand.tmp 9)], type := T, pos := pos, after := #[{ on := 1, ground := Ground.data }, { on := 3, ground := Ground.data }, { on := 5, ground := Ground.data }], guard := none },
      { dst := some 3, op := Op.alloc T, type := 0, pos := pos, after := #[], guard := none },
      { dst := none, op := Op.store T (Operand.tmp 3) (Operand.tmp 10), type := 0, pos := pos, after := #[{ on := 7, ground := Ground.data }, { on := 6, ground := Ground.data }, { on := 5, ground := Ground.chain }, { on := 0, ground := Ground.phase }, { on := 1, ground := Ground.phase }, { on := 2, ground := Ground.phase }, { on := 3, ground := Ground.phase }, { on := 4, ground := Ground.phase }, { on := 5, ground := Ground.phase }, { on := 6, ground := Ground.phase }, { on := 7, ground := Ground.phase }], guard := none }] true)
      Q { tmps := #[.pointer (some ⟨r, 0, none⟩), .pointer (some ⟨b, 0, none⟩), .pointer (some ⟨nr, 0, none⟩), undef, undef, undef, undef, undef, undef, undef, undef, undef, undef, undef, undef], defers := [] } W0 := by
  have hS0 : W0.drew.cell? ⟨b, 0, none⟩ = some (.pointer (some ⟨r, 0, none⟩)) := h0.box.cell 0 rfl
  have hz0 : W0.drew.heap.size = W0.heap.size := rfl
  have H0 : NumW T zs w r b nr A cap l st W0.drew := h0.below hrw ⟨rfl, rfl, rfl, Nat.le_refl _, fun _ _ => rfl⟩
  refine wp_region_held_drew (S := fun w' => w'.cell? ⟨b, 0, none⟩ = some (.pointer (some ⟨r, 0, none⟩))) rfl hS0 (fun _ => ?_)
  generalize W0.drew = W1 at *
  refine wpAnyH_take (i := 0) (oi := { dst := some 4, op := Op.load 173 (Operand.tmp 1), type := 173, pos := pos, after := #[], guard := none }) (v := .pointer (some ⟨r, 0, none⟩)) rfl (by kernel_rfl) (by kernel_rfl) (by kernel_rfl) (fun _ _ _ h => hQ _ _ _ _ _ h) (Or.inl ⟨by rfl, ?_⟩) hS0 ?_
  · intro w' hw'
    go_simp
  refine wpAnyH_take (i := 2) (oi := { dst := some 6, op := Op.load 173 (Operand.tmp 1), type := 173, pos := pos, after := #[], guard := none }) (v := .pointer (some ⟨r, 0, none⟩)) rfl (by kernel_rfl) (by kernel_rfl) (by kernel_rfl) (fun _ _ _ h => hQ _ _ _ _ _ h) (Or.inl ⟨by rfl, ?_⟩) hS0 ?_
  · intro w' hw'
    go_simp
  refine wpAnyH_take (i := 4) (oi := { dst := some 8, op := Op.load 173 (Operand.tmp 1), type := 173, pos := pos, after := #[], guard := none }) (v := .pointer (some ⟨r, 0, none⟩)) rfl (by kernel_rfl) (by kernel_rfl) (by kernel_rfl) (fun _ _ _ h => hQ _ _ _ _ _ h) (Or.inl ⟨by rfl, ?_⟩) hS0 ?_
  · intro w' hw'
    go_simp
  simp only [Act.put, List.setIfInBounds_toArray, List.set_cons_zero, List.set_cons_succ]
  have hbl := H0.box.lt
  have hnl := H0.res.lt
  have hw1 : w.heap.size ≤ W1.heap.size := by omega
  refine wpAnyH_at (L' := threeL (0, false)) (by kernel_rfl) ?_
  refine wpAnyH_states threeL (fun s a wk => s.1 ≤ 5 ∧ (s.1 = 5 → s.2 = true) ∧ ∃ (v3 v5 v7 v9 v10 : Value) (x1 x2 x3 : Nat) (s' : Rs), a = { tmps := #[.pointer (some ⟨r, 0, none⟩), .pointer (some ⟨b, 0, none⟩), .pointer (some ⟨nr, 0, none⟩), v3, .pointer (some ⟨r, 0, none⟩), v5, .pointer (some ⟨r, 0, none⟩), v7, .pointer (some ⟨r, 0, none⟩), v9, v10, undef, undef, undef, undef], defers := [] } ∧
      NumW T zs w r b nr A cap l s' wk ∧ s'.pool = st.pool ∧ W1.heap.size ≤ wk.heap.size ∧ p = threeP l K x1 x2 x3 s' s.1 ∧ (s.2 = true → ∃ g, v3 = .pointer (some ⟨g, 0, none⟩) ∧ W1.heap.size ≤ g ∧ Bx wk g (if s.1 = 5 then mk x1 x2 x3 else zs) T) ∧
      (1 ≤ s.1 → v5 = .int .i64 x1) ∧ (2 ≤ s.1 → v7 = .int .i64 x2) ∧ (3 ≤ s.1 → v9 = .int .i64 x3) ∧ (4 ≤ s.1 → v10 = .agg (mk x1 x2 x3).toArray)) threeU threeN ?_ ?_ ?_ 6 (0, false) _ _ rfl ?_
  · rintro ⟨k, al⟩ a wk ⟨h1, h2, _⟩
    rcases three_cases h1 h2 with h | h | h | h | h | h | h | h | h | h | h <;> rw [h] <;> kernel_rfl
  · rintro ⟨k, al⟩ a wk ⟨h1, h2, v3, v5, v7, v9, v10, x1, x2, x3, s', rfl, hN, hpo, hz, hpp, hg, e5, e7, e9, e10⟩ h0
    obtain ⟨rfl, rfl⟩ : k = 5 ∧ al = true := by
      rcases three_cases h1 h2 with h | h | h | h | h | h | h | h | h | h | h <;> injection h with h3 h4 <;> subst h3 <;> subst h4 <;> first | exact ⟨rfl, rfl⟩ | (exfalso; revert h0; decide)
    obtain ⟨g, rfl, hgl, hbx⟩ := hg rfl
    obtain rfl := e5 (by omega)
    obtain rfl := e7 (by omega)
    obtain rfl := e9 (by omega)
    obtain rfl := e10 (by omega)
    exact hfin x1 x2 x3 s' g wk hpp hpo hN hbx (by omega)
  · rintro ⟨k, al⟩ a wk ⟨h1, h2, v3, v5, v7, v9, v10, x1, x2, x3, s', rfl, hN, hpo, hz, hpp, hg, e5, e7, e9, e10⟩ i hi
    have hb0 := hN.box.cell 0 rfl
    have hlt := hN.box.lt
    have hrd := hN.rd
    rcases three_mem hi with ⟨rfl, hk⟩ | ⟨rfl, hk⟩ | ⟨rfl, hk⟩ | ⟨rfl, hk⟩ | ⟨rfl, hk, ha⟩ | ⟨rfl, ha⟩
    · simp only at hk
      subst hk
      obtain ⟨q1, q2⟩ := three_next (b := al) 1 (.inl ⟨rfl, rfl⟩)
      refine ⟨(1, al), q1, q2, ?_⟩
      have HN := Lib.hid hN
      have HPP := Lib.hid hpp
      have HG := Lib.hid hg
      have E0 := Lib.hid e5
      have E1 := Lib.hid e7
      have E2 := Lib.hid e9
      clear hN hpp hg e5 e7 e9 e10 q1 q2 hrd hi h1 h2
      refine wpOp_step rfl (fun K' hK => ?_)
      go_wp2_with (go_at_call 117; refine stop_here ?_)
      refine go_on ?_
      refine (number_all r A cap 2 l s' _ HN.out.rd (by omega)).mono ?_
      intro e wq hq
      rcases hq.cases with ⟨pa, er, hp', hb, rfl⟩ | ⟨xq, sq, v, hp', hb, rfl, ⟨⟨rfl, hnq⟩, hsz⟩, hs⟩
      · exact hpan _ _ _ _ rfl (HPP.out.trans (bind_stop hp')) (HN.out.rb.trans hb)
      · have hN' := HN.out.step hbr hnr hb hs
        exact hK _ _ ⟨hN'.box.cell 0 rfl, by omega, by simp, v3, (.int .i64 xq), v7, v9, v10, xq, x2, x3, sq, rfl, hN', (keeps_num _ _ _ _ _ hp').trans hpo, by omega, HPP.out.trans (bind_step hp'), fun h => (by obtain ⟨g, h1, h2, h3⟩ := HG.out h; exact ⟨g, h1, h2, h3.but hb.but (ne_one (by omega))⟩), fun _ => rfl, fun h => absurd h (by simp), fun h => absurd h (by simp), fun h => absurd h (by simp)⟩
    · simp only at hk
      subst hk
      obtain ⟨q1, q2⟩ := three_next (b := al) 3 (.inr (.inl ⟨rfl, rfl⟩))
      refine ⟨(2, al), q1, q2, ?_⟩
      have HN := Lib.hid hN
      have HPP := Lib.hid hpp
      have HG := Lib.hid hg
      have E0 := Lib.hid e5
      have E1 := Lib.hid e7
      have E2 := Lib.hid e9
      clear hN hpp hg e5 e7 e9 e10 q1 q2 hrd hi h1 h2
      refine wpOp_step rfl (fun K' hK => ?_)
      go_wp2_with (go_at_call 117; refine stop_here ?_)
      refine go_on ?_
      refine (number_all r A cap 2 l s' _ HN.out.rd (by omega)).mono ?_
      intro e wq hq
      rcases hq.cases with ⟨pa, er, hp', hb, rfl⟩ | ⟨xq, sq, v, hp', hb, rfl, ⟨⟨rfl, hnq⟩, hsz⟩, hs⟩
      · exact hpan _ _ _ _ rfl (HPP.out.trans (bind_stop hp')) (HN.out.rb.trans hb)
      · have hN' := HN.out.step hbr hnr hb hs
        exact hK _ _ ⟨hN'.box.cell 0 rfl, by omega, by simp, v3, v5, (.int .i64 xq), v9, v10, x1, xq, x3, sq, rfl, hN', (keeps_num _ _ _ _ _ hp').trans hpo, by omega, HPP.out.trans (bind_step hp'), fun h => (by obtain ⟨g, h1, h2, h3⟩ := HG.out h; exact ⟨g, h1, h2, h3.but hb.but (ne_one (by omega))⟩), fun _ => E0.out (by omega), fun _ => rfl, fun h => absurd h (by simp), fun h => absurd h (by simp)⟩
    · simp only at hk
      subst hk
      obtain ⟨q1, q2⟩ := three_next (b := al) 5 (.inr (.inr (.inl ⟨rfl, rfl⟩)))
      refine ⟨(3, al), q1, q2, ?_⟩
      have HN := Lib.hid hN
      have HPP := Lib.hid hpp
      have HG := Lib.hid hg
      have E0 := Lib.hid e5
      have E1 := Lib.hid e7
      have E2 := Lib.hid e9
      clear hN hpp hg e5 e7 e9 e10 q1 q2 hrd hi h1 h2
      refine wpOp_step rfl (fun K' hK => ?_)
      go_wp2_with (go_at_call 117; refine stop_here ?_)
      refine go_on ?_
      refine (number_all r A cap 2 l s' _ HN.out.rd (by omega)).mono ?_
      intro e wq hq
      rcases hq.cases with ⟨pa, er, hp', hb, rfl⟩ | ⟨xq, sq, v, hp', hb, rfl, ⟨⟨rfl, hnq⟩, hsz⟩, hs⟩
      · exact hpan _ _ _ _ rfl (HPP.out.trans (bind_stop hp')) (HN.out.rb.trans hb)
      · have hN' := HN.out.step hbr hnr hb hs
        exact hK _ _ ⟨hN'.box.cell 0 rfl, by omega, by simp, v3, v5, v7, (.int .i64 xq), v10, x1, x2, xq, sq, rfl, hN', (keeps_num _ _ _ _ _ hp').trans hpo, by omega, HPP.out.trans (bind_step hp'), fun h => (by obtain ⟨g, h1, h2, h3⟩ := HG.out h; exact ⟨g, h1, h2, h3.but hb.but (ne_one (by omega))⟩), fun _ => E0.out (by omega), fun _ => E1.out (by omega), fun _ => rfl, fun h => absurd h (by simp)⟩
    · simp only at hk
      subst hk
      obtain ⟨q1, q2⟩ := three_next (b := al) 6 (.inr (.inr (.inr (.inl ⟨rfl, rfl⟩))))
      refine ⟨(4, al), q1, q2, ?_⟩
      obtain rfl := e5 (by omega)
      obtain rfl := e7 (by omega)
      obtain rfl := e9 (by omega)
      refine wpOp_step (o := { dst := some 10, op := Op.build T #[(0, Operand.tmp 5), (1, Operand.tmp 7), (2, Operand.tmp 9)], type := T, pos := pos, after := #[{ on := 1, ground := Ground.data }, { on := 3, ground := Ground.data }, { on := 5, ground := Ground.data }], guard := none }) rfl (fun K' hK => ?_)
      refine if_pos_mp rfl ?_
      unfold Oper.wp
      rw [hbu v3 v10 wk x1 x2 x3, Oper.upon_value]
      exact hK _ _ ⟨hb0, by omega, by simp, v3, _, _, _, _, x1, x2, x3, s', rfl, hN, hpo, hz, hpp, fun h => by obtain ⟨g, h1, h2, h3⟩ := hg h; exact ⟨g, h1, h2, h3⟩, fun _ => rfl, fun _ => rfl, fun _ => rfl, fun _ => rfl⟩
    · simp only at hk ha
      subst hk
      subst ha
      obtain ⟨q1, q2⟩ := three_next (b := true) 8 (.inr (.inr (.inr (.inr ⟨rfl, rfl⟩))))
      refine ⟨(5, true), q1, q2, ?_⟩
      obtain ⟨g, rfl, hgl, hbx⟩ := hg rfl
      obtain rfl := e10 (by omega)
      refine wpOp_step (o := { dst := none, op := Op.store T (Operand.tmp 3) (Operand.tmp 10), type := 0, pos := pos, after := #[{ on := 7, ground := Ground.data }, { on := 6, ground := Ground.data }, { on := 5, ground := Ground.chain }, { on := 0, ground := Ground.phase }, { on := 1, ground := Ground.phase }, { on := 2, ground := Ground.phase }, { on := 3, ground := Ground.phase }, { on := 4, ground := Ground.phase }, { on := 5, ground := Ground.phase }, { on := 6, ground := Ground.phase }, { on := 7, ground := Ground.phase }], guard := none }) rfl (fun K' hK => ?_)
      refine if_pos_mp rfl ?_
      have hbx' : wk.heap[g]? = some (.cells zs.toArray T (0, 0)) := hbx
      refine wp_store_row T _ _ rfl g (mk x1 x2 x3).toArray rfl rfl T zs.toArray hbx' (by simpa [hmk] using hinf) (by simp [hmk]) (by simpa using (hmk x1 x2 x3).2) ?_
      exact hK _ _ ⟨(cell_setRow_other wk g _ ⟨b, 0, none⟩ (by simp; omega)).trans hb0, by omega, by simp, _, v5, v7, v9, _, x1, x2, x3, s', rfl, hN.other _ (by omega) (by omega) (by omega) (by omega) (fun a e h0 => by have := hAw a e h0; omega), hpo, by simpa using hz, hpp, fun _ => ⟨g, rfl, hgl, hbx.row _⟩, fun _ => e5 (by omega), fun _ => e7 (by omega), fun _ => e9 (by omega), fun _ => rfl⟩
    · simp only at ha
      subst ha
      obtain ⟨q1, q2⟩ := three_made (k := k)
      refine ⟨(k, true), q1, q2, ?_⟩
      refine wpOp_step (o := { dst := some 3, op := Op.alloc T, type := 0, pos := pos, after := #[], guard := none }) rfl (fun K' hK => ?_)
      refine if_pos_mp rfl ?_
      unfold Oper.wp
      rw [hal, Oper.upon_value]
      have hN' := hN.below hrw ((Below.refl _ _).alloc (Nat.le_refl _) (.cells zs.toArray T))
      exact hK _ _ ⟨hN'.box.cell 0 rfl, h1, fun _ => rfl, _, v5, v7, v9, v10, x1, x2, x3, s', rfl, hN', hpo, by simp; omega, hpp, fun _ => ⟨_, rfl, hz, by rw [if_neg (fun h => by cases h2 h)]; exact bx_new _ _ _⟩, e5, e7, e9, e10⟩
  · exact ⟨by omega, by simp, undef, undef, undef, undef, undef, 0, 0, 0, st, rfl, H0, rfl, Nat.le_refl _, hp, by simp, by simp, by simp, by simp, by simp⟩
end Go.Proofs.YtdbniocnjhfhdaaGreatDoor
/-
  The reader of class files: a field.
-/
set_option linter.unusedSimpArgs false
set_option linter.unusedVariables false
set_option maxRecDepth 100000
set_option maxHeartbeats 1000000
namespace Go.Proofs.YtdbniocnjhfhdaaGreatDoor
open Go Go.RowKit Lib
def fieldAct (l : List UInt8) (f : FieldV) (a long : Nat) (s : Rs) : Rx FieldV := if long ≠ 2 then .error (a, 26) else Rx.bind (numP l 2 s) fun v s' => .ok ({ f with value := v }, s')
/-- What the closure captures: the reader, the field. -/
structure FldT (b F r : Nat) (f : FieldV) (w : World) : Prop where
  box : Bx w b [.pointer (some ⟨r, 0, none⟩)] 173
  fld : Bx w F f.cells 119
theorem RdrAt.other {w : World} {r : Nat} {A : Option Addr} {cap : Nat} {l : List UInt8} {st : Rs} (h : RdrAt w r A cap l st) (p : Addr) (v : Value) (hr : p.block ≠ r) (ha : ∀ a, A = some a → 0 < l.length → a.block ≠ p.block) : RdrAt (w.setCell p v) r A cap l st where
  c0 := (World.cell?_setCell_other _ _ _ _ (by intro e; subst e; exact hr rfl)).trans h.c0
  c1 := (World.cell?_setCell_other _ _ _ _ (by intro e; subst e; exact hr rfl)).trans h.c1
  c2 := (World.cell?_setCell_other _ _ _ _ (by intro e; subst e; exact hr rfl)).trans h.c2
  c3 := (World.cell?_setCell_other _ _ _ _ (by intro e; subst e; exact hr rfl)).trans h.c3
  fz := fun o => by simp [go_sem, h.fz o]
  rd := ⟨h.rd.hlen, h.rd.hle, h.rd.hmax, fun h0 => by
    obtain ⟨k, off, e, hlt, hc⟩ := h.rd.hat h0
    exact ⟨k, off, e, by simpa using hlt, fun i hi => (World.cell?_setCell_other _ _ _ _ (by intro e2; subst e2; exact ha ⟨k, off, none⟩ e h0 rfl)).trans (hc i hi)⟩⟩
  ne := h.ne
  lt := by simpa using h.lt
  len := h.len
  pos := h.pos
  pm := h.pm
  most := h.most
theorem field1_any (b F r : Nat) (A : Option Addr) (cap : Nat) (l : List UInt8) (hbF : b ≠ F) (hFr : F ≠ r) (hbr : b ≠ r) (hAF : ∀ a, A = some a → 0 < l.length → a.block ≠ F) (f : FieldV) (a n : Nat) (st : Rs) (w : World) (h : RdrAt w r A cap l st) (ht : FldT b F r f w) (ha : a ≤ 65536) (hn : n < 4294967296) :
    Calls Tryz.prog 137 #[.int .i64 a, .int .i64 n, .pointer (some ⟨b, 0, none⟩), .pointer (some ⟨F, 0, none⟩)] w (APost w r [F] A cap l (fieldAct l f a n st) (FldT b F r)) := by
  have hr := h.lt
  have H0 := Lib.hid h
  have HT0 := Lib.hid ht
  have c_b := ht.box.cell 0 rfl
  have hAF' := Lib.hid hAF
  have HA0 := Lib.hid (RS.refl r [F] w)
  clear h ht hAF
  by_cases h2 : n = 2
  · subst h2
    have HE0 := Lib.hid (show fieldAct l f a 2 st = Rx.bind (numP l 2 st) _ from if_neg (by decide))
    go_enter Tryz.func137, Tryz.ntmps137
    go_wp2_with (go_at_call 117; refine (number_any r A cap 2 l st _ (H0.out.keepB H0.out (by repeat' (first | with_reducible exact Below.refl _ _ | with_reducible refine below_drewN ?_ _ | with_reducible refine Below.drew ?_ | with_reducible refine Below.setCell ?_ ?_ _ | with_reducible refine Below.alloc ?_ ?_ _ | omega | (simp; done) | (simp; omega)))) (by omega)).mono ?_; refine stop_here ?_)
    refine go_on ?_
    intro e w1 hq
    rcases hq.cases with ⟨a, er, hp, hb, rfl⟩ | ⟨x1, s1, v, hp, hb, rfl, ⟨rfl, hn1⟩, hs⟩
    · have HP := Lib.hid (HE0.out.trans (bind_stop hp))
      clear hp
      have HA := Lib.hid (HA0.out.step hr (by repeat' (first | with_reducible exact Below.refl _ _ | with_reducible refine below_drewN ?_ _ | with_reducible refine Below.drew ?_ | with_reducible refine Below.setCell ?_ ?_ _ | with_reducible refine Below.alloc ?_ ?_ _ | omega | (simp; done) | (simp; omega))) hb)
      clear hb
      go_wp2_with fail
      exact (show _ ∧ _ from ⟨rfl, apost_error HP.out HA.out⟩)
    · have HE1 := Lib.hid (HE0.out.trans (bind_step hp))
      clear hp
      have HA1 := Lib.hid (HA0.out.step hr (by repeat' (first | with_reducible exact Below.refl _ _ | with_reducible refine below_drewN ?_ _ | with_reducible refine Below.drew ?_ | with_reducible refine Below.setCell ?_ ?_ _ | with_reducible refine Below.alloc ?_ ?_ _ | omega | (simp; done) | (simp; omega))) hb)
      have HS1 := Lib.hid hs
      have hz1 := hb.but.size
      try simp at hz1
      have hy1 := HA1.out.but.size
      clear hb hs
      have X_b := Lib.hid (HT0.out.box.but hq.1.but (ne_one (by omega)))
      have X_F := Lib.hid (HT0.out.fld.but hq.1.but (ne_one (by omega)))
      clear c_b
      have c_F := X_F.out.cell 3 rfl
      have z_F := X_F.out.frozen 3
      go_wp2_with fail
      go_end0
      exact apost_ok HE1.out ⟨HA1.out.but.set ⟨F, 3, none⟩ (.inl (by simp)) _, (World.cell?_setCell_other _ _ _ _ (by intro e; injection e with e _; exact hFr e)).trans HA1.out.c4⟩ ⟨X_b.out.set_other _ _ (Ne.symm hbF), X_F.out.set 3 _⟩ (HS1.out.other _ _ hFr (fun a e h0 => hAF'.out a e h0))
  · have HE0 := Lib.hid (show fieldAct l f a n st = .error (a, 26) from if_pos h2)
    have hb2 : ((n : Int) != 2) = true := by simp; omega
    clear h2
    go_enter Tryz.func137, Tryz.ntmps137
    go_wp2_with (go_at_call 118; refine (wrong_any _ _ _ _).mono ?_; rintro e w9 ⟨rfl, rfl⟩)
    exact (show _ ∧ _ from ⟨rfl, apost_error HE0.out HA0.out⟩)
theorem rb_rs {r g : Nat} {w wk w4 : World} (h : RB r w wk) (k : RS r [g] wk w4) (hg : w.heap.size ≤ g) : RB r w w4 :=
  ⟨h.but.trans (k.but.mono h.but.size fun q hq hm => by simp at hm; rcases hm with rfl | rfl; · simp
                                                        · omega), k.c4.trans h.c4⟩
theorem RB.set {r : Nat} {a w : World} (h : RB r a w) (p : Addr) (hp : a.heap.size ≤ p.block) (hr : p.block ≠ r) (v : Value) : RB r a (w.setCell p v) := ⟨h.but.set p (.inr hp) v, (World.cell?_setCell_other _ _ _ _ (by intro e; subst e; exact hr rfl)).trans h.c4⟩
theorem cv_list : (ByteArray.mk #[67, 111, 110, 115, 116, 97, 110, 116, 86, 97, 108, 117, 101]).toList = constantValueL := by decide +kernel
theorem zeros_field : ([Value.int .i64 0, .int .i64 0, .int .i64 0, .int .i64 0] : List Value).length = 4 := rfl
theorem field_any : FieldC := by
  intro r A cap l st w ok hok h hp
  have hr := h.lt
  have hA := fun (a : Addr) (e : A = some a) (h0 : 0 < l.length) => (show a.block < w.heap.size by
    obtain ⟨b, off, e2, hlt, _⟩ := h.rd.hat h0
    rw [e] at e2
    injection e2 with e2
    subst e2
    exact hlt)
  have HA := Lib.hid hA
  have H0 := Lib.hid h
  have HP0 := Lib.hid hp
  have HK := Lib.hid hok
  clear h hp hok hA
  go_enter Tryz.func121, Tryz.ntmps121
  go_wp2_with fail
  have hb := (((Below.refl w.heap.size w).alloc (Nat.le_refl _) (.cells #[Value.pointer (some ⟨r, 0, none⟩)] 173)).alloc (by simp) (.cells #[Value.int .i64 0, .int .i64 0, .int .i64 0, .int .i64 0] 119))
  refine region_three (α := FieldV) 119 _ [Value.int .i64 0, .int .i64 0, .int .i64 0, .int .i64 0] (fun x y z => [.int .i64 x, .int .i64 y, .int .i64 z, .int .i64 0]) r w.heap.size (w.heap.size + 1) A cap l st w _ (fieldP l st)
    (fun a n d s3 => attrsP l (some constantValueL) (fun f at' long s => if long ≠ 2 then .error (at', 26) else Rx.bind (numP l 2 s) fun v s' => .ok ({ f with value := v }, s')) ⟨a, n, d, 0⟩ s3) (by omega) (by omega) (by omega) (by omega) hr HA.out ⟨?_, ?_, ?_, ?_⟩ rfl ?_ ?_ ?_ _ rfl rfl rfl _ ?_ ?_ ?_
  · exact RB.of_below hr hb
  · exact (bx_new w _ _).below ((Below.refl _ _).alloc (Nat.le_refl _) _) (by simp)
  · exact bx_new_at _ _ _ _ (by simp)
  · exact H0.out.keep hb
  · intros; kernel_rfl
  · intros; kernel_rfl
  · intro x y z
    exact ⟨rfl, by simp [Value.oneCell']⟩
  · exact fun _ _ _ _ _ h => h
  · intro a pa er wk hd hp' hb'
    exact (show _ ∧ _ from ⟨hd, rpost_error hp' hb'⟩)
  · intro x1 x2 x3 s3 g wk hs hpo hN hg hge
    simp only [World.size_alloc] at hge
    have HS := Lib.hid hs
    have HN := Lib.hid hN
    have HG := Lib.hid hg
    have HPO := Lib.hid hpo
    have c_b := hN.box.cell 0 rfl
    have hbl := hN.box.lt
    clear hs hN hg hpo hb
    go_wp2_with (go_at_call 123; refine stop_here ?_)
    refine go_on ?_
    refine (attrs_field _ _ _ (by rw [cv_list]; decide +kernel) [g] (FldT w.heap.size g r) (fieldAct l) r A cap l s3 ⟨x1, x2, x3, 0⟩ _ (fun q => ok q ∧ q < w.heap.size) ?_ ?_ ?_ ?_ HN.out.rd ?_ ⟨HN.out.box, HG.out⟩).mono ?_
    · intro q hq
      exact ⟨HK.out q hq.1, by simp; omega⟩
    · intro x W W' hT hB
      exact ⟨hT.box.but hB (ne_one (by omega)), hT.fld.but hB (ne_one (by omega))⟩
    · intro x a n s
      exact keeps_ite (keeps_error _ _) (keeps_bind (keeps_num _ _ _) fun _ _ h => keeps_ok _ h)
    · intro a n s W hR hP hT ha hn
      exact field1_any w.heap.size g r A cap l (by omega) (by omega) (by omega) (fun q e h0 => by have := HA.out q e h0; omega) _ a n s W hR hT ha hn
    · rw [HPO.out]
      obtain ⟨pv, h1, h2⟩ := HP0.out
      exact ⟨pv, HN.out.rb.c4.trans h1, (h2.mono fun q hq hk => ⟨hk, hq⟩).keep (Kept.of_but HN.out.rb.but fun q hq => ne_one (HK.out q hq.1))⟩
    · intro e w4 hq
      rw [cv_list] at hq
      rcases hq.cases with ⟨pa, er, hp', hb, rfl⟩ | ⟨x4, s4, hp', hb, rfl, ht, hs⟩
      · exact (show _ ∧ _ from ⟨rfl, rpost_error (HS.out.trans hp') (rb_rs HN.out.rb hb (by omega))⟩)
      · have HP4 := Lib.hid (HS.out.trans hp')
        have X_F := Lib.hid ht.fld
        have X_n := Lib.hid (HN.out.res.but hb.but (by simp; omega))
        have HB := Lib.hid hb
        have HS4 := Lib.hid hs
        have c0 := ht.fld.cell 0 rfl
        have c1 := ht.fld.cell 1 rfl
        have c2 := ht.fld.cell 2 rfl
        have c3 := ht.fld.cell 3 rfl
        clear hp' hb ht hs hq c_b
        have n0 := X_n.out.cell 0 rfl
        have n1 := X_n.out.cell 1 rfl
        have n2 := X_n.out.cell 2 rfl
        have n3 := X_n.out.cell 3 rfl
        have z0 := X_n.out.frozen 0
        have z1 := X_n.out.frozen 1
        have z2 := X_n.out.frozen 2
        have z3 := X_n.out.frozen 3
        go_wp2_with fail
        have hA' : ∀ a, A = some a → 0 < l.length → a.block ≠ w.heap.size + 1 := fun a e h0 => by have := HA.out a e h0; omega
        refine bodyPost_ret (v := fieldV x4) (results_row rfl rfl ((((X_n.out.set 0 _).set 1 _).set 2 _).set 3 _) rfl rfl (by kernel_rfl)) rfl ?_
        exact rpost_ok HP4.out (((((rb_rs HN.out.rb HB.out (by omega)).set _ (by simp) (by simp; omega) _).set _ (by simp) (by simp; omega) _).set _ (by simp) (by simp; omega) _).set _ (by simp) (by simp; omega) _) rfl
          ((((HS4.out.other _ _ (by simp; omega) hA').other _ _ (by simp; omega) hA').other _ _ (by simp; omega) hA').other _ _ (by simp; omega) hA')
end Go.Proofs.YtdbniocnjhfhdaaGreatDoor
/-
  The reader of class files: what reading a method's code keeps of memory.
-/
set_option linter.unusedSimpArgs false
set_option linter.unusedVariables false
set_option maxRecDepth 100000
set_option maxHeartbeats 1000000
namespace Go.Proofs.YtdbniocnjhfhdaaGreatDoor
open Go Go.RowKit Lib
/-- The reader, and the method that is being made in block M. -/
structure CdW (w : World) (r M : Nat) (A : Option Addr) (cap : Nat) (l : List UInt8) (s : Rs) (cs : List Value) (wk : World) : Prop where
  rs : RS r [M] w wk
  rd : RdrAt wk r A cap l s
  mb : Bx wk M cs 91
theorem CdW.step {w : World} {r M : Nat} {A : Option Addr} {cap : Nat} {l : List UInt8} {s s' : Rs} {cs : List Value} {wk wq : World} (h : CdW w r M A cap l s cs wk) (hM : M ≠ r) (hq : RB r wk wq) (hs : RdrAt wq r A cap l s') : CdW w r M A cap l s' cs wq :=
  ⟨h.rs.trans (RS.of_rb hq), hs, h.mb.but hq.but (ne_one hM)⟩
theorem CdW.below {w : World} {r M : Nat} {A : Option Addr} {cap : Nat} {l : List UInt8} {s : Rs} {cs : List Value} {wk wq : World} (h : CdW w r M A cap l s cs wk) (hb : Below wk.heap.size wk wq) : CdW w r M A cap l s cs wq :=
  ⟨h.rs.trans (RS.of_rb (RB.of_below h.rd.lt hb)), h.rd.keep hb, h.mb.below hb h.mb.lt⟩
theorem CdW.set {w : World} {r M : Nat} {A : Option Addr} {cap : Nat} {l : List UInt8} {s : Rs} {cs : List Value} {wk : World} (h : CdW w r M A cap l s cs wk) (hM : M ≠ r) (hA : ∀ a, A = some a → 0 < l.length → a.block ≠ M) (j : Nat) (v : Value) : CdW w r M A cap l s (cs.set j v) (wk.setCell ⟨M, j, none⟩ v) :=
  ⟨⟨h.rs.but.set ⟨M, j, none⟩ (.inl (by simp)) v, (World.cell?_setCell_other _ _ _ _ (by intro e; injection e with e _; exact hM e)).trans h.rs.c4⟩, h.rd.other _ _ hM hA, h.mb.set j v⟩
theorem rdr_most {w : World} {r : Nat} {A : Option Addr} {cap : Nat} {l : List UInt8} {st : Rs} (h : RdrAt w r A cap l st) (m : Nat) (h1 : st.pos ≤ m) (h2 : m ≤ 4611686018427387904) : RdrAt (w.setCell ⟨r, 2, none⟩ (.int .i64 m)) r A cap l { st with most := m } where
  c0 := (World.cell?_setCell_other _ _ _ _ (by simp)).trans h.c0
  c1 := (World.cell?_setCell_other _ _ _ _ (by simp)).trans h.c1
  c2 := World.cell?_setCell_same _ _ _ h.c2
  c3 := (World.cell?_setCell_other _ _ _ _ (by simp)).trans h.c3
  fz := fun o => by simp [go_sem, h.fz o]
  rd := h.rd.but ((But.refl w.heap.size [r] w).set ⟨r, 2, none⟩ (.inl (by simp)) _) (fun a ha => by simpa using h.ne a ha)
  ne := h.ne
  lt := by simpa using h.lt
  len := h.len
  pos := h.pos
  pm := h1
  most := h2
theorem rdr_named {w : World} {r : Nat} {A : Option Addr} {cap : Nat} {l : List UInt8} {st : Rs} (h : RdrAt w r A cap l st) (m : Nat) : RdrAt (w.setCell ⟨r, 3, none⟩ (.int .i64 m)) r A cap l { st with named := m } where
  c0 := (World.cell?_setCell_other _ _ _ _ (by simp)).trans h.c0
  c1 := (World.cell?_setCell_other _ _ _ _ (by simp)).trans h.c1
  c2 := (World.cell?_setCell_other _ _ _ _ (by simp)).trans h.c2
  c3 := World.cell?_setCell_same _ _ _ h.c3
  fz := fun o => by simp [go_sem, h.fz o]
  rd := h.rd.but ((But.refl w.heap.size [r] w).set ⟨r, 3, none⟩ (.inl (by simp)) _) (fun a ha => by simpa using h.ne a ha)
  ne := h.ne
  lt := by simpa using h.lt
  len := h.len
  pos := h.pos
  pm := h.pm
  most := h.most
theorem CdW.rset {w : World} {r M : Nat} {A : Option Addr} {cap : Nat} {l : List UInt8} {s s' : Rs} {cs : List Value} {wk : World} (h : CdW w r M A cap l s cs wk) (hM : M ≠ r) (j : Nat) (hj : j ≠ 4) (v : Value) (hs : RdrAt (wk.setCell ⟨r, j, none⟩ v) r A cap l s') : CdW w r M A cap l s' cs (wk.setCell ⟨r, j, none⟩ v) :=
  ⟨⟨h.rs.but.set ⟨r, j, none⟩ (.inl (by simp)) v, (World.cell?_setCell_other _ _ _ _ (by intro e; injection e with _ e; exact hj e)).trans h.rs.c4⟩, hs, h.mb.set_other _ _ (Ne.symm hM)⟩
/-- The code that was read, and the row of handlers that is being read. -/
structure TrW (B : Nat) (cv : Value) (code : List UInt8) (pv : Value) (ts : List TrapV) (wk : World) : Prop where
  hcode : SlAt wk (fun g => B ≤ g ∧ pv.ownBlock ≠ some g) 1 code.length (code.map bV) cv
  row : wk.ownsRow B 157 4 pv ts.length (ts.flatMap TrapV.cells)
  lo : B ≤ wk.heap.size
theorem TrW.but {B : Nat} {cv : Value} {code : List UInt8} {pv : Value} {ts : List TrapV} {wk wq : World} {S : List Nat} (h : TrW B cv code pv ts wk) (hb : But wk.heap.size S wk wq) (hS : ∀ k ∈ S, k < B) : TrW B cv code pv ts wq :=
  ⟨h.hcode.keep (Kept.of_but hb fun g hg hm => by have := hS g hm; omega), own_heap h.row fun q hq => hb.block q (h.row.lt q hq).2 (fun hm => by have := hS q hm; have := (h.row.lt q hq).1; omega), Nat.le_trans h.lo hb.size⟩
theorem TrW.grown {B : Nat} {cv : Value} {code : List UInt8} {pv : Value} {ts : List TrapV} {wk W' : World} {t : TrapV} {n c g : Nat} (h : TrW B cv code pv ts wk) (o : Obj)
    (hr : W'.ownsRow B 157 4 (.slice (some ⟨g, 0, none⟩) n c) (ts ++ [t]).length ((ts ++ [t]).flatMap TrapV.cells)) (hg : (wk.alloc o).grownBy W' pv.ownBlock) (hgg : pv.ownBlock = some g ∨ g = (wk.alloc o).heap.size) :
    TrW B cv code (.slice (some ⟨g, 0, none⟩) n c) (ts ++ [t]) W' := by
  have hz := hg.size
  simp only [World.size_alloc] at hz hgg
  have hk : Kept (fun g => B ≤ g ∧ pv.ownBlock ≠ some g) wk W' := ⟨by omega, fun g hgl hok off => by
    rw [World.cell?_of_block (w := wk.alloc o) (hg.block g (by simp; omega) (fun e => hok.2 e.symm)), World.cell?_alloc_lt _ _ _ hgl]⟩
  refine ⟨?_, hr, by have := h.lo; omega⟩
  have h2 := (h.hcode.mono (ok' := fun g => (B ≤ g ∧ pv.ownBlock ≠ some g) ∧ g < wk.heap.size) fun g hgl hok => ⟨hok, hgl⟩)
  refine ((h2.keep (hk.mono fun g hg => hg.1)).mono fun q _ hok => ⟨hok.1.1, fun e => ?_⟩)
  have e' : g = q := by simpa [Value.ownBlock] using e
  subst e'
  rcases hgg with hgg | hgg
  · exact hok.1.2 hgg
  · have := hok.2
    omega
theorem info_trap : (Tryz.prog.info? 157).map (fun i => (i.zero, i.size, i.bytes)) = some (some (.agg #[.int .i64 0, .int .i64 0, .int .i64 0, .int .i64 0]), 4, 32) := by kernel_rfl
theorem rep_trap (l : List UInt8) (ts : List TrapV) (k : Nat) (s : Rs) {β : Type} (K : List TrapV → Rs → Rx β) : Rx.bind (Rx.pre ts (repP (trapP l) (k + 1) s)) K =
    Rx.bind (numP l 2 s) fun a s1 => Rx.bind (numP l 2 s1) fun b s2 => Rx.bind (numP l 2 s2) fun c s3 => Rx.bind (numP l 2 s3) fun d s4 => Rx.bind (Rx.pre (ts ++ [⟨a, b, c, d⟩]) (repP (trapP l) k s4)) K := by
  unfold Rx.pre
  rw [repP]
  unfold trapP
  simp only [Rx.bind_assoc, Rx.bind_ok, List.append_assoc, List.singleton_append]
  done
end Go.Proofs.YtdbniocnjhfhdaaGreatDoor
