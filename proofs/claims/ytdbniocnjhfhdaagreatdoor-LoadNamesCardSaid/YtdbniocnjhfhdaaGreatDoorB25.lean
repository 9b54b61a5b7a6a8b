/-
  What the loader's laws rest on, part 25: walks of the program's functions and plain laws. Conditions: none but those that each theorem names.
-/
import Derived.Test.YtdbniocnjhfhdaaGreatDoorB24
import Derived.Test.YtdbniocnjhfhdaaGreatDoorB20
import Derived.Test.YtdbniocnjhfhdaaGreatDoorRows
import Derived.ChangeSame
import Derived.ChangeVars
import Derived.JoinedOf
import Derived.RowKit
import Derived.RowKitTokens
import Derived.LaidLaws
import Derived.LaidHandle
import Derived.Stop.Joined
/-
  Definitions of bare classes: what the loader's contract asks of them.
-/
set_option linter.unusedSimpArgs false
set_option linter.unusedVariables false
set_option maxRecDepth 100000
namespace Go.Proofs.YtdbniocnjhfhdaaGreatDoor
open Go Go.RowKit Lib
theorem ldK_bare (defs : List UInt8 → Option (List UInt8)) (dn : List (List UInt8)) (hd : ∀ s l, defs s = some l → s ∈ dn) (hc : dn.length ≤ 64)
    (hb : ∀ s l, defs s = some l → ∃ n sp, l = bareL n sp ∧ n.length ≤ 1000 ∧ sp.length ≤ 1000) : LdK checkB defs dn where
  dom := hd
  cnt := hc
  out := fun s l hs c hr p i f m ok W h => by
    obtain ⟨n, sp, rfl, h1, h2⟩ := hb s l hs
    rw [read_bare n sp h1 h2] at hr
    injection hr with hr
    subst hr
    have hf : ∀ k ∈ (bareC n sp).pool, Fine k.a := by
      intro k hk
      simp only [bareC, bareP, List.mem_cons, List.not_mem_nil, or_false] at hk
      rcases hk with rfl | rfl | rfl | rfl <;> (unfold Fine; simp)
    have hft : ∀ k ∈ (bareC n sp).pool, k.text.size ≤ 65536 := by
      intro k hk
      simp only [bareC, bareP, List.mem_cons, List.not_mem_nil, or_false] at hk
      rcases hk with rfl | rfl | rfl | rfl <;> simp [ByteArray.size] <;> omega
    have htag : ∀ k ∈ (bareC n sp).pool, k.tag = 1 ∨ k.tag = 3 ∨ k.tag = 7 := by
      intro k hk
      simp only [bareC, bareP, List.mem_cons, List.not_mem_nil, or_false] at hk
      rcases hk with rfl | rfl | rfl | rfl <;> simp
    exact outline_plain (bareC n sp) p i f m ok W h (by unfold Fine; simp [bareC]) (by unfold Fine; simp [bareC]) hf (by simp [bareC]) hft htag (by simp [bareC]) rfl rfl
  small := fun s l c hs hr => by
    obtain ⟨n, sp, rfl, h1, h2⟩ := hb s l hs
    rw [read_bare n sp h1 h2] at hr
    injection hr with hr
    subst hr
    have e1 : (outT (bareC n sp)).sup = ⟨sp.toArray⟩ := by kernel_rfl
    have e2 : (outT (bareC n sp)).name = ⟨n.toArray⟩ := by kernel_rfl
    have e3 : (outT (bareC n sp)).ifs = [] := by kernel_rfl
    rw [e1, e2, e3]
    refine ⟨?_, ?_, by simp, by simp⟩
    · show sp.toArray.size ≤ 65536
      rw [List.size_toArray]
      omega
    · show n.toArray.size ≤ 65536
      rw [List.size_toArray]
      omega
end Go.Proofs.YtdbniocnjhfhdaaGreatDoor
/-
  The loader at bare classes, each above the next, in plain Lean.
-/
set_option linter.unusedSimpArgs false
set_option linter.unusedVariables false
set_option maxRecDepth 100000
namespace Go.Proofs.YtdbniocnjhfhdaaGreatDoor
open Go Go.RowKit Lib
theorem outT_bare (n s : List UInt8) : (outT (bareC n s)).name = ⟨n.toArray⟩ ∧ (outT (bareC n s)).sup = ⟨s.toArray⟩ ∧ (outT (bareC n s)).acc = 33 ∧ (outT (bareC n s)).ifs = [] := ⟨by kernel_rfl, by kernel_rfl, rfl, by kernel_rfl⟩
theorem rdD_bare {defs : List UInt8 → Option (List UInt8)} {s sp : ByteArray} (hd : defs s.data.toList = some (bareL s.data.toList sp.data.toList)) (h1 : classB s.data.toList = true) (h2 : classB sp.data.toList = true) (l1 : s.size ≤ 1000) (l2 : sp.size ≤ 1000) :
    rdD checkB defs s = .ok (bareC s.data.toList sp.data.toList, outT (bareC s.data.toList sp.data.toList)) := by
  have e := (outT_bare s.data.toList sp.data.toList).1
  unfold rdD
  rw [hd]
  simp only
  unfold readQ
  rw [read_bare _ _ (by simpa using l1) (by simpa using l2)]
  simp only
  rw [checkB_bare _ _ h1 h2, if_neg (by decide), if_neg (by simp), if_pos]
  rw [e]
theorem rdD_none {defs : List UInt8 → Option (List UInt8)} {s : ByteArray} (hd : defs s.data.toList = none) : rdD checkB defs s = .error noDefB := by
  unfold rdD
  rw [hd]
theorem load_step {rd : ByteArray → Except ByteArray (ClassV × TypV)} {n : Nat} {going : List (List UInt8)} {σ : LT} {s : ByteArray} {c : ClassV} {t : TypV} (h1 : s.data.toList ∉ σ.names) (h2 : s.data.toList ∉ going) (h3 : rd s = .ok (c, t)) (h4 : t.ifs = []) :
    loadP rd (n + 1) going σ s = match aboveW (loadP rd n (going ++ [s.data.toList])) σ s t.sup false with
      | (some e, σ1) => (some e, σ1)
      | (none, σ1) => (none, lastW s c t σ1) := by
  rw [loadP, if_neg h1, if_neg h2, h3]
  simp only [h4, facesW]
  rcases aboveW (loadP rd n (going ++ [s.data.toList])) σ s t.sup false with ⟨_ | e, σ1⟩ <;> rfl
theorem load_known {rd : ByteArray → Except ByteArray (ClassV × TypV)} {n : Nat} {going : List (List UInt8)} {σ : LT} {s : ByteArray} (h1 : s.data.toList ∈ σ.names) : loadP rd (n + 1) going σ s = (none, σ) := by rw [loadP, if_pos h1]
theorem load_circ {rd : ByteArray → Except ByteArray (ClassV × TypV)} {n : Nat} {going : List (List UInt8)} {σ : LT} {s : ByteArray} (h1 : s.data.toList ∉ σ.names) (h2 : s.data.toList ∈ going) : loadP rd (n + 1) going σ s = (some circB, σ) := by rw [loadP, if_neg h1, if_pos h2]
theorem load_bad {rd : ByteArray → Except ByteArray (ClassV × TypV)} {n : Nat} {going : List (List UInt8)} {σ : LT} {s e : ByteArray} (h1 : s.data.toList ∉ σ.names) (h2 : s.data.toList ∉ going) (h3 : rd s = .error e) : loadP rd (n + 1) going σ s = (some e, σ) := by rw [loadP, if_neg h1, if_neg h2, h3]
/-- A row of classes, each above the next, the last one's super z. -/
def Path (rd : ByteArray → Except ByteArray (ClassV × TypV)) : List ByteArray → ByteArray → Prop
  | [], _ => True
  | x :: r, z => (∃ c t, rd x = .ok (c, t) ∧ t.name = x ∧ t.sup = r.headD z ∧ t.ifs = [] ∧ t.acc = 33) ∧ Path rd r z
def dl (s : ByteArray) : List UInt8 := s.data.toList
theorem path_err {rd : ByteArray → Except ByteArray (ClassV × TypV)} {σ : LT} {z e : ByteArray} : ∀ (p : List ByteArray) (going : List (List UInt8)) (f : Nat), Path rd p z → (∀ x ∈ p, dl x ∉ σ.names) → (∀ x ∈ p, dl x ∉ going) → (p.map dl).Nodup →
    loadP rd f (going ++ p.map dl) σ z = (some e, σ) → loadP rd (p.length + f) going σ (p.headD z) = (some e, σ)
  | [], going, f, _, _, _, _, h => by simpa using h
  | x :: r, going, f, ⟨⟨c, t, h1, h2, h3, h4, h5⟩, hp⟩, hn, hg, hd, h => by
    rw [List.map_cons] at hd
    have hd' := List.nodup_cons.1 hd
    have ih := path_err r (going ++ [dl x]) f hp (fun y hy => hn y (by simp [hy])) (fun y hy => by
      rw [List.mem_append]
      rintro (h' | h')
      · exact hg y (by simp [hy]) h'
      · rw [List.mem_singleton] at h'
        exact hd'.1 (h' ▸ List.mem_map_of_mem hy)) hd'.2 (by simpa using h)
    have e1 : (x :: r).length + f = (r.length + f) + 1 := by simp; omega
    rw [e1]
    show loadP rd (r.length + f + 1) going σ x = _
    rw [load_step (hn x (by simp)) (hg x (by simp)) h1 h4]
    unfold aboveW
    rw [h3]
    unfold dl at ih
    rw [ih]
/-- A class that every class sees, no interface. -/
def Good (ts : List TyK) (z : ByteArray) : Prop := (∀ f, seesB ts f z = true) ∧ faceB ts z = false
theorem and33_1 : bits .and .i64 33 1 = 1 := by kernel_rfl
theorem and33_512 : bits .and .i64 33 512 = 0 := by kernel_rfl
theorem good_at {ts : List TyK} {z : ByteArray} {k : Nat} {y : List UInt8} (hk : ts[k]? = some (dl z, y, 33)) (hf : ∀ j, j < k → ∀ x, (ts.map (·.1))[j]? = some x → x ≠ dl z) : Good ts z := by
  have e0 : z.toList = dl z := ByteArray.toList_eq _
  have e1 : atOf (ts.map (·.1)) z.toList = k := by
    rw [e0]
    exact atOf_hit (by rw [List.getElem?_map, hk]; rfl) hf
  have e2 : accAt ts z = 33 := by
    unfold accAt
    rw [e1]
    simp [hk]
  constructor
  · intro f
    unfold seesB
    rw [e1, if_neg (by omega), e2, and33_1, if_pos rfl]
  · unfold faceB
    rw [e2, and33_512]
    rfl
theorem path_ok {rd : ByteArray → Except ByteArray (ClassV × TypV)} {z : ByteArray} {σ : LT} : ∀ (p : List ByteArray) (going : List (List UInt8)) (f : Nat), Path rd p z → (∀ x ∈ p, dl x ∉ σ.names) → (∀ x ∈ p, dl x ∉ going) → (p.map dl).Nodup →
    loadP rd f (going ++ p.map dl) σ z = (none, σ) → Good σ.ts z → ∃ σ', loadP rd (p.length + f) going σ (p.headD z) = (none, σ') ∧ σ'.names = σ.names ++ (p.map dl).reverse ∧ σ'.ts.length = σ.ts.length + p.length ∧ Good σ'.ts (p.headD z)
  | [], going, f, _, _, _, _, h, hz => ⟨σ, by simpa using h, by simp, by simp, hz⟩
  | x :: r, going, f, ⟨⟨c, t, h1, h2, h3, h4, h5⟩, hp⟩, hn, hg, hd, h, hz => by
    rw [List.map_cons] at hd
    have hd' := List.nodup_cons.1 hd
    obtain ⟨σ1, ih, g1, g2, g3⟩ := path_ok r (going ++ [dl x]) f hp (fun y hy => hn y (by simp [hy])) (fun y hy => by
      rw [List.mem_append]
      rintro (h' | h')
      · exact hg y (by simp [hy]) h'
      · rw [List.mem_singleton] at h'
        exact hd'.1 (h' ▸ List.mem_map_of_mem hy)) hd'.2 (by simpa using h) hz
    have e1 : (x :: r).length + f = (r.length + f) + 1 := by simp; omega
    rw [e1]
    show ∃ σ', loadP rd (r.length + f + 1) going σ x = _ ∧ _
    rw [load_step (hn x (by simp)) (hg x (by simp)) h1 h4]
    unfold aboveW
    rw [h3]
    unfold dl at ih
    rw [ih]
    simp only
    rw [g3.1 x, if_neg (by decide), g3.2, if_neg (by simp)]
    refine ⟨_, rfl, ?_, ?_, ?_⟩
    · show (σ1.ts ++ [t.key]).map (·.1) = _
      have g1' : σ1.ts.map (·.1) = σ.names ++ (r.map dl).reverse := g1
      rw [List.map_append, g1']
      simp [TypV.key, h2, dl]
    · show (σ1.ts ++ [t.key]).length = _
      simp [g2]
      omega
    · refine good_at (k := σ1.ts.length) (y := t.sup.data.toList) ?_ ?_
      · show (σ1.ts ++ [t.key])[σ1.ts.length]? = _
        rw [List.getElem?_append_right (Nat.le_refl _)]
        simp [TypV.key, h2, h5, dl]
      · intro j hj y hy e
        have hy' : (σ1.ts.map (·.1))[j]? = some y := by
          have : ((σ1.ts ++ [t.key]).map (·.1))[j]? = some y := hy
          rwa [List.map_append, List.getElem?_append_left (by simpa using hj)] at this
        have hm : y ∈ σ1.names := List.mem_of_getElem? hy'
        rw [g1, e, List.mem_append] at hm
        rcases hm with hm | hm
        · exact hn x (by simp) hm
        · exact hd'.1 (by simpa using hm)
theorem path_of {rd : ByteArray → Except ByteArray (ClassV × TypV)} {z : ByteArray} : ∀ (p : List ByteArray), (∀ j x, p[j]? = some x → ∃ c t, rd x = .ok (c, t) ∧ t.name = x ∧ t.sup = (p[j + 1]?).getD z ∧ t.ifs = [] ∧ t.acc = 33) → Path rd p z
  | [], _ => trivial
  | x :: r, h => by
    refine ⟨?_, path_of r fun j y hy => by
      obtain ⟨c, t, q⟩ := h (j + 1) y (by simpa using hy)
      exact ⟨c, t, by simpa using q⟩⟩
    obtain ⟨c, t, q1, q2, q3, q4⟩ := h 0 x rfl
    refine ⟨c, t, q1, q2, ?_, q4⟩
    rw [q3]
    cases r <;> rfl
def objB : ByteArray := ⟨#[106, 97, 118, 97, 47, 108, 97, 110, 103, 47, 79, 98, 106, 101, 99, 116]⟩
theorem core_heads : ∀ k ∈ coreKeys, k.1.headD 0 = 106 ∨ k.1.headD 0 = 118 := by decide
theorem core_obj : coreKeys[0]? = some (dl objB, [], 33) := by decide
theorem good_obj (r : List TyK) : Good (coreKeys ++ r) objB := by
  refine good_at (k := 0) (y := []) ?_ (fun j hj => absurd hj (Nat.not_lt_zero _))
  rw [List.getElem?_append_left (by decide)]
  exact core_obj
theorem obj_known (r : List TyK) : dl objB ∈ ((coreKeys ++ r).map (·.1)) := by
  rw [List.map_append, List.mem_append]
  exact .inl (by decide)
theorem not_core {x : List UInt8} (h : x.headD 0 ≠ 106 ∧ x.headD 0 ≠ 118) : x ∉ coreKeys.map (·.1) := by
  intro hm
  obtain ⟨k, hk, rfl⟩ := List.mem_map.1 hm
  rcases core_heads k hk with e | e
  · exact h.1 e
  · exact h.2 e
end Go.Proofs.YtdbniocnjhfhdaaGreatDoor
/-
  The law's alive: true, whatever the world.
-/
set_option linter.unusedSimpArgs false
set_option linter.unusedVariables false
set_option maxRecDepth 100000
set_option maxHeartbeats 1000000
namespace Go.Proofs.YtdbniocnjhfhdaaGreatDoor
open Go Go.RowKit Lib
def aDefs : List UInt8 → Option (List UInt8) := putL (putL (fun _ => none) [65] (bareL [65] [66])) [66] (bareL [66] [106, 97, 118, 97, 47, 108, 97, 110, 103, 47, 79, 98, 106, 101, 99, 116])
def aCore : LT := ⟨coreKeys, fun _ => none⟩
def aLoad : Option ByteArray × LT := loadP (rdD checkB aDefs) 65 [] aCore ⟨#[65]⟩
theorem aLoad_ok : aLoad.1 = none ∧ aLoad.2.ts.length = 28 ∧ (loadP (rdD checkB aDefs) 65 [] aLoad.2 ⟨#[88]⟩).1 = some noDefB := by decide +kernel
theorem aLdK : LdK checkB aDefs [[65], [66]] := by
  refine ldK_bare aDefs _ (fun s l hs => ?_) (by decide) (fun s l hs => ?_)
  · unfold aDefs putL at hs
    split at hs
    · simp [*]
    · split at hs
      · simp [*]
      · cases hs
  · unfold aDefs putL at hs
    split at hs
    · injection hs with hs
      exact ⟨_, _, hs.symm, by decide, by decide⟩
    · split at hs
      · injection hs with hs
        exact ⟨_, _, hs.symm, by decide, by decide⟩
      · cases hs
theorem num_any (x : Int) (w : World) : Calls Tryz.prog 19 #[.int .i64 x] w fun e w' => e = .returned (.int .i64 x) ∧ w = w' := by
  go_enter Tryz.func19, Tryz.ntmps19
  go_wp2_with fail
  go_ret
  exact ⟨rfl, rfl⟩
abbrev GlB (w : World) : Prop := w.cell? ⟨0, 0, none⟩ = some (.iface 132 (.agg #[.pointer (some ⟨2, 69, none⟩)]))
theorem glB_pos {w : World} (h : GlB w) : 0 < w.heap.size := by
  rcases Nat.eq_zero_or_pos w.heap.size with h0 | h0
  · exfalso
    have : w.heap[0]? = none := by simp [h0]
    unfold GlB World.cell? at h
    simp [this] at h
  · exact h0
theorem GlB.below {B : Nat} {w w' : World} (h : GlB w) (hb : Below B w w') (hB : 0 < B) : GlB w' := (hb.cell (p := ⟨0, 0, none⟩) hB).trans h
theorem LdG.low {B : Nat} {L : LPos} {nd : Nat} {defs : List UInt8 → Option (List UInt8)} {files : List UInt8 → Option ClassV} {ks going : List (List UInt8)} {ts : List TyV} {v : Value} {W w' : World} (h : LdG B L nd defs files ks going ts v W) (hb : But W.heap.size [L.bd] W w') : Below B W w' := by
  have ho := h.ord
  have hl := h.lt
  exact (hb.mono (S' := []) (B' := B) (by omega) (fun k hk hm => by simp at hm; omega)).below
theorem alive_all (w : World) (hgl : GlB w) : Calls Tryz.prog 10 #[] w fun e w' => e = .returned (.bool true) ∧ Below w.heap.size w w' := by
  have hB := glB_pos hgl
  have HGL := Lib.hid hgl
  clear hgl
  go_enter Tryz.func10, Tryz.ntmps10
  go_wp2_with (go_at_call 12; refine stop_here ?_)
  refine go_on ?_
  refine (new_all w).mono ?_
  rintro e w1 ⟨L, v, ts, rfl, hk, h1, hb1⟩
  have H1 := Lib.hid h1
  have HK := Lib.hid hk
  have B1 := Lib.hid hb1
  clear h1 hk hb1
  go_wp2_with (go_at_call 18; refine stop_here ?_)
  refine go_on ?_
  refine (lbytes_any ⟨#[65]⟩ ⟨#[66]⟩ (by decide) (by decide) w1).mono ?_
  rintro e w2 ⟨g2, k2, rfl, ho2, hb2⟩
  have H2 := Lib.hid (H1.out.below hb2)
  have R2 := Lib.hid (rdB_own ho2)
  have B2 := Lib.hid (B1.out.trans (hb2.mono B1.out.size))
  clear ho2 hb2 H1
  go_wp2_with (go_at_call 15; refine stop_here ?_)
  refine go_on ?_
  refine (defineG H2.out ⟨#[65]⟩ _ _ _ _ (by decide) R2.out (by decide +kernel) (by decide +kernel) (by decide) rfl (by omega)).mono ?_
  rintro e w3 ⟨rfl, h3, hb3⟩
  have H3 := Lib.hid h3
  have B3 := Lib.hid (B2.out.trans (H2.out.low hb3))
  clear h3 hb3 H2 R2
  go_wp2_with (go_at_call 18; refine stop_here ?_)
  refine go_on ?_
  refine (lbytes_any ⟨#[66]⟩ ⟨#[106, 97, 118, 97, 47, 108, 97, 110, 103, 47, 79, 98, 106, 101, 99, 116]⟩ (by decide) (by decide) w3).mono ?_
  rintro e w4 ⟨g4, k4, rfl, ho4, hb4⟩
  have H4 := Lib.hid (H3.out.below hb4)
  have R4 := Lib.hid (rdB_own ho4)
  have B4 := Lib.hid (B3.out.trans (hb4.mono B3.out.size))
  clear ho4 hb4 H3
  go_wp2_with (go_at_call 15; refine stop_here ?_)
  refine go_on ?_
  refine (defineG H4.out ⟨#[66]⟩ _ _ _ _ (by decide) R4.out (by decide +kernel) (by decide +kernel) (by decide) (by decide) (by omega)).mono ?_
  rintro e w5 ⟨rfl, h5, hb5⟩
  have H5 := Lib.hid (show LdG w.heap.size L 2 aDefs (fun _ => none) (ts.map TyV.name) [] ts v w5 from h5)
  have B5 := Lib.hid (B4.out.trans (H4.out.low hb5))
  have G5 := Lib.hid (HGL.out.below B5.out hB)
  clear h5 hb5 H4 R4
  go_wp2_with (first
    | (go_at_call 19; refine (num_any _ _).mono ?_; rintro e w' ⟨rfl, rfl⟩)
    | (go_at_call 13; refine stop_here ?_))
  refine go_on ?_
  have C6 := Lib.hid (loadTop_any checkB aDefs _ aLdK w.heap.size L 2 _ ts v w5 ⟨#[65]⟩ H5.out (ksOk_core HK.out) (by decide) hB G5.out)
  have e6 : loadP (rdD checkB aDefs) 65 [] ⟨ts.map TyV.key, fun _ => none⟩ ⟨#[65]⟩ = aLoad := by rw [HK.out]; rfl
  rw [e6] at C6
  refine C6.out.mono ?_
  rintro e w6 ⟨rfl, X6, ts6, v6, hk6, h6, hks6, hb6, _⟩
  have hl6 : ts6.length = 28 := by
    have := congrArg List.length hk6
    rw [List.length_map, aLoad_ok.2.1] at this
    exact this
  have H6 := Lib.hid h6
  have HK6 := Lib.hid hk6
  have KS6 := Lib.hid hks6
  have B6 := Lib.hid (B5.out.trans hb6)
  have G6 := Lib.hid (HGL.out.below B6.out hB)
  clear h6 hk6 hks6 hb6 C6 e6 H5 G5
  rw [aLoad_ok.1]
  unfold strOf
  go_wp2_with (go_at_call 14; refine stop_here ?_)
  refine go_on ?_
  refine (ltypes_any H6.out (by omega) (by omega)).mono ?_
  rintro e w7 ⟨ov, ts7, rfl, ho7, _, hb7⟩
  rw [hl6] at ho7
  obtain ⟨A7, k7, rfl, _⟩ := sl_len (slAt_own ho7 (fun _ => True) (by omega) (by omega) (fun _ _ => trivial))
  have H7 := Lib.hid (H6.out.below hb7)
  have B7 := Lib.hid (B6.out.trans (hb7.mono B6.out.size))
  have G7 := Lib.hid (HGL.out.below B7.out hB)
  clear ho7 hb7 H6 G6
  go_wp2_with (go_at_call 13; refine stop_here ?_)
  refine go_on ?_
  have C8 := Lib.hid (loadTop_any checkB aDefs _ aLdK w.heap.size _ 2 _ ts6 v6 w7 ⟨#[88]⟩ H7.out KS6.out (by decide) hB G7.out)
  rw [HK6.out] at C8
  refine C8.out.mono ?_
  rintro e w8 ⟨rfl, X8, ts8, v8, _, _, _, hb8, _⟩
  have B8 := Lib.hid (B7.out.trans hb8)
  clear hb8 C8
  rw [show loadP (rdD checkB aDefs) 65 [] ⟨aLoad.2.ts, aLoad.2.files⟩ ⟨#[88]⟩ = loadP (rdD checkB aDefs) 65 [] aLoad.2 ⟨#[88]⟩ from rfl, aLoad_ok.2.2]
  have e8 : strOf (some noDefB) = ⟨#[106, 97, 118, 97, 47, 108, 97, 110, 103, 47, 78, 111, 67, 108, 97, 115, 115, 68, 101, 102, 70, 111, 117, 110, 100, 69, 114, 114, 111, 114]⟩ := by decide
  rw [e8]
  go_wp2_with fail
  go_ret
  exact ⟨rfl, B8.out⟩
end Go.Proofs.YtdbniocnjhfhdaaGreatDoor
/-
  What the row's listed variable gives a walk: the cell of errors' variable; a world that meets it.
-/
set_option linter.unusedSimpArgs false
set_option linter.unusedVariables false
set_option maxRecDepth 100000
namespace Go.Proofs.YtdbniocnjhfhdaaGreatDoor
open Go.ChangeShapes Go.WideShapes Go.RowKit
theorem l_own : ownKnob Tryz.prog.godebug = none := by kernel_rfl
theorem l_et : Tryz.prog.globalNamed "errors.errorType" = some 0 := by kernel_rfl
theorem l_rt : (Tryz.prog.cutTypes.find? (·.1 == "internal/reflectlite.rtype")).map (·.2) = some 132 := by kernel_rfl
theorem l_size : ∃ n, Tryz.prog.types.size = n ∧ ((List.range n).filter fun t => Tryz.prog.rowNamed t [101, 114, 114, 111, 114]) = [69] := ⟨_, rfl, by kernel_rfl⟩
theorem gl_of_laid {W : World} (h : laidMetH Tryz.prog [("errors.errorType", Rows.laid_errors_errorType)] W) : GlB W := by
  have h' : laidMet Tryz.prog [] W ∧ handlesMet Tryz.prog [("errors.errorType", Rows.laid_errors_errorType)] W := h
  obtain ⟨name, u, ty, e1, e2, e3, e4, e5⟩ := h'.2 _ (List.mem_singleton.2 rfl)
  have en : name = [101, 114, 114, 111, 114] := (Option.some.inj e1).symm
  subst en
  obtain rfl := Option.some.inj (l_rt.symm.trans e2)
  obtain ⟨n, hn, hone⟩ := l_size
  have hm : ty ∈ (List.range n).filter fun t => Tryz.prog.rowNamed t [101, 114, 114, 111, 114] := List.mem_filter.2 ⟨List.mem_range.2 (by rw [← hn]; exact e3), e4⟩
  rw [hone] at hm
  obtain rfl := List.mem_singleton.1 hm
  have hh : typeHandle Tryz.prog 69 = .pointer (some ⟨2, 69, none⟩) := by kernel_rfl
  rw [hh] at e5
  simpa using World.var?_cell l_et e5 0
/-- A world that meets the condition: the settled one, the variable's cell laid. -/
noncomputable def laidWorld (os : Os) : World :=
  let w0 := World.holding Tryz.prog os ⟨#[], #[], []⟩
  { w0 with heap := w0.heap.modify 0 fun
      | .cells _ t frozen => .cells #[.iface 132 (.agg #[.pointer (some ⟨2, 69, none⟩)])] t frozen
      | o => o }
theorem laidWorld_met (os : Os) (args : Array Value) : laidMetH Tryz.prog [("errors.errorType", Rows.laid_errors_errorType)] ((laidWorld os).forCall (fun _ _ => 0) ⟨#[], args, []⟩).memory :=
  laidMetH_of_parts (laidMet_nil _ _) (by kernel_rfl)
end Go.Proofs.YtdbniocnjhfhdaaGreatDoor
