/-
  What the loader's laws rest on, part 4: walks of the program's functions and plain laws. Conditions: none but those that each theorem names.
-/
import Derived.Test.YtdbniocnjhfhdaaGreatDoorB03
import Derived.Test.YtdbniocnjhfhdaaGreatDoorB02
import Derived.Test.YtdbniocnjhfhdaaGreatDoorB00
import Derived.Laws.BitsAllLaws
/-
  load.New: a new loader.
-/
set_option linter.unusedSimpArgs false
set_option linter.unusedVariables false
set_option maxRecDepth 100000
set_option maxHeartbeats 1000000
namespace Go.Proofs.YtdbniocnjhfhdaaGreatDoor
open Go Go.RowKit Lib Go.Maps
/-- A loader, made since the world w: its five fields. -/
structure LdS (w W : World) (lb bd bf bk bg : Nat) (nd nf nk ng : Nat) (sd sf sk sg : Nat) (fd ff fk fg : List UInt8 → Option Value) (v : Value) (ts : List TyV) : Prop where
  c0 : W.cell? ⟨lb, 0, none⟩ = some (.map (some bd))
  c1 : W.cell? ⟨lb, 1, none⟩ = some (.map (some bf))
  c2 : W.cell? ⟨lb, 2, none⟩ = some (.map (some bk))
  c3 : W.cell? ⟨lb, 3, none⟩ = some (.map (some bg))
  c4 : W.cell? ⟨lb, 4, none⟩ = some v
  fz : ∀ o, W.frozen? ⟨lb, o, none⟩ = false
  hd : MapS W Tryz.prog 9 bd nd fd sd
  hf : MapS W Tryz.prog 9 bf nf ff sf
  hk : MapS W Tryz.prog 9 bk nk fk sk
  hg : MapS W Tryz.prog 9 bg ng fg sg
  ty : TyRow w W v ts
  ord : w.heap.size ≤ bd ∧ bd < bf ∧ bf < bk ∧ bk < bg ∧ bg < lb
  new : ∀ g, v.ownBlock = some g → bg < g ∧ g ≠ lb
  lt : lb < W.heap.size
  rlb : ∀ t ∈ ts, t.reads W lb
def inNames (ks : List (List UInt8)) (s : List UInt8) : Option Value := if s ∈ ks then some (.int .i64 1) else none
theorem inNames_snoc (ks : List (List UInt8)) (k : List UInt8) : putF (inNames ks) k (.int .i64 1) = inNames (ks ++ [k]) := by
  funext s
  unfold putF inNames
  by_cases h : s = k
  · simp [h]
  · simp [h]
theorem tyCells_at : ∀ (ts : List TyV) (j : Nat) (t : TyV), ts[j]? = some t → ∀ q, q < 6 → (tyCells ts)[j * 6 + q]? = t.cells[q]?
  | [], j, t, h, q, hq => by simp at h
  | y :: ts, 0, t, h, q, hq => by
    simp at h
    subst h
    show (y.cells ++ tyCells ts)[0 * 6 + q]? = _
    rw [List.getElem?_append_left (by simp [TyV.cells]; omega)]
    congr 1
    omega
  | y :: ts, j + 1, t, h, q, hq => by
    show (y.cells ++ tyCells ts)[(j + 1) * 6 + q]? = _
    rw [List.getElem?_append_right (by simp [TyV.cells]; omega), show (j + 1) * 6 + q - y.cells.length = j * 6 + q by simp [TyV.cells]; omega]
    exact tyCells_at ts j t (by simpa using h) q hq
theorem MapS.no_cell {w : World} {P : Program} {k : TypeId} {b n sz : Nat} {f : List UInt8 → Option Value} (h : MapS w P k b n f sz) (o : Nat) : w.cell? ⟨b, o, none⟩ = none := by
  obtain ⟨D, ⟨es, clock, h1, _⟩, _⟩ := h
  simp [World.cell?, h1]
theorem RdC.turned {w w' : World} {P : Program} {k : TypeId} {b n sz g size : Nat} {f : List UInt8 → Option Value} {v : Value} (h : RdC w g size v) (hM : MapS w P k b n f sz) (hg : w.grownBy w' (some b)) : RdC w' g size v := by
  obtain ⟨A, m, cap, rfl, h1, h2, h3⟩ := h
  refine ⟨A, m, cap, rfl, h1, h2, fun h0 => ?_⟩
  obtain ⟨b', off, e, hlt, hne, news, hl, ho, hc⟩ := h3 h0
  refine ⟨b', off, e, Nat.lt_of_lt_of_le hlt hg.size, hne, news, hl, ho, fun j u hu => ?_⟩
  have h4 := hc j u hu
  have hb : b' ≠ b := fun e => by
    subst e
    rw [hM.no_cell] at h4
    cases h4
  rw [World.cell?_of_block (w := w) (hg.block b' hlt (fun e => hb (by injection e)))]
  exact h4
theorem TyRow.turned {w0 w w' : World} {P : Program} {k : TypeId} {b n sz : Nat} {f : List UInt8 → Option Value} {v : Value} {ts : List TyV} (h : TyRow w0 w v ts) (hM : MapS w P k b n f sz) (hg : w.grownBy w' (some b)) (hb : w0.heap.size ≤ b) (hv : ∀ g, v.ownBlock = some g → g ≠ b) : TyRow w0 w' v ts where
  own := own_heap h.own fun q hq => hg.block q (h.own.lt q hq).2 (fun e => hv q hq (by injection e))
  reads := fun g hg' t ht => ⟨(h.reads g hg' t ht).1.turned hM hg, (h.reads g hg' t ht).2.1.turned hM hg, (h.reads g hg' t ht).2.2.turned hM hg⟩
  below := h.below.grown hg h.below.size (fun k hk => by injection hk with hk; omega)
theorem own_low {w : World} {base base' : Nat} {e : TypeId} {size n : Nat} {v : Value} {xs : List Value} (h : w.ownsRow base e size v n xs) (hb : base' ≤ base) : w.ownsRow base' e size v n xs := by
  rcases h.2 with h0 | ⟨g, cap, cur, rfl, h1, r⟩
  · exact ⟨h.1, .inl h0⟩
  · exact ⟨h.1, .inr ⟨g, cap, cur, rfl, Nat.le_trans hb h1, r⟩⟩
theorem TyRow.low {w0 w1 w : World} {v : Value} {ts : List TyV} (h : TyRow w1 w v ts) (hb : Below w0.heap.size w0 w1) : TyRow w0 w v ts := ⟨own_low h.own hb.size, h.reads, hb.trans (h.below.mono hb.size)⟩
section
variable {w W W' : World} {lb bd bf bk bg nd nf nk ng sd sf sk sg : Nat} {fd ff fk fg : List UInt8 → Option Value} {v : Value} {ts : List TyV}
theorem LdS.below (h : LdS w W lb bd bf bk bg nd nf nk ng sd sf sk sg fd ff fk fg v ts) (hb : Below W.heap.size W W') : LdS w W' lb bd bf bk bg nd nf nk ng sd sf sk sg fd ff fk fg v ts where
  c0 := (hb.cell (p := ⟨lb, 0, none⟩) h.lt).trans h.c0
  c1 := (hb.cell (p := ⟨lb, 1, none⟩) h.lt).trans h.c1
  c2 := (hb.cell (p := ⟨lb, 2, none⟩) h.lt).trans h.c2
  c3 := (hb.cell (p := ⟨lb, 3, none⟩) h.lt).trans h.c3
  c4 := (hb.cell (p := ⟨lb, 4, none⟩) h.lt).trans h.c4
  fz := fun o => (hb.frozen (p := ⟨lb, o, none⟩) h.lt).trans (h.fz o)
  hd := h.hd.keep (hb.block _ h.hd.lt)
  hf := h.hf.keep (hb.block _ h.hf.lt)
  hk := h.hk.keep (hb.block _ h.hk.lt)
  hg := h.hg.keep (hb.block _ h.hg.lt)
  ty := h.ty.keep hb
  ord := h.ord
  new := h.new
  lt := Nat.lt_of_lt_of_le h.lt hb.size
  rlb := fun t ht => (h.rlb t ht).keep (fun k hk _ => hb.block k hk) hb.size (.inl rfl)
theorem LdS.putk (h : LdS w W lb bd bf bk bg nd nf nk ng sd sf sk sg fd ff fk fg v ts) {n' s' : Nat} {f' : List UInt8 → Option Value} (hM : MapS W' Tryz.prog 9 bk n' f' s') (hg : W.grownBy W' (some bk)) :
    LdS w W' lb bd bf bk bg nd nf n' ng sd sf s' sg fd ff f' fg v ts := by
  have ho := h.ord
  have hb : ∀ k, k < W.heap.size → k ≠ bk → W'.heap[k]? = W.heap[k]? := fun k hk hne => hg.block k hk (fun e => hne (by injection e))
  have hl : lb ≠ bk := by omega
  have hc : ∀ o, W'.cell? ⟨lb, o, none⟩ = W.cell? ⟨lb, o, none⟩ := fun o => World.cell?_of_block (hb lb h.lt hl)
  exact ⟨(hc 0).trans h.c0, (hc 1).trans h.c1, (hc 2).trans h.c2, (hc 3).trans h.c3, (hc 4).trans h.c4, fun o => (World.frozen?_of_block (hb lb h.lt hl)).trans (h.fz o),
    h.hd.keep (hb _ h.hd.lt (by omega)), h.hf.keep (hb _ h.hf.lt (by omega)), hM, h.hg.keep (hb _ h.hg.lt (by omega)), h.ty.turned h.hk hg (by omega) (fun g hv => by have := h.new g hv; omega), h.ord, h.new, Nat.lt_of_lt_of_le h.lt hg.size, fun t ht => ⟨(h.rlb t ht).1.turned h.hk hg, (h.rlb t ht).2.1.turned h.hk hg, (h.rlb t ht).2.2.turned h.hk hg⟩⟩
end
theorem mapS_made_at (w : World) (P : Program) (k : TypeId) (b : Nat) (hb : b = w.heap.size) : MapS (w.alloc (.map #[] 0)) P k b 0 (fun _ => none) 0 := by
  subst hb
  exact mapS_made w P k
theorem core_names_short : ∀ k ∈ coreKeys, k.1.length ≤ 1000 := by decide
theorem new_any (w : World) : Calls Tryz.prog 12 #[] w fun e w' => ∃ lb bd bf bk bg nk sk v ts, e = .returned (.pointer (some ⟨lb, 0, none⟩)) ∧ ts.map TyV.key = coreKeys ∧
    LdS w w' lb bd bf bk bg 0 0 nk 0 0 0 sk 0 (fun _ => none) (fun _ => none) (inNames (ts.map TyV.name)) (fun _ => none) v ts ∧ nk ≤ 26 ∧ Below w.heap.size w w' := by
  have hmm := @run_makeMap Tryz.prog
  go_enter Tryz.func12, Tryz.ntmps12
  go_wp2_with (go_at_call 25; refine (types_any _).mono ?_; rintro e w1 ⟨g, cap, ts, rfl, hk, ht⟩; refine stop_here ?_)
  have HY := Lib.hid ht
  have hgr := (ht.own.lt g rfl)
  have hzt := ht.below.size
  simp only [World.size_alloc] at hgr hzt
  have HK := Lib.hid hk
  clear hk ht
  refine go_on ?_
  go_wp2_with fail
  have L0 : LdS w (w1.alloc (.cells #[.map (some w.heap.size), .map (some (w.heap.size + 1)), .map (some (w.heap.size + 1 + 1)), .map (some (w.heap.size + 1 + 1 + 1)), .slice (some ⟨g, 0, none⟩) 26 cap] 65)) w1.heap.size w.heap.size (w.heap.size + 1) (w.heap.size + 1 + 1) (w.heap.size + 1 + 1 + 1)
      0 0 0 0 0 0 0 0 (fun _ => none) (fun _ => none) (inNames []) (fun _ => none) (.slice (some ⟨g, 0, none⟩) 26 cap) ts := by
    have hb := HY.out.below
    have e0 : inNames [] = fun _ => none := by funext s; simp [inNames]
    rw [e0]
    refine ⟨by simp [go_sem], by simp [go_sem], by simp [go_sem], by simp [go_sem], by simp [go_sem], fun o => by simp [go_sem], ?_, ?_, ?_, ?_, ?_, by omega, fun g' hg' => ?_, by simp, fun t ht => (HY.out.reads g rfl t ht).keep (fun k hk _ => ((Below.refl _ _).alloc (Nat.le_refl _) _).block k hk) (by simp) (.inr (Nat.le_refl _))⟩
    · refine (mapS_made w Tryz.prog 9).keep ?_
      rw [Below.heap_alloc _ _ _ (by omega), hb.block _ (by simp; omega), Below.heap_alloc _ _ _ (by simp; omega), Below.heap_alloc _ _ _ (by simp; omega), Below.heap_alloc _ _ _ (by simp)]
    · refine (mapS_made_at (w.alloc (.map #[] 0)) Tryz.prog 9 _ (by simp)).keep ?_
      rw [Below.heap_alloc _ _ _ (by omega), hb.block _ (by simp; try omega), Below.heap_alloc _ _ _ (by simp; try omega), Below.heap_alloc _ _ _ (by simp)]
    · refine (mapS_made_at ((w.alloc (.map #[] 0)).alloc (.map #[] 0)) Tryz.prog 9 _ (by simp)).keep ?_
      rw [Below.heap_alloc _ _ _ (by omega), hb.block _ (by simp; try omega), Below.heap_alloc _ _ _ (by simp)]
    · refine (mapS_made_at (((w.alloc (.map #[] 0)).alloc (.map #[] 0)).alloc (.map #[] 0)) Tryz.prog 9 _ (by simp)).keep ?_
      rw [Below.heap_alloc _ _ _ (by omega), hb.block _ (by simp)]
    · exact (HY.out.low (((((Below.refl _ _).alloc (Nat.le_refl _) _).alloc (by simp) _).alloc (by simp; omega) _).alloc (by simp; omega) _)).keep ((Below.refl _ _).alloc (Nat.le_refl _) _)
    · have e : g = g' := by simpa [Value.ownBlock] using hg'
      subst e
      omega
  have HL0 := Lib.hid L0
  clear L0
  go_loopw [3, 16] (fun _ i wr => ∃ j sk : Nat, i = .int .i64 j ∧ j ≤ 26 ∧ Hid (LdS w wr w1.heap.size w.heap.size (w.heap.size + 1) (w.heap.size + 1 + 1) (w.heap.size + 1 + 1 + 1) 0 0 j 0 0 0 sk 0 (fun _ => none) (fun _ => none) (inNames ((ts.take j).map TyV.name)) (fun _ => none) (.slice (some ⟨g, 0, none⟩) 26 cap) ts)) (fun _ i _ => 26 - (intOf i).toNat)
  case atStart => exact ⟨0, 0, rfl, by omega, by first | exact HL0 | exact HL0.out⟩
  case round =>
    obtain ⟨j, sk, rfl, hj, HL⟩ := hrel
    have hlen : ts.length = 26 := by
      have := congrArg List.length HK.out
      simpa [coreKeys] using this
    by_cases hlt : j < 26
    · obtain ⟨t, ht⟩ : ∃ t, ts[j]? = some t := ⟨_, List.getElem?_eq_getElem (by omega)⟩
      have hcells := tyCells_at ts j t ht
      have hreads := HL.out.ty.reads g rfl t (List.mem_of_getElem? ht)
      have hshort := core_names_short (t.key) (by rw [← HK.out]; exact List.mem_map_of_mem (List.mem_of_getElem? ht))
      have HTK := Lib.hid (show (ts.take (j + 1)).map TyV.name = (ts.take j).map TyV.name ++ [t.name] by rw [List.take_add_one, ht]; simp)
      have hown := fun q (hq : q < 6) => ((HL.out.ty.own_at hlen).cellAt (j * 6 + q) (by omega)).trans (hcells q hq)
      obtain ⟨nm, sp, ac, i1, f1, m1⟩ := t
      obtain ⟨⟨A1, n1, k1, h1, _⟩, ⟨A2, n2, k2, h2, _⟩, ⟨A3, n3, k3, h3, _⟩⟩ := hreads
      simp only at h1 h2 h3
      subst h1 h2 h3
      have q0 := hown 0 (by omega)
      have q1 := hown 1 (by omega)
      have q2 := hown 2 (by omega)
      have q3 := hown 3 (by omega)
      have q4 := hown 4 (by omega)
      have q5 := hown 5 (by omega)
      simp only [TyV.cells, List.getElem?_cons_zero, List.getElem?_cons_succ, Nat.add_zero] at q0 q1 q2 q3 q4 q5
      have C2 := HL.out.c2
      have hlw := HL.out.lt
      clear hcells hown ht
      go_wp2_with fail
      refine wp_region_head 6 (by kernel_rfl) (by kernel_rfl) ?_
      simp only [List.take_succ_cons, List.take_zero, List.drop_succ_cons, List.drop_zero]
      repeat go_big_quiet_step (fail)
      refine wpQuiet_nil ?_
      have hs1 : nm.length ≤ 1000 := hshort
      go_wp2_with (at_mapUpdate; refine wpl_put rfl _ _ _ rfl Tryz.underlying9 Tryz.underlying63 rfl (HL.out.below (below_drewN ((Below.refl _ _).alloc (Nat.le_refl _) _) 1)).hk (by unfold maxLen; omega) rfl (by show nm.toArray.size ≤ _; simp [maxLen]; omega) rfl ?_; intro w5 hm5 hg5; refine stop_here ?_)
      have HL5 := Lib.hid ((HL.out.below (below_drewN ((Below.refl _ _).alloc (Nat.le_refl _) _) 1)).putk hm5 hg5)
      clear hm5 hg5
      refine go_on ?_
      go_wp2_with fail
      go_roundw
      case rel =>
        obtain ⟨sk', h5⟩ : ∃ sk', Hid (LdS w w5 w1.heap.size w.heap.size (w.heap.size + 1) (w.heap.size + 1 + 1) (w.heap.size + 1 + 1 + 1) 0 0 (j + 1) 0 0 0 sk' 0 (fun _ => none) (fun _ => none) (putF (inNames ((ts.take j).map TyV.name)) nm (.int .i64 1)) (fun _ => none) (.slice (some ⟨g, 0, none⟩) 26 cap) ts) := ⟨_, HL5⟩
        have e2 : (ts.take (j + 1)).map TyV.name = (ts.take j).map TyV.name ++ [nm] := HTK.out
        rw [inNames_snoc, ← e2] at h5
        exact ⟨j + 1, sk', by go_num, by omega, h5⟩
      case measure => simp [intOf]; omega
    · have hj26 : j = 26 := by omega
      subst hj26
      have htk : ts.take 26 = ts := List.take_of_length_le (by omega)
      rw [htk] at HL
      go_wp2_with fail
      go_ret
      refine ⟨w1.heap.size, rfl, ?_⟩
      first
        | exact ⟨_, _, _, _, 26, sk, _, ts, HK.out, HL.out, by omega, HL.out.ty.below⟩
        | exact ⟨w.heap.size, w.heap.size + 1, w.heap.size + 1 + 1, w.heap.size + 1 + 1 + 1, 26, ⟨sk, ⟨.slice (some ⟨g, 0, none⟩) 26 cap, ⟨ts, ⟨HK.out, HL.out, by omega, HL.out.ty.below⟩⟩⟩⟩⟩
        | trace_state
end Go.Proofs.YtdbniocnjhfhdaaGreatDoor
/-
  turnstileref4.Write at a class of four constants and nothing else: the bytes.
-/
set_option linter.unusedSimpArgs false
set_option linter.unusedVariables false
set_option maxRecDepth 100000
set_option maxHeartbeats 2000000
namespace Go.Proofs.YtdbniocnjhfhdaaGreatDoor
open Go Go.RowKit Lib
/-- The bytes of a class that is bare, as the program's values. -/
def bareV (n s : ByteArray) : List Value :=
  [.int .u8 202, .int .u8 254, .int .u8 186, .int .u8 190] ++ [0, 52, 5].flatMap twoV ++ ([.int .u8 1] ++ twoV n.size ++ strCells n) ++ ([.int .u8 7] ++ twoV 1) ++ ([.int .u8 1] ++ twoV s.size ++ strCells s) ++ ([.int .u8 7] ++ twoV 3) ++ [33, 2, 4, 0].flatMap twoV ++ [0].flatMap twoV ++ [0].flatMap twoV ++ [0].flatMap twoV
theorem write4 (g cap : Nat) (n s : ByteArray) (hn : n.size ≤ 1000) (hs : s.size ≤ 1000) (hcap : 4 ≤ cap) (w : World) (hp : PoolAt w g (four n s)) (hg : g < w.heap.size) :
    Calls Tryz.prog 31 #[.agg #[.int .i64 0, .int .i64 52, .slice (some ⟨g, 0, none⟩) 4 cap, .int .i64 33, .int .i64 2, .int .i64 4, .slice none 0 0, .slice none 0 0, .slice none 0 0]] w fun e w' => ∃ g' cap', e = .returned (.tuple #[.slice (some ⟨g', 0, none⟩) (36 + n.size + s.size) cap', .int .i64 0]) ∧
      w'.ownsRow (w.heap.size + 1) 5 1 (.slice (some ⟨g', 0, none⟩) (36 + n.size + s.size) cap') (36 + n.size + s.size) (bareV n s) ∧ Below w.heap.size w w' := by
  have HP := Lib.hid hp
  clear hp
  obtain ⟨x1, x2, x3, x4, x5, x6, x7, x8, x9, x10, x11, x12⟩ := far g w.heap.size hg
  have hB0 := box_new w [.int .i64 0, .int .i64 52, .slice (some ⟨g, 0, none⟩) 4 cap, .int .i64 33, .int .i64 2, .int .i64 4, .slice none 0 0, .slice none 0 0, .slice none 0 0] 58
  have HB0 := Lib.hid hB0
  clear hB0
  have HW0 := Lib.hid ((Below.refl w.heap.size w).alloc (Nat.le_refl _) (.cells #[.int .i64 0, .int .i64 52, .slice (some ⟨g, 0, none⟩) 4 cap, .int .i64 33, .int .i64 2, .int .i64 4, .slice none 0 0, .slice none 0 0, .slice none 0 0] 58))
  have HP0 := Lib.hid (HP.out.below HW0.out hg)
  go_enter Tryz.func31, Tryz.ntmps31
  go_wp2_with (go_at_call 50; refine (refused4 g cap n s hn hs hcap _ HP0.out (by simp; omega)).mono ?_; rintro e w1 ⟨rfl, hb1⟩; refine stop_here ?_)
  have hz1 := hb1.size
  simp only [World.size_alloc] at hz1 hb1
  have HB1 := Lib.hid (HB0.out.below hb1 (by omega))
  have HP1 := Lib.hid (HP0.out.below hb1 (by omega))
  have HW1 := Lib.hid (HW0.out.trans (hb1.mono (by omega)))
  clear hb1 HB0 HP0 HW0
  refine go_on ?_
  go_wp2_with (go_at_call 51; refine (put4_any _ _).mono ?_; rintro e w2 ⟨r, rfl, hq, hb2⟩; refine stop_here ?_)
  obtain ⟨g2, c2, rfl, _, _⟩ := hq.form (by omega)
  have hz2 := hb2.size
  have HB2 := Lib.hid (HB1.out.below hb2 (by omega))
  have HP2 := Lib.hid (HP1.out.below hb2 (by omega))
  have HW2 := Lib.hid (HW1.out.trans (hb2.mono (by omega)))
  have HO2 := Lib.hid (own_eq (ys := ([.int .u8 202, .int .u8 254, .int .u8 186, .int .u8 190] : List Value)) (own_low hq (by omega : w.heap.size + 1 ≤ w1.heap.size)) rfl (by simp))
  clear hq hb2 HB1 HP1 HW1
  refine go_on ?_
  have hz2 := Nat.le_trans hz1 hz2
  obtain ⟨m3, hm3⟩ : ∃ m, m = 4 + 2 * 3 := ⟨_, rfl⟩
  have hl3 : m3 ≤ 3100 := by omega
  have hp3 : 0 < m3 := by omega
  have hM3 := Lib.hid hm3
  clear hm3
  have b0 := HB2.out 0 _ rfl
  have b1 := HB2.out 1 _ rfl
  have b2 := HB2.out 2 _ rfl
  obtain ⟨y1, y2, y3, y4, y5, y6, y7, y8, y9, y10, y11, y12⟩ := far w.heap.size w2.heap.size (by omega)
  go_wp2_with (go_at_call 52; refine (two_new (w.heap.size + 1) g2 4 c2 _ [0, 52, 5] 3 m3 hM3.out w2 HO2.out (by omega) (by omega) (by omega) rfl (by omega)).mono ?_; rintro e w3 ⟨g3, c3, rfl, ho3, hb3⟩; refine stop_here ?_)
  clear y1 y2 y3 y4 y5 y6 y7 y8 y9 y10 y11 y12
  have hz3 := Nat.le_trans hz2 hb3.size
  have HB3 := Lib.hid (HB2.out.below hb3 (by omega))
  have HP3 := Lib.hid (HP2.out.below hb3 (by omega))
  have HW3 := Lib.hid (HW2.out.trans (hb3.mono (by omega)))
  have HO3 := Lib.hid ho3
  clear ho3 hb3 HB2 HP2 HW2 HO2 b0 b1 b2
  refine go_on ?_
  go_wp2_with fail
  refine wp_loop_rounds 5 ?_
  obtain ⟨m4, hm4⟩ : ∃ m, m = m3 + 3 + n.size := ⟨_, rfl⟩
  have hl4 : m4 ≤ 3100 := by have := hM3.out; omega
  have hp4 : 0 < m4 := by omega
  have hM4 := Lib.hid hm4
  clear hm4
  rw [rounds_succ]
  have b2 := HB3.out 2 _ rfl
  obtain ⟨d0, d1, d2, d3, d4⟩ := HP3.out 0 _ rfl
  go_wp2_with (go_at_call 53; refine (text_low (w.heap.size + 1) g3 m3 c3 _ n m4 hM4.out w3 HO3.out (by omega) (by omega) (by omega) hn).mono ?_; rintro e w4 ⟨g4, c4, rfl, ho4, hb4⟩; refine stop_here ?_)
  clear d0 d1 d2 d3 d4
  have hz4 := Nat.le_trans hz3 hb4.size
  have HB4 := Lib.hid (HB3.out.below hb4 (by omega))
  have HP4 := Lib.hid (HP3.out.below hb4 (by omega))
  have HW4 := Lib.hid (HW3.out.trans (hb4.mono (by omega)))
  have HO4 := Lib.hid ho4
  clear ho4 hb4 HB3 HP3 HW3 HO3 b2
  refine go_on ?_
  have hbig : ¬ (65536 : Int) < (m4 : Int) := by omega
  have hbig2 : ¬ 65536 < m4 := by omega
  go_wp2_with fail
  clear hbig hbig2
  obtain ⟨m5, hm5⟩ : ∃ m, m = m4 + 3 := ⟨_, rfl⟩
  have hl5 : m5 ≤ 3100 := by have := hM3.out; have := hM4.out; omega
  have hp5 : 0 < m5 := by omega
  have hM5 := Lib.hid hm5
  clear hm5
  rw [rounds_succ]
  have b2 := HB4.out 2 _ rfl
  obtain ⟨d0, d1, d2, d3, d4⟩ := HP4.out 1 _ rfl
  simp only [Nat.reduceMul, Nat.reduceAdd] at d0 d1 d2 d3 d4
  go_wp2_with (go_at_call 53; refine (class_low (w.heap.size + 1) g4 m4 c4 _ 1 m5 hM5.out w4 HO4.out (by omega) (by omega) (by omega)).mono ?_; rintro e w5 ⟨g5, c5, rfl, ho5, hb5⟩; refine stop_here ?_)
  clear d0 d1 d2 d3 d4
  have hz5 := Nat.le_trans hz4 hb5.size
  have HB5 := Lib.hid (HB4.out.below hb5 (by omega))
  have HP5 := Lib.hid (HP4.out.below hb5 (by omega))
  have HW5 := Lib.hid (HW4.out.trans (hb5.mono (by omega)))
  have HO5 := Lib.hid ho5
  clear ho5 hb5 HB4 HP4 HW4 HO4 b2
  refine go_on ?_
  have hbig : ¬ (65536 : Int) < (m5 : Int) := by omega
  have hbig2 : ¬ 65536 < m5 := by omega
  go_wp2_with fail
  clear hbig hbig2
  obtain ⟨m6, hm6⟩ : ∃ m, m = m5 + 3 + s.size := ⟨_, rfl⟩
  have hl6 : m6 ≤ 3100 := by have := hM3.out; have := hM4.out; have := hM5.out; omega
  have hp6 : 0 < m6 := by omega
  have hM6 := Lib.hid hm6
  clear hm6
  rw [rounds_succ]
  have b2 := HB5.out 2 _ rfl
  obtain ⟨d0, d1, d2, d3, d4⟩ := HP5.out 2 _ rfl
  simp only [Nat.reduceMul, Nat.reduceAdd] at d0 d1 d2 d3 d4
  go_wp2_with (go_at_call 53; refine (text_low (w.heap.size + 1) g5 m5 c5 _ s m6 hM6.out w5 HO5.out (by omega) (by omega) (by omega) hs).mono ?_; rintro e w6 ⟨g6, c6, rfl, ho6, hb6⟩; refine stop_here ?_)
  clear d0 d1 d2 d3 d4
  have hz6 := Nat.le_trans hz5 hb6.size
  have HB6 := Lib.hid (HB5.out.below hb6 (by omega))
  have HP6 := Lib.hid (HP5.out.below hb6 (by omega))
  have HW6 := Lib.hid (HW5.out.trans (hb6.mono (by omega)))
  have HO6 := Lib.hid ho6
  clear ho6 hb6 HB5 HP5 HW5 HO5 b2
  refine go_on ?_
  have hbig : ¬ (65536 : Int) < (m6 : Int) := by omega
  have hbig2 : ¬ 65536 < m6 := by omega
  go_wp2_with fail
  clear hbig hbig2
  obtain ⟨m7, hm7⟩ : ∃ m, m = m6 + 3 := ⟨_, rfl⟩
  have hl7 : m7 ≤ 3100 := by have := hM3.out; have := hM4.out; have := hM5.out; have := hM6.out; omega
  have hp7 : 0 < m7 := by omega
  have hM7 := Lib.hid hm7
  clear hm7
  rw [rounds_succ]
  have b2 := HB6.out 2 _ rfl
  obtain ⟨d0, d1, d2, d3, d4⟩ := HP6.out 3 _ rfl
  simp only [Nat.reduceMul, Nat.reduceAdd] at d0 d1 d2 d3 d4
  go_wp2_with (go_at_call 53; refine (class_low (w.heap.size + 1) g6 m6 c6 _ 3 m7 hM7.out w6 HO6.out (by omega) (by omega) (by omega)).mono ?_; rintro e w7 ⟨g7, c7, rfl, ho7, hb7⟩; refine stop_here ?_)
  clear d0 d1 d2 d3 d4
  have hz7 := Nat.le_trans hz6 hb7.size
  have HB7 := Lib.hid (HB6.out.below hb7 (by omega))
  have HP7 := Lib.hid (HP6.out.below hb7 (by omega))
  have HW7 := Lib.hid (HW6.out.trans (hb7.mono (by omega)))
  have HO7 := Lib.hid ho7
  clear ho7 hb7 HB6 HP6 HW6 HO6 b2
  refine go_on ?_
  have hbig : ¬ (65536 : Int) < (m7 : Int) := by omega
  have hbig2 : ¬ 65536 < m7 := by omega
  go_wp2_with fail
  clear hbig hbig2
  rw [rounds_succ]
  obtain ⟨m8, hm8⟩ : ∃ m, m = m7 + 2 * 4 := ⟨_, rfl⟩
  have hl8 : m8 ≤ 3100 := by have := hM3.out; have := hM4.out; have := hM5.out; have := hM6.out; have := hM7.out; omega
  have hp8 : 0 < m8 := by omega
  have hM8 := Lib.hid hm8
  clear hm8
  have b2 := HB7.out 2 _ rfl
  have b3 := HB7.out 3 _ rfl
  have b4 := HB7.out 4 _ rfl
  have b5 := HB7.out 5 _ rfl
  have b6 := HB7.out 6 _ rfl
  obtain ⟨y1, y2, y3, y4, y5, y6, y7, y8, y9, y10, y11, y12⟩ := far w.heap.size w7.heap.size (by omega)
  go_wp2_with (go_at_call 52; refine (two_new (w.heap.size + 1) g7 m7 c7 _ [33, 2, 4, 0] 4 m8 hM8.out w7 HO7.out (by omega) (by omega) (by omega) rfl (by omega)).mono ?_; rintro e w8 ⟨g8, c8, rfl, ho8, hb8⟩; refine stop_here ?_)
  clear y1 y2 y3 y4 y5 y6 y7 y8 y9 y10 y11 y12
  have hz8 := Nat.le_trans hz7 hb8.size
  have HB8 := Lib.hid (HB7.out.below hb8 (by omega))
  have HP8 := Lib.hid (HP7.out.below hb8 (by omega))
  have HW8 := Lib.hid (HW7.out.trans (hb8.mono (by omega)))
  have HO8 := Lib.hid ho8
  clear ho8 hb8 HB7 HP7 HW7 HO7 b2 b3 b4 b5 b6
  refine go_on ?_
  have b6 := HB8.out 6 _ rfl
  go_wp2_with (go_at_call 52; refine (two_nothing g8 m8 c8 _).mono ?_; rintro e w9 ⟨rfl, rfl⟩; refine stop_here ?_)
  clear b6
  refine go_on ?_
  obtain ⟨m9, hm9⟩ : ∃ m, m = m8 + 2 * 1 := ⟨_, rfl⟩
  have hl9 : m9 ≤ 3100 := by have := hM3.out; have := hM4.out; have := hM5.out; have := hM6.out; have := hM7.out; have := hM8.out; omega
  have hp9 : 0 < m9 := by omega
  have hM9 := Lib.hid hm9
  clear hm9
  have b7 := HB8.out 7 _ rfl
  obtain ⟨y1, y2, y3, y4, y5, y6, y7, y8, y9, y10, y11, y12⟩ := far w.heap.size w8.heap.size (by omega)
  go_wp2_with (go_at_call 52; refine (two_new (w.heap.size + 1) g8 m8 c8 _ [0] 1 m9 hM9.out w8 HO8.out (by omega) (by omega) (by omega) rfl (by omega)).mono ?_; rintro e w9 ⟨g9, c9, rfl, ho9, hb9⟩; refine stop_here ?_)
  clear y1 y2 y3 y4 y5 y6 y7 y8 y9 y10 y11 y12
  have hz9 := Nat.le_trans hz8 hb9.size
  have HB9 := Lib.hid (HB8.out.below hb9 (by omega))
  have HP9 := Lib.hid (HP8.out.below hb9 (by omega))
  have HW9 := Lib.hid (HW8.out.trans (hb9.mono (by omega)))
  have HO9 := Lib.hid ho9
  clear ho9 hb9 HB8 HP8 HW8 HO8 b7
  refine go_on ?_
  have b0 := HB9.out 0 _ rfl
  have b1 := HB9.out 1 _ rfl
  have b2 := HB9.out 2 _ rfl
  have b3 := HB9.out 3 _ rfl
  have b4 := HB9.out 4 _ rfl
  have b5 := HB9.out 5 _ rfl
  have b6 := HB9.out 6 _ rfl
  have b7 := HB9.out 7 _ rfl
  have b8 := HB9.out 8 _ rfl
  go_wp2_with (go_at_call 54; refine (named4 g cap n s _ hn hs hcap _ HP9.out (by omega)).mono ?_; rintro e w10 ⟨i10, rfl, hb10⟩; refine stop_here ?_)
  have hz10 := Nat.le_trans hz9 hb10.size
  have HB10 := Lib.hid (HB9.out.below hb10 (by omega))
  have HP10 := Lib.hid (HP9.out.below hb10 (by omega))
  have HW10 := Lib.hid (HW9.out.trans (hb10.mono (by omega)))
  have HO10 := Lib.hid (own_heap HO9.out fun q hq => hb10.block q (HO9.out.lt q hq).2)
  clear hb10 HB9 HP9 HW9 HO9 b0 b1 b2 b3 b4 b5 b6 b7 b8
  refine go_on ?_
  have b7 := HB10.out 7 _ rfl
  have b8 := HB10.out 8 _ rfl
  go_wp2_with fail
  refine wp_loop_rounds 1 ?_
  rw [rounds_succ]
  obtain ⟨m11, hm11⟩ : ∃ m, m = m9 + 2 * 1 := ⟨_, rfl⟩
  have hl11 : m11 ≤ 3100 := by have := hM3.out; have := hM4.out; have := hM5.out; have := hM6.out; have := hM7.out; have := hM8.out; have := hM9.out; omega
  have hp11 : 0 < m11 := by omega
  have hM11 := Lib.hid hm11
  clear hm11
  have b8 := HB10.out 8 _ rfl
  obtain ⟨y1, y2, y3, y4, y5, y6, y7, y8, y9, y10, y11, y12⟩ := far w.heap.size w10.heap.size (by omega)
  go_wp2_with (go_at_call 52; refine (two_new (w.heap.size + 1) g9 m9 c9 _ [0] 1 m11 hM11.out w10 HO10.out (by omega) (by omega) (by omega) rfl (by omega)).mono ?_; rintro e w11 ⟨g11, c11, rfl, ho11, hb11⟩; refine stop_here ?_)
  clear y1 y2 y3 y4 y5 y6 y7 y8 y9 y10 y11 y12
  have hz11 := Nat.le_trans hz10 hb11.size
  have HB11 := Lib.hid (HB10.out.below hb11 (by omega))
  have HP11 := Lib.hid (HP10.out.below hb11 (by omega))
  have HW11 := Lib.hid (HW10.out.trans (hb11.mono (by omega)))
  have HO11 := Lib.hid ho11
  clear ho11 hb11 HB10 HP10 HW10 HO10 b8
  refine go_on ?_
  clear b7
  have b0 := HB11.out 0 _ rfl
  have b1 := HB11.out 1 _ rfl
  have b2 := HB11.out 2 _ rfl
  have b3 := HB11.out 3 _ rfl
  have b4 := HB11.out 4 _ rfl
  have b5 := HB11.out 5 _ rfl
  have b6 := HB11.out 6 _ rfl
  have b7 := HB11.out 7 _ rfl
  have b8 := HB11.out 8 _ rfl
  go_wp2_with (go_at_call 54; refine (named4 g cap n s _ hn hs hcap _ HP11.out (by omega)).mono ?_; rintro e w12 ⟨i12, rfl, hb12⟩; refine stop_here ?_)
  have hz12 := Nat.le_trans hz11 hb12.size
  have HB12 := Lib.hid (HB11.out.below hb12 (by omega))
  have HP12 := Lib.hid (HP11.out.below hb12 (by omega))
  have HW12 := Lib.hid (HW11.out.trans (hb12.mono (by omega)))
  have HO12 := Lib.hid (own_heap HO11.out fun q hq => hb12.block q (HO11.out.lt q hq).2)
  clear hb12 HB11 HP11 HW11 HO11 b0 b1 b2 b3 b4 b5 b6 b7 b8
  refine go_on ?_
  have b8 := HB12.out 8 _ rfl
  go_wp2_with fail
  refine wp_loop_rounds 1 ?_
  rw [rounds_succ]
  obtain ⟨m13, hm13⟩ : ∃ m, m = m11 + 2 * 1 := ⟨_, rfl⟩
  have hl13 : m13 ≤ 3100 := by have := hM3.out; have := hM4.out; have := hM5.out; have := hM6.out; have := hM7.out; have := hM8.out; have := hM9.out; have := hM11.out; omega
  have hp13 : 0 < m13 := by omega
  have hM13 := Lib.hid hm13
  clear hm13

  obtain ⟨y1, y2, y3, y4, y5, y6, y7, y8, y9, y10, y11, y12⟩ := far w.heap.size w12.heap.size (by omega)
  go_wp2_with (go_at_call 52; refine (two_new (w.heap.size + 1) g11 m11 c11 _ [0] 1 m13 hM13.out w12 HO12.out (by omega) (by omega) (by omega) rfl (by omega)).mono ?_; rintro e w13 ⟨g13, c13, rfl, ho13, hb13⟩; refine stop_here ?_)
  clear y1 y2 y3 y4 y5 y6 y7 y8 y9 y10 y11 y12
  have hz13 := Nat.le_trans hz12 hb13.size
  have HB13 := Lib.hid (HB12.out.below hb13 (by omega))
  have HP13 := Lib.hid (HP12.out.below hb13 (by omega))
  have HW13 := Lib.hid (HW12.out.trans (hb13.mono (by omega)))
  have HO13 := Lib.hid ho13
  clear ho13 hb13 HB12 HP12 HW12 HO12
  refine go_on ?_
  clear b8
  have hbig : ¬ (65536 : Int) < (m13 : Int) := by omega
  have hbig2 : ¬ 65536 < m13 := by omega
  go_wp2_with fail
  have hN : m13 = 36 + n.size + s.size := by have := hM3.out; have := hM4.out; have := hM5.out; have := hM6.out; have := hM7.out; have := hM8.out; have := hM9.out; have := hM11.out; have := hM13.out;  omega
  rw [← hN]
  have HO := Lib.hid (own_eq (ys := bareV n s) HO13.out rfl (by unfold bareV; rfl))
  clear hN
  go_ret2
  exact ⟨g13, c13, rfl, HO.out, HW13.out⟩
end Go.Proofs.YtdbniocnjhfhdaaGreatDoor
/-
  What Write answers at such a class, as bytes.
-/
set_option linter.unusedSimpArgs false
set_option linter.unusedVariables false
namespace Go.Proofs.YtdbniocnjhfhdaaGreatDoor
open Go Go.RowKit Lib
theorem bV_hi (n : Nat) (h : n < 65536) : bV (hiB n) = .int .u8 ((n : Int) / 256 % 256) := by
  unfold hiB
  rw [← bV_ofNat _ (by omega)]
  congr 1
  omega
theorem bV_lo (n : Nat) : bV (loB n) = .int .u8 ((n : Int) % 256) := by
  unfold loB
  rw [← bV_ofNat _ (by omega)]
  congr 1
theorem bareV_eq (n s : ByteArray) (hn : n.size ≤ 1000) (hs : s.size ≤ 1000) : bareV n s = (bareL n.data.toList s.data.toList).map bV := by
  have e1 : n.data.toList.length = n.size := by simp
  have e2 : s.data.toList.length = s.size := by simp
  unfold bareV bareL
  simp only [List.map_append, List.map_cons, List.map_nil, e1, e2, bV_hi n.size (by omega), bV_hi s.size (by omega), bV_lo, twoV, strCells, List.flatMap_cons, List.flatMap_nil, List.append_assoc, List.cons_append, List.nil_append, List.append_nil]
  simp [bV]
  try rfl
end Go.Proofs.YtdbniocnjhfhdaaGreatDoor
/-
  General small laws: '|' and '&' on int.
-/
set_option linter.unusedSimpArgs false
set_option linter.unusedVariables false
namespace Go.Proofs.YtdbniocnjhfhdaaGreatDoor
open Go Go.RowKit
theorem i64_or_nat (a b : Nat) (ha : a < 9223372036854775808) (hb : b < 9223372036854775808) : bits .or .i64 (a : Int) (b : Int) = ((a ||| b : Nat) : Int) := by
  have hx : a ||| b < 2 ^ 63 := Nat.or_lt_two_pow (by omega) (by omega)
  show IntKind.i64.wrap ((BitVec.ofInt 64 (a : Int) ||| BitVec.ofInt 64 (b : Int)).toNat : Int) = _
  rw [BitVec.toNat_or, ofInt_u64 a (by omega), ofInt_u64 b (by omega), IntKind.wrap_i64]
  omega
theorem i64_and_nat (a b : Nat) (ha : a < 9223372036854775808) (hb : b < 9223372036854775808) : bits .and .i64 (a : Int) (b : Int) = ((a &&& b : Nat) : Int) := by
  have hx : a &&& b < 2 ^ 63 := Nat.and_lt_two_pow _ (by omega)
  show IntKind.i64.wrap ((BitVec.ofInt 64 (a : Int) &&& BitVec.ofInt 64 (b : Int)).toNat : Int) = _
  rw [BitVec.toNat_and, ofInt_u64 a (by omega), ofInt_u64 b (by omega), IntKind.wrap_i64]
  omega
theorem or_byte (v x : Nat) (hx : x < 256) (hv : v < 16777216) : bits .or .i64 (((v * 256 : Nat) : Int)) (x : Int) = ((v * 256 + x : Nat) : Int) := by
  rw [i64_or_nat _ _ (by omega) (by omega)]
  congr 1
  rw [show v * 256 = v <<< 8 by rw [Nat.shiftLeft_eq], ← Nat.shiftLeft_add_eq_or_of_lt (by omega)]
end Go.Proofs.YtdbniocnjhfhdaaGreatDoor
