/-
  The loader: File, at a name without a file, and at a file without methods.
-/
import Derived.Test.YtdbniocnjhfhdaaGreatDoorB25
set_option linter.unusedSimpArgs false
set_option linter.unusedVariables false
set_option maxRecDepth 100000
set_option maxHeartbeats 1000000
namespace Go.Proofs.YtdbniocnjhfhdaaGreatDoor
open Go Go.RowKit Lib Go.Maps
section
variable {B : Nat} {L : LPos} {nd : Nat} {defs : List UInt8 → Option (List UInt8)} {files : List UInt8 → Option ClassV} {ks going : List (List UInt8)} {ts : List TyV} {v : Value} {W : World}
theorem file_none (h : LdG B L nd defs files ks going ts v W) (s : ByteArray) (hs : s.size ≤ maxLen) (hf : files s.data.toList = none) :
    Calls Tryz.prog 24 #[.pointer (some ⟨L.lb, 0, none⟩), .string s] W fun e w' => ∃ c9 : List Value, c9.length = 9 ∧ (∀ u ∈ c9, u.oneCell' = true) ∧ e = .returned (.tuple #[.agg c9.toArray, .bool false]) ∧ Below W.heap.size W w' := by
  obtain ⟨ff, n, hn, hM, hA⟩ := h.hf
  have HN := Lib.hid (show ff s.data.toList = none by have := hA s.data.toList; rw [hf] at this; exact this)
  have HM := Lib.hid hM
  have hbf := hM.lt
  have hc := h.c1
  have hl := h.lt
  have X0 := Lib.hid (bx_new W zeroClass 58)
  have X1 := Lib.hid (bx_new (W.alloc (.cells zeroClass.toArray 58)) zeroClass 58)
  clear hM hA h
  go_enter Tryz.func24, Tryz.ntmps24
  go_wp2_with (first
    | (at_lookup; refine wpl_look rfl _ _ rfl Tryz.underlying9 Tryz.underlying62 (z := .agg #[.int .i64 0, .int .i64 0, .slice none 0 0, .int .i64 0, .int .i64 0, .int .i64 0, .slice none 0 0, .slice none 0 0, .slice none 0 0]) (by kernel_rfl) rfl (HM.out.keep (((Below.refl _ _).alloc (Nat.le_refl _) _).block _ hbf)) rfl hs ?_; rw [HN.out])
    | (refine wpList_store_row rfl _ _ _ rfl (W.heap.size + 1) _ rfl rfl _ _ X1.out (by kernel_rfl) rfl (by simp [Value.oneCell']) ?_; refine stop_here ?_))
  refine bodyPost_ret (results_two_cell rfl rfl rfl (X0.out.below ((Below.refl _ _).alloc (Nat.le_refl _) _) (by simp)) rfl rfl (by kernel_rfl)) rfl ⟨zeroClass, by decide, by decide, rfl, ((Below.refl _ _).alloc (Nat.le_refl _) _).alloc (by simp) _⟩
theorem ko_cells_one (l : List Ko) : ∀ u ∈ l.flatMap Ko.cells, u.oneCell' = true := by
  intro u hu
  obtain ⟨k, _, hk⟩ := List.mem_flatMap.1 hu
  simp only [Ko.cells, List.mem_cons, List.not_mem_nil, or_false] at hk
  rcases hk with rfl | rfl | rfl | rfl | rfl <;> rfl
theorem fld_cells_one (l : List FieldV) : ∀ u ∈ l.flatMap FieldV.cells, u.oneCell' = true := by
  intro u hu
  obtain ⟨k, _, hk⟩ := List.mem_flatMap.1 hu
  simp only [FieldV.cells, List.mem_cons, List.not_mem_nil, or_false] at hk
  rcases hk with rfl | rfl | rfl | rfl <;> rfl
theorem ints_one {α : Type} (l : List α) (f : α → Int) : ∀ u ∈ l.map (fun x => Value.int .i64 (f x)), u.oneCell' = true := by
  intro u hu
  obtain ⟨k, _, rfl⟩ := List.mem_map.1 hu
  rfl
theorem file_plain (h : LdG B L nd defs files ks going ts v W) (s : ByteArray) (hs : s.size ≤ maxLen) {c : ClassV} (hf : files s.data.toList = some c) (hm0 : c.mths = []) :
    Calls Tryz.prog 24 #[.pointer (some ⟨L.lb, 0, none⟩), .string s] W fun e w' => ∃ c9 : List Value, c9.length = 9 ∧ (∀ u ∈ c9, u.oneCell' = true) ∧ e = .returned (.tuple #[.agg c9.toArray, .bool true]) ∧ Below W.heap.size W w' := by
  obtain ⟨ff, n, hn, hM, hA⟩ := h.hf
  have hA' := hA s.data.toList
  rw [hf] at hA'
  obtain ⟨pv, iv, fv, mv, hff, hca⟩ := hA'
  obtain ⟨Ap, kp, rfl, _, z1⟩ := sl_len hca.hpool
  obtain ⟨Ai, ki, rfl, _, z2⟩ := sl_len hca.hifs
  obtain ⟨Af, kf, rfl, _, z3⟩ := sl_len hca.hflds
  obtain ⟨ms, _, hms2, _⟩ := id hca.hmths
  rw [hm0] at hms2
  obtain ⟨Am, km, rfl, _⟩ := sl_len hms2
  have HN := Lib.hid (show ff s.data.toList = some (.agg #[.int .i64 c.minor, .int .i64 c.major, .slice Ap c.pool.length kp, .int .i64 c.acc, .int .i64 c.this, .int .i64 c.sup, .slice Ai c.ifs.length ki, .slice Af c.flds.length kf, .slice Am 0 km]) from hff)
  have HCA := Lib.hid hca
  have HM := Lib.hid hM
  have hbf := hM.lt
  have hc := h.c1
  have hl := h.lt
  have X0 := Lib.hid (bx_new W zeroClass 58)
  have X1 := Lib.hid (bx_new (W.alloc (.cells zeroClass.toArray 58)) zeroClass 58)
  have B1 := Lib.hid (((Below.refl W.heap.size W).alloc (Nat.le_refl _) (.cells zeroClass.toArray 58)).alloc (by simp) (.cells zeroClass.toArray 58))
  have X0' := Lib.hid (X0.out.below ((Below.refl (W.heap.size + 1) (W.alloc (.cells zeroClass.toArray 58))).alloc (by simp) (.cells zeroClass.toArray 58)) (by omega))
  have hz1 : ((W.alloc (.cells zeroClass.toArray 58)).alloc (.cells zeroClass.toArray 58)).heap.size = W.heap.size + 2 := by simp
  clear hM hA h hff hca hms2 hf
  simp only [World.size_alloc] at X1
  go_enter Tryz.func24, Tryz.ntmps24
  unfold zeroClass at X0 X1 B1 X0' hz1
  go_wp2_with (first
    | (at_lookup; refine wpl_look rfl _ _ rfl Tryz.underlying9 Tryz.underlying62 (z := .agg #[.int .i64 0, .int .i64 0, .slice none 0 0, .int .i64 0, .int .i64 0, .int .i64 0, .slice none 0 0, .slice none 0 0, .slice none 0 0]) (by kernel_rfl) rfl (HM.out.keep (((Below.refl _ _).alloc (Nat.le_refl _) _).block _ hbf)) rfl hs ?_; rw [HN.out])
    | (refine wpList_store_row rfl _ _ _ rfl (W.heap.size + 1) _ rfl rfl _ _ X1.out (by kernel_rfl) rfl (by simp [Value.oneCell']) ?_; refine stop_here ?_))
  refine go_on ?_
  have K2 := Lib.hid (X1.out.row [.int .i64 c.minor, .int .i64 c.major, .slice Ap c.pool.length kp, .int .i64 c.acc, .int .i64 c.this, .int .i64 c.sup, .slice Ai c.ifs.length ki, .slice Af c.flds.length kf, .slice Am 0 km])
  have R2 := Lib.hid (show Bx (((W.alloc (.cells #[.int .i64 0, .int .i64 0, .slice none 0 0, .int .i64 0, .int .i64 0, .int .i64 0, .slice none 0 0, .slice none 0 0, .slice none 0 0] 58)).alloc (.cells #[.int .i64 0, .int .i64 0, .slice none 0 0, .int .i64 0, .int .i64 0, .int .i64 0, .slice none 0 0, .slice none 0 0, .slice none 0 0] 58)).setRow (W.heap.size + 1) #[.int .i64 c.minor, .int .i64 c.major, .slice Ap c.pool.length kp, .int .i64 c.acc, .int .i64 c.this, .int .i64 c.sup, .slice Ai c.ifs.length ki, .slice Af c.flds.length kf, .slice Am 0 km]) W.heap.size [.int .i64 0, .int .i64 0, .slice none 0 0, .int .i64 0, .int .i64 0, .int .i64 0, .slice none 0 0, .slice none 0 0, .slice none 0 0] 58 from (setRow_other _ (W.heap.size + 1) W.heap.size #[.int .i64 c.minor, .int .i64 c.major, .slice Ap c.pool.length kp, .int .i64 c.acc, .int .i64 c.this, .int .i64 c.sup, .slice Ai c.ifs.length ki, .slice Af c.flds.length kf, .slice Am 0 km] (by omega)).trans X0'.out)
  have B2 := Lib.hid (below_row B1.out (W.heap.size + 1) #[.int .i64 c.minor, .int .i64 c.major, .slice Ap c.pool.length kp, .int .i64 c.acc, .int .i64 c.this, .int .i64 c.sup, .slice Ai c.ifs.length ki, .slice Af c.flds.length kf, .slice Am 0 km] (by omega))
  have hz2 : (((W.alloc (.cells #[.int .i64 0, .int .i64 0, .slice none 0 0, .int .i64 0, .int .i64 0, .int .i64 0, .slice none 0 0, .slice none 0 0, .slice none 0 0] 58)).alloc (.cells #[.int .i64 0, .int .i64 0, .slice none 0 0, .int .i64 0, .int .i64 0, .int .i64 0, .slice none 0 0, .slice none 0 0, .slice none 0 0] 58)).setRow (W.heap.size + 1) #[.int .i64 c.minor, .int .i64 c.major, .slice Ap c.pool.length kp, .int .i64 c.acc, .int .i64 c.this, .int .i64 c.sup, .slice Ai c.ifs.length ki, .slice Af c.flds.length kf, .slice Am 0 km]).heap.size = W.heap.size + 2 := by simp
  generalize ((W.alloc (.cells #[.int .i64 0, .int .i64 0, .slice none 0 0, .int .i64 0, .int .i64 0, .int .i64 0, .slice none 0 0, .slice none 0 0, .slice none 0 0] 58)).alloc (.cells #[.int .i64 0, .int .i64 0, .slice none 0 0, .int .i64 0, .int .i64 0, .int .i64 0, .slice none 0 0, .slice none 0 0, .slice none 0 0] 58)).setRow (W.heap.size + 1) #[.int .i64 c.minor, .int .i64 c.major, .slice Ap c.pool.length kp, .int .i64 c.acc, .int .i64 c.this, .int .i64 c.sup, .slice Ai c.ifs.length ki, .slice Af c.flds.length kf, .slice Am 0 km] = w2 at *
  obtain ⟨G, hG⟩ : ∃ G, W.heap.size + 1 = G := ⟨_, rfl⟩
  rw [hG] at K2 ⊢
  clear X0 X1 B1 X0' hz1 HM HN hbf
  have cN := K2.out.cell 2 rfl
  go_wp2_with (at_builtin; refine stop_here ?_)
  refine go_on ?_
  clear cN
  have S1 := Lib.hid (HCA.out.hpool.keep (Kept.of_below B2.out))
  have L1 : (c.pool.flatMap Ko.cells).length = c.pool.length * 5 := by
    obtain ⟨_, _, _, _, _, hl, _⟩ := S1.out
    exact hl
  refine wpl_own rfl _ _ 53 rfl Tryz.underlying53 info_const rfl (by omega) w2.heap.size rfl (World.ownsRow_nil _ _ _ _) rfl L1 S1.out.src (ko_cells_one _) (by simp only [maxLen]; omega) (by omega) (Nat.le_refl _) ?_
  intro v' w' ho hgr hb
  have KX := Lib.hid (K2.out.below hb K2.out.lt)
  have RX := Lib.hid (R2.out.below hb R2.out.lt)
  have BX := Lib.hid (B2.out.trans (hb.mono (by omega)))
  have hzX := hb.size
  obtain ⟨A1, k1, rfl, _⟩ := sl_len (slAt_own (own_eq ho (Nat.zero_add _) (List.nil_append _)) (fun _ => True) (by omega) z1 (fun _ _ => trivial))
  have cX := KX.out.cell 2 rfl
  have fX := KX.out.frozen 2
  have cN := KX.out.cell 6 rfl
  clear ho hgr hb S1 L1 K2 R2 B2
  go_wp2_with (at_builtin; refine stop_here ?_)
  have K3 := Lib.hid (show Bx (w'.setCell ⟨G, 2, none⟩ (.slice A1 c.pool.length k1)) G [.int .i64 c.minor, .int .i64 c.major, .slice A1 c.pool.length k1, .int .i64 c.acc, .int .i64 c.this, .int .i64 c.sup, .slice Ai c.ifs.length ki, .slice Af c.flds.length kf, .slice Am 0 km] 58 from KX.out.set 2 _)
  have R3 := Lib.hid (RX.out.set_other ⟨G, 2, none⟩ (.slice A1 c.pool.length k1) (by show G ≠ W.heap.size; omega))
  have B3 := Lib.hid (BX.out.setCell (p := ⟨G, 2, none⟩) (by show W.heap.size ≤ G; omega) (.slice A1 c.pool.length k1))
  have hz3 : W.heap.size + 2 ≤ (w'.setCell ⟨G, 2, none⟩ (.slice A1 c.pool.length k1)).heap.size := by simp; omega
  clear KX RX BX cX fX cN
  generalize w'.setCell ⟨G, 2, none⟩ (.slice A1 c.pool.length k1) = w3 at *
  clear hzX
  refine go_on ?_
  have S2 := Lib.hid (HCA.out.hifs.keep (Kept.of_below B3.out))
  have L2 : (c.ifs.map (Value.int .i64)).length = c.ifs.length * 1 := by
    obtain ⟨_, _, _, _, _, hl, _⟩ := S2.out
    exact hl
  refine wpl_own rfl _ _ 54 rfl Tryz.underlying54 info_int rfl (by omega) w3.heap.size rfl (World.ownsRow_nil _ _ _ _) rfl L2 S2.out.src (ints_one _ _) (by simp only [maxLen]; omega) (by omega) (Nat.le_refl _) ?_
  intro v' w' ho hgr hb
  have KX := Lib.hid (K3.out.below hb K3.out.lt)
  have RX := Lib.hid (R3.out.below hb R3.out.lt)
  have BX := Lib.hid (B3.out.trans (hb.mono (by omega)))
  have hzX := hb.size
  obtain ⟨A2, k2, rfl, _⟩ := sl_len (slAt_own (own_eq ho (Nat.zero_add _) (List.nil_append _)) (fun _ => True) (by omega) z2 (fun _ _ => trivial))
  have cX := KX.out.cell 6 rfl
  have fX := KX.out.frozen 6
  have cN := KX.out.cell 7 rfl
  clear ho hgr hb S2 L2 K3 R3 B3
  go_wp2_with (at_builtin; refine stop_here ?_)
  have K4 := Lib.hid (show Bx (w'.setCell ⟨G, 6, none⟩ (.slice A2 c.ifs.length k2)) G [.int .i64 c.minor, .int .i64 c.major, .slice A1 c.pool.length k1, .int .i64 c.acc, .int .i64 c.this, .int .i64 c.sup, .slice A2 c.ifs.length k2, .slice Af c.flds.length kf, .slice Am 0 km] 58 from KX.out.set 6 _)
  have R4 := Lib.hid (RX.out.set_other ⟨G, 6, none⟩ (.slice A2 c.ifs.length k2) (by show G ≠ W.heap.size; omega))
  have B4 := Lib.hid (BX.out.setCell (p := ⟨G, 6, none⟩) (by show W.heap.size ≤ G; omega) (.slice A2 c.ifs.length k2))
  have hz4 : W.heap.size + 2 ≤ (w'.setCell ⟨G, 6, none⟩ (.slice A2 c.ifs.length k2)).heap.size := by simp; omega
  clear KX RX BX cX fX cN
  generalize w'.setCell ⟨G, 6, none⟩ (.slice A2 c.ifs.length k2) = w4 at *
  clear hzX
  refine go_on ?_
  have S3 := Lib.hid (HCA.out.hflds.keep (Kept.of_below B4.out))
  have L3 : (c.flds.flatMap FieldV.cells).length = c.flds.length * 4 := by
    obtain ⟨_, _, _, _, _, hl, _⟩ := S3.out
    exact hl
  refine wpl_own rfl _ _ 55 rfl Tryz.underlying55 info_field rfl (by omega) w4.heap.size rfl (World.ownsRow_nil _ _ _ _) rfl L3 S3.out.src (fld_cells_one _) (by simp only [maxLen]; omega) (by omega) (Nat.le_refl _) ?_
  intro v' w' ho hgr hb
  have KX := Lib.hid (K4.out.below hb K4.out.lt)
  have RX := Lib.hid (R4.out.below hb R4.out.lt)
  have BX := Lib.hid (B4.out.trans (hb.mono (by omega)))
  have hzX := hb.size
  obtain ⟨A3, k3, rfl, _⟩ := sl_len (slAt_own (own_eq ho (Nat.zero_add _) (List.nil_append _)) (fun _ => True) (by omega) z3 (fun _ _ => trivial))
  have cX := KX.out.cell 7 rfl
  have fX := KX.out.frozen 7
  have cN := KX.out.cell 8 rfl
  clear ho hgr hb S3 L3 K4 R4 B4
  go_wp2_with fail
  have K5 := Lib.hid (show Bx (w'.setCell ⟨G, 7, none⟩ (.slice A3 c.flds.length k3)) G [.int .i64 c.minor, .int .i64 c.major, .slice A1 c.pool.length k1, .int .i64 c.acc, .int .i64 c.this, .int .i64 c.sup, .slice A2 c.ifs.length k2, .slice A3 c.flds.length k3, .slice Am 0 km] 58 from KX.out.set 7 _)
  have R5 := Lib.hid (RX.out.set_other ⟨G, 7, none⟩ (.slice A3 c.flds.length k3) (by show G ≠ W.heap.size; omega))
  have B5 := Lib.hid (BX.out.setCell (p := ⟨G, 7, none⟩) (by show W.heap.size ≤ G; omega) (.slice A3 c.flds.length k3))
  have hz5 : W.heap.size + 2 ≤ (w'.setCell ⟨G, 7, none⟩ (.slice A3 c.flds.length k3)).heap.size := by simp; omega
  clear KX RX BX cX fX cN
  generalize w'.setCell ⟨G, 7, none⟩ (.slice A3 c.flds.length k3) = w5 at *
  clear hzX
  go_loopw [8, 38] (fun o i wr => o = .slice none 0 0 ∧ i = .int .i64 (0 : Nat) ∧ wr = w5) (fun _ _ _ => 0)
  case atStart => exact ⟨rfl, rfl, rfl⟩
  case round =>
    obtain ⟨rfl, rfl, rfl⟩ := hrel
    have f8 := K5.out.frozen 8
    have c8 := K5.out.cell 8 rfl
    have K6 := Lib.hid (show Bx (wr.setCell ⟨G, 8, none⟩ (.slice none 0 0)) G [.int .i64 c.minor, .int .i64 c.major, .slice A1 c.pool.length k1, .int .i64 c.acc, .int .i64 c.this, .int .i64 c.sup, .slice A2 c.ifs.length k2, .slice A3 c.flds.length k3, .slice none 0 0] 58 from K5.out.set 8 _)
    have R6 := Lib.hid (R5.out.set_other ⟨G, 8, none⟩ (.slice none 0 0) (by show G ≠ W.heap.size; omega))
    have B6 := Lib.hid (B5.out.setCell (p := ⟨G, 8, none⟩) (by show W.heap.size ≤ G; omega) (.slice none 0 0))
    clear K5 R5 B5
    go_wp2_with (first
      | (refine wpList_load_row rfl _ _ rfl G rfl _ _ _ _ K6.out Tryz.underlying58 rfl (by kernel_rfl) ?_)
      | (refine wpList_store_row rfl _ _ _ rfl W.heap.size _ rfl rfl _ _ R6.out (by kernel_rfl) rfl (by simp [Value.oneCell']) ?_))
    exact bodyPost_ret (results_two_cell rfl rfl rfl (R6.out.row [.int .i64 c.minor, .int .i64 c.major, .slice A1 c.pool.length k1, .int .i64 c.acc, .int .i64 c.this, .int .i64 c.sup, .slice A2 c.ifs.length k2, .slice A3 c.flds.length k3, .slice none 0 0]) rfl rfl (by kernel_rfl)) rfl ⟨[.int .i64 c.minor, .int .i64 c.major, .slice A1 c.pool.length k1, .int .i64 c.acc, .int .i64 c.this, .int .i64 c.sup, .slice A2 c.ifs.length k2, .slice A3 c.flds.length k3, .slice none 0 0], rfl, by simp [Value.oneCell'], rfl, below_row B6.out _ _ (Nat.le_refl _)⟩
end
end Go.Proofs.YtdbniocnjhfhdaaGreatDoor
