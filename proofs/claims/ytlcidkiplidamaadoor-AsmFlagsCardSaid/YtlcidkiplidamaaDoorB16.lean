/-
  What the laws rest on, part 16: walks of the program's functions and plain laws. Conditions: none but those that each theorem names.
-/
import Derived.Test.YtlcidkiplidamaaDoorB15
set_option linter.unusedSimpArgs false
set_option linter.unusedVariables false
set_option maxRecDepth 100000
set_option maxHeartbeats 2000000
namespace Go.Proofs.YtlcidkiplidamaaDoor
open Go Go.RowKit Lib Go.Maps
theorem meth1_any (x : MethV) (cv tv : Value) (p1 p2 : Nat) (b1 b2 : Bool) (w : World) (h1 : CapB w p1 (.bool b1)) (h2 : CapB w p2 (.bool b2)) (l1 : p1 < w.heap.size) (l2 : p2 < w.heap.size) :
    Calls Tryd.prog 72 #[methV x cv tv, .pointer (some ⟨p1, 0, none⟩), .pointer (some ⟨p2, 0, none⟩)] w fun e w' => e = .returned (.bool (!b1 || !b2)) ∧ Below w.heap.size w w' := by
  have k1 := h1.alloc l1 (.cells #[.int .i64 x.acc, .int .i64 x.name, .int .i64 x.desc, .bool x.has, .int .i64 x.stack, .int .i64 x.locals, cv, tv] 37)
  have k2 := h2.alloc l2 (.cells #[.int .i64 x.acc, .int .i64 x.name, .int .i64 x.desc, .bool x.has, .int .i64 x.stack, .int .i64 x.locals, cv, tv] 37)
  have HW := Lib.hid ((Below.refl w.heap.size w).alloc (Nat.le_refl _) (.cells #[.int .i64 x.acc, .int .i64 x.name, .int .i64 x.desc, .bool x.has, .int .i64 x.stack, .int .i64 x.locals, cv, tv] 37))
  unfold methV
  cases b1 <;> cases b2
  all_goals
    go_enter Tryd.func72, Tryd.ntmps72
    go_wp2_with fail
    go_ret
    exact ⟨rfl, HW.out⟩
theorem meth2_any (x : MethV) (cv tv : Value) (p1 : Nat) (s : ByteArray) (w : World) (h1 : CapB w p1 (.string s)) (l1 : p1 < w.heap.size) (hs : s.size ≤ 65536) :
    Calls Tryd.prog 73 #[methV x cv tv, .pointer (some ⟨p1, 0, none⟩)] w fun e w' => e = .returned (.bool (!methodNB s.data.toList)) ∧ Below w.heap.size w w' := by
  have k1 := h1.alloc l1 (.cells #[.int .i64 x.acc, .int .i64 x.name, .int .i64 x.desc, .bool x.has, .int .i64 x.stack, .int .i64 x.locals, cv, tv] 37)
  have HW := Lib.hid ((Below.refl w.heap.size w).alloc (Nat.le_refl _) (.cells #[.int .i64 x.acc, .int .i64 x.name, .int .i64 x.desc, .bool x.has, .int .i64 x.stack, .int .i64 x.locals, cv, tv] 37))
  have C := Lib.hid (fun W => dmethod_any s W (by omega))
  unfold methV
  go_enter Tryd.func73, Tryd.ntmps73
  go_wp2_with (go_at_call 50; refine (C.out _).mono ?_; rintro e w1 ⟨rfl, hb⟩; have HB := Lib.hid (HW.out.trans (hb.mono (by simp))); clear hb)
  go_ret
  exact ⟨rfl, HB.out⟩
theorem meth3_any (x : MethV) (cv tv : Value) (p1 : Nat) (b1 : Bool) (w : World) (h1 : CapB w p1 (.bool b1)) (l1 : p1 < w.heap.size) :
    Calls Tryd.prog 74 #[methV x cv tv, .pointer (some ⟨p1, 0, none⟩)] w fun e w' => e = .returned (.bool (!b1)) ∧ Below w.heap.size w w' := by
  have k1 := h1.alloc l1 (.cells #[.int .i64 x.acc, .int .i64 x.name, .int .i64 x.desc, .bool x.has, .int .i64 x.stack, .int .i64 x.locals, cv, tv] 37)
  have HW := Lib.hid ((Below.refl w.heap.size w).alloc (Nat.le_refl _) (.cells #[.int .i64 x.acc, .int .i64 x.name, .int .i64 x.desc, .bool x.has, .int .i64 x.stack, .int .i64 x.locals, cv, tv] 37))
  unfold methV
  cases b1
  all_goals
    go_enter Tryd.func74, Tryd.ntmps74
    go_wp2_with fail
    go_ret
    exact ⟨rfl, HW.out⟩
def mthRet (nm ret d : List UInt8) : Bool := (nm == initL && !(ret == [86])) || (nm == clinitL && !(d == [40, 41, 86]))
theorem meth5_any (x : MethV) (cv tv : Value) (p1 p2 p3 : Nat) (nm ret d : ByteArray) (w : World) (h1 : CapB w p1 (.string nm)) (h2 : CapB w p2 (.string ret)) (h3 : CapB w p3 (.string d)) (l1 : p1 < w.heap.size) (l2 : p2 < w.heap.size) (l3 : p3 < w.heap.size) :
    Calls Tryd.prog 77 #[methV x cv tv, .pointer (some ⟨p1, 0, none⟩), .pointer (some ⟨p2, 0, none⟩), .pointer (some ⟨p3, 0, none⟩)] w fun e w' => e = .returned (.bool (mthRet nm.data.toList ret.data.toList d.data.toList)) ∧ Below w.heap.size w w' := by
  have k1 := h1.alloc l1 (.cells #[.int .i64 x.acc, .int .i64 x.name, .int .i64 x.desc, .bool x.has, .int .i64 x.stack, .int .i64 x.locals, cv, tv] 37)
  have k2 := h2.alloc l2 (.cells #[.int .i64 x.acc, .int .i64 x.name, .int .i64 x.desc, .bool x.has, .int .i64 x.stack, .int .i64 x.locals, cv, tv] 37)
  have k3 := h3.alloc l3 (.cells #[.int .i64 x.acc, .int .i64 x.name, .int .i64 x.desc, .bool x.has, .int .i64 x.stack, .int .i64 x.locals, cv, tv] 37)
  have HW := Lib.hid ((Below.refl w.heap.size w).alloc (Nat.le_refl _) (.cells #[.int .i64 x.acc, .int .i64 x.name, .int .i64 x.desc, .bool x.has, .int .i64 x.stack, .int .i64 x.locals, cv, tv] 37))
  obtain ⟨b1, hb1⟩ : ∃ m, m = (nm.data.toList == initL) := ⟨_, rfl⟩
  obtain ⟨b2, hb2⟩ : ∃ m, m = (nm.data.toList == clinitL) := ⟨_, rfl⟩
  obtain ⟨b3, hb3⟩ : ∃ m, m = (ret.data.toList == [86]) := ⟨_, rfl⟩
  obtain ⟨b4, hb4⟩ : ∃ m, m = (d.data.toList == [40, 41, 86]) := ⟨_, rfl⟩
  have e1 : (nm.toList == [60, 105, 110, 105, 116, 62]) = b1 := by rw [ByteArray.toList_eq, hb1]; rfl
  have e2 : (nm.toList == [60, 99, 108, 105, 110, 105, 116, 62]) = b2 := by rw [ByteArray.toList_eq, hb2]; rfl
  have e3 : (ret.toList == [86]) = b3 := by rw [ByteArray.toList_eq, hb3]
  have e4 : (d.toList == [40, 41, 86]) = b4 := by rw [ByteArray.toList_eq, hb4]
  have HR := Lib.hid (show mthRet nm.data.toList ret.data.toList d.data.toList = ((b1 && !b3) || (b2 && !b4)) by unfold mthRet; rw [hb1, hb2, hb3, hb4])
  rw [HR.out]
  clear hb1 hb2 hb3 hb4 HR h1 h2 h3
  unfold methV
  cases b1 <;> cases b2 <;> cases b3 <;> cases b4
  all_goals
    go_enter Tryd.func77, Tryd.ntmps77
    go_wp2_with fail
    go_ret
    exact ⟨by simp, HW.out⟩
theorem meth6_any (x : MethV) (cv tv : Value) (p1 p2 p3 b : Nat) (nm d : ByteArray) (seen : List NmD) (w : World) (h1 : CapB w p1 (.map (some b))) (h2 : CapB w p2 (.string nm)) (h3 : CapB w p3 (.string d)) (l1 : p1 < w.heap.size) (l2 : p2 < w.heap.size) (l3 : p3 < w.heap.size) (hs2 : nm.size ≤ 65536) (hs3 : d.size ≤ 65536) (hlen : seen.length ≤ 1048576) (hS : SeenM w b seen) :
    Calls Tryd.prog 78 #[methV x cv tv, .pointer (some ⟨p1, 0, none⟩), .pointer (some ⟨p2, 0, none⟩), .pointer (some ⟨p3, 0, none⟩)] w fun e w' => e = .returned (.bool (decide ((nm.data.toList, d.data.toList) ∈ seen))) ∧ But w.heap.size [b] w w' ∧ SeenM w' b ((nm.data.toList, d.data.toList) :: seen) := by
  obtain ⟨es, clock, hm, hg⟩ := hS
  have lb : b < w.heap.size := (Array.getElem?_eq_some_iff.1 hm).1
  have HW := Lib.hid ((Below.refl w.heap.size w).alloc (Nat.le_refl _) (.cells #[.int .i64 x.acc, .int .i64 x.name, .int .i64 x.desc, .bool x.has, .int .i64 x.stack, .int .i64 x.locals, cv, tv] 37))
  have k1 := (h1.alloc l1 (.cells #[.int .i64 x.acc, .int .i64 x.name, .int .i64 x.desc, .bool x.has, .int .i64 x.stack, .int .i64 x.locals, cv, tv] 37))
  have k2 := (h2.alloc l2 (.cells #[.int .i64 x.acc, .int .i64 x.name, .int .i64 x.desc, .bool x.has, .int .i64 x.stack, .int .i64 x.locals, cv, tv] 37))
  have k3 := (h3.alloc l3 (.cells #[.int .i64 x.acc, .int .i64 x.name, .int .i64 x.desc, .bool x.has, .int .i64 x.stack, .int .i64 x.locals, cv, tv] 37))
  have hm0 : (w.alloc (.cells #[.int .i64 x.acc, .int .i64 x.name, .int .i64 x.desc, .bool x.has, .int .i64 x.stack, .int .i64 x.locals, cv, tv] 37)).heap[b]? = some (.map es clock) := (Below.heap_alloc _ _ _ lb).trans hm
  obtain ⟨q, hq⟩ : ∃ q : NmD, q = (nm.data.toList, d.data.toList) := ⟨_, rfl⟩
  have hkv : keyV q = .agg #[.string nm, .string d] := by rw [hq]; rfl
  have hsq : SmallK q := by rw [hq]; exact ⟨Nat.le_trans (Nat.le_of_eq Array.length_toList) hs2, Nat.le_trans (Nat.le_of_eq Array.length_toList) hs3⟩
  rw [← hq]
  obtain ⟨n, hn⟩ : ∃ n, seen.count q = n := ⟨_, rfl⟩
  have hn0 : q ∉ seen → n = 0 := fun h => by rw [← hn]; exact List.count_eq_zero.2 h
  have hnl : n ≤ 1048576 := by rw [← hn]; exact Nat.le_trans List.count_le_length hlen
  have hdec : decide (q ∈ seen) = decide (1 < n + 1) := by
    by_cases hin : q ∈ seen
    · have : 0 < seen.count q := List.count_pos_iff.2 hin
      rw [decide_eq_true hin, decide_eq_true (by omega)]
    · have := hn0 hin
      rw [decide_eq_false hin, decide_eq_false (by omega)]
  have HG := Lib.hid hg
  have HD := Lib.hid hdec
  have HKV := Lib.hid hkv
  clear hg h1 h2 h3 hm hdec
  unfold methV
  go_enter Tryd.func78, Tryd.ntmps78
  go_wp2_with fail
  have hbx := HW.out.size
  have hld : Below (w.alloc (.cells #[.int .i64 x.acc, .int .i64 x.name, .int .i64 x.desc, .bool x.has, .int .i64 x.stack, .int .i64 x.locals, cv, tv] 37)).heap.size (w.alloc (.cells #[.int .i64 x.acc, .int .i64 x.name, .int .i64 x.desc, .bool x.has, .int .i64 x.stack, .int .i64 x.locals, cv, tv] 37)) (w.alloc (.cells #[.int .i64 x.acc, .int .i64 x.name, .int .i64 x.desc, .bool x.has, .int .i64 x.stack, .int .i64 x.locals, cv, tv] 37)).drew := (Below.refl _ _).drew
  refine wp_region_held_drew (S := fun w' => w'.cell? ⟨p1, 0, none⟩ = some (.map (some b)) ∧ w'.cell? ⟨p2, 0, none⟩ = some (.string nm) ∧ w'.cell? ⟨p3, 0, none⟩ = some (.string d)) rfl ⟨k1, k2, k3⟩ (fun hS => ?_)
  have HWD := Lib.hid (HW.out.trans (hld.mono (by simp)))
  have hmd : (w.alloc (.cells #[.int .i64 x.acc, .int .i64 x.name, .int .i64 x.desc, .bool x.has, .int .i64 x.stack, .int .i64 x.locals, cv, tv] 37)).drew.heap[b]? = some (.map es clock) := hm0
  have hzd : (w.alloc (.cells #[.int .i64 x.acc, .int .i64 x.name, .int .i64 x.desc, .bool x.has, .int .i64 x.stack, .int .i64 x.locals, cv, tv] 37)).drew.heap.size = w.heap.size + 1 := by show (w.alloc _).heap.size = _; simp
  clear hm0 hld hbx HW k1 k2 k3
  generalize (w.alloc (.cells #[.int .i64 x.acc, .int .i64 x.name, .int .i64 x.desc, .bool x.has, .int .i64 x.stack, .int .i64 x.locals, cv, tv] 37)).drew = wa at *
  have hlk := look_seen hmd HG.out q hsq (fun h => by show seen.count q = 0; exact List.count_eq_zero.2 h)
  obtain ⟨es1, clock1, born, hen, hg1, hat⟩ := entry_seen hmd HG.out q hsq (fun h => by show seen.count q = 0; exact List.count_eq_zero.2 h)
  simp only [hn] at hlk hen
  have hm1 : (wa.putObj b (.map es1 clock1)).heap[b]? = some (.map es1 clock1) := World.putObj_heap_same (by omega)
  have hlk1 := look_seen hm1 hg1 q hsq (fun h => absurd (by simp) h)
  simp only [hn] at hlk1
  obtain ⟨es2, hst, hg2⟩ := store_seen hm1 hg1 q born (n + 1) (by simp) hat (fun x => (q :: seen).count x) (by simp [hn]) (fun x hx => by rw [List.count_cons_of_ne (fun e => hx e.symm)])
  have hm2 : ((wa.putObj b (.map es1 clock1)).putObj b (.map es2 clock1)).heap[b]? = some (.map es2 clock1) := World.putObj_heap_same (by simp; omega)
  have hlk2 := look_seen hm2 hg2 q hsq (fun h => absurd (by simp) h)
  simp only [List.count_cons_self, hn] at hlk2
  rw [show ((n + 1 : Nat) : Int) = (n : Int) + 1 from rfl] at hlk2 hst
  have gr1 := grownBy_putObj' wa b (.map es1 clock1)
  have gr2 := grownBy_putObj' (wa.putObj b (.map es1 clock1)) b (.map es2 clock1)
  have nc1 : ∀ r, some b = some r → ∃ o : Obj, wa.heap[r]? = some o ∧ o.isCells = false := fun r e => by cases e; exact ⟨_, hmd, rfl⟩
  have nc2 : ∀ r, some b = some r → ∃ o : Obj, (wa.putObj b (.map es1 clock1)).heap[r]? = some o ∧ o.isCells = false := fun r e => by cases e; exact ⟨_, hm1, rfl⟩
  have hS1 := And.intro (cell_kept hS.1 gr1 nc1) (And.intro (cell_kept hS.2.1 gr1 nc1) (cell_kept hS.2.2 gr1 nc1))
  have hS2 := And.intro (cell_kept hS1.1 gr2 nc2) (And.intro (cell_kept hS1.2.1 gr2 nc2) (cell_kept hS1.2.2 gr2 nc2))
  have HB2 := Lib.hid (show But w.heap.size [b] w ((wa.putObj b (.map es1 clock1)).putObj b (.map es2 clock1)) from ((But.of_below (S := [b]) HWD.out).grown gr1 (by omega) (fun k hk => .inl (by injection hk with hk; simp [hk]))).grown gr2 (by simp; omega) (fun k hk => .inl (by injection hk with hk; simp [hk])))
  have HM2 := Lib.hid (show SeenM ((wa.putObj b (.map es1 clock1)).putObj b (.map es2 clock1)) b (q :: seen) from ⟨es2, clock1, hm2, hg2⟩)
  rw [hkv] at hlk hen hlk1 hlk2
  clear hm1 hm2 gr1 gr2 nc1 nc2 hg1 hg2 hat hmd
  generalize wa.putObj b (.map es1 clock1) = wb at *
  generalize wb.putObj b (.map es2 clock1) = wc at *
  refine wpAnyH_take (i := 0) (oi := { dst := some 6, op := Op.load 70 (Operand.tmp 1), type := 70, pos := "check.go:251", after := #[], guard := none }) (v := .map (some b)) rfl (by kernel_rfl) (by kernel_rfl) (by kernel_rfl) (fun _ _ _ h => h) (Or.inl ⟨by rfl, fun w' hw' => ?_⟩) hS ?_
  · obtain ⟨z1, z2, z3⟩ := hw'
    go_simp
  try simp only [Act.put, List.setIfInBounds_toArray, List.set_cons_zero, List.set_cons_succ]
  refine wpAnyH_take (i := 1) (oi := { dst := some 7, op := Op.load 9 (Operand.tmp 2), type := 9, pos := "check.go:251", after := #[], guard := none }) (v := .string nm) rfl (by kernel_rfl) (by kernel_rfl) (by kernel_rfl) (fun _ _ _ h => h) (Or.inl ⟨by rfl, fun w' hw' => ?_⟩) hS ?_
  · obtain ⟨z1, z2, z3⟩ := hw'
    go_simp
  try simp only [Act.put, List.setIfInBounds_toArray, List.set_cons_zero, List.set_cons_succ]
  refine wpAnyH_take (i := 2) (oi := { dst := some 8, op := Op.load 9 (Operand.tmp 3), type := 9, pos := "check.go:251", after := #[], guard := none }) (v := .string d) rfl (by kernel_rfl) (by kernel_rfl) (by kernel_rfl) (fun _ _ _ h => h) (Or.inl ⟨by rfl, fun w' hw' => ?_⟩) hS ?_
  · obtain ⟨z1, z2, z3⟩ := hw'
    go_simp
  try simp only [Act.put, List.setIfInBounds_toArray, List.set_cons_zero, List.set_cons_succ]
  refine wpAnyH_take (i := 3) (v := .agg #[.string nm, .string d]) rfl (by kernel_rfl) (by kernel_rfl) (by kernel_rfl) (fun _ _ _ h => h) (Or.inl ⟨by rfl, fun w' hw' => ?_⟩) hS ?_
  · go_simp
  try simp only [Act.put, List.setIfInBounds_toArray, List.set_cons_zero, List.set_cons_succ]
  refine wpAnyH_ready (rs := [4, 6]) (by kernel_rfl) (by simp) ?_
  refine AllReadyH.cons rfl (fun K hK => ?_) (AllReadyH.cons rfl (fun K hK => ?_) AllReadyH.nil)
  · refine if_yes (by rfl) ?_
    go_wp2
    refine hK.out _ _ hS (fun _ => ?_)
    clear hK K
    try simp only [Act.put, List.setIfInBounds_toArray, List.set_cons_zero, List.set_cons_succ]
    refine wpAnyH_take (i := 5) (v := .int .i64 ((n : Int) + 1)) rfl (by kernel_rfl) (by kernel_rfl) (by kernel_rfl) (fun _ _ _ h => h) (Or.inl ⟨by rfl, fun w' hw' => ?_⟩) hS ?_
    · go_simp
      try exact wrap_small n hnl
    try simp only [Act.put, List.setIfInBounds_toArray, List.set_cons_zero, List.set_cons_succ]
    refine wpAnyH_ready (rs := [6]) (by kernel_rfl) (by simp) ?_
    refine AllReadyH.cons rfl (fun K hK => ?_) AllReadyH.nil
    refine if_yes (by rfl) ?_
    go_wp2
    refine hK.out _ _ hS1 (fun _ => ?_)
    clear hK K
    try simp only [Act.put, List.setIfInBounds_toArray, List.set_cons_zero, List.set_cons_succ]
    refine wpAnyH_take (i := 7) (v := .int .i64 (born : Nat)) rfl (by kernel_rfl) (by kernel_rfl) (by kernel_rfl) (fun _ _ _ h => h) (Or.inl ⟨by rfl, fun w' hw' => ?_⟩) hS1 ?_
    · go_simp
    try simp only [Act.put, List.setIfInBounds_toArray, List.set_cons_zero, List.set_cons_succ]
    refine wpAnyH_ready (rs := [8]) (by kernel_rfl) (by simp) ?_
    refine AllReadyH.cons rfl (fun K hK => ?_) AllReadyH.nil
    refine if_yes (by rfl) ?_
    go_wp2
    refine hK.out _ _ hS2 (fun _ => ?_)
    clear hK K
    try simp only [Act.put, List.setIfInBounds_toArray, List.set_cons_zero, List.set_cons_succ]
    refine wpAnyH_done (by kernel_rfl) ?_ _
    obtain ⟨z1, z2, z3⟩ := hS2
    have hgt : decide ((n : Int) + 1 > 1) = decide (1 < n + 1) := by
      by_cases h : 1 < n + 1
      · rw [decide_eq_true h, decide_eq_true (by omega)]
      · rw [decide_eq_false h, decide_eq_false (by omega)]
    go_wp2
    go_ret
    exact ⟨by rw [HD.out]; simp, HB2.out, HM2.out⟩
  · refine if_yes (by rfl) ?_
    go_wp2
    refine hK.out _ _ hS1 (fun _ => ?_)
    clear hK K
    try simp only [Act.put, List.setIfInBounds_toArray, List.set_cons_zero, List.set_cons_succ]
    refine wpAnyH_take (i := 7) (v := .int .i64 (born : Nat)) rfl (by kernel_rfl) (by kernel_rfl) (by kernel_rfl) (fun _ _ _ h => h) (Or.inl ⟨by rfl, fun w' hw' => ?_⟩) hS1 ?_
    · go_simp
    try simp only [Act.put, List.setIfInBounds_toArray, List.set_cons_zero, List.set_cons_succ]
    refine wpAnyH_ready (rs := [4]) (by kernel_rfl) (by simp) ?_
    refine AllReadyH.cons rfl (fun K hK => ?_) AllReadyH.nil
    refine if_yes (by rfl) ?_
    go_wp2
    refine hK.out _ _ hS1 (fun _ => ?_)
    clear hK K
    try simp only [Act.put, List.setIfInBounds_toArray, List.set_cons_zero, List.set_cons_succ]
    refine wpAnyH_take (i := 5) (v := .int .i64 ((n : Int) + 1)) rfl (by kernel_rfl) (by kernel_rfl) (by kernel_rfl) (fun _ _ _ h => h) (Or.inl ⟨by rfl, fun w' hw' => ?_⟩) hS1 ?_
    · go_simp
      try exact wrap_small n hnl
    try simp only [Act.put, List.setIfInBounds_toArray, List.set_cons_zero, List.set_cons_succ]
    refine wpAnyH_ready (rs := [8]) (by kernel_rfl) (by simp) ?_
    refine AllReadyH.cons rfl (fun K hK => ?_) AllReadyH.nil
    refine if_yes (by rfl) ?_
    go_wp2
    refine hK.out _ _ hS2 (fun _ => ?_)
    clear hK K
    try simp only [Act.put, List.setIfInBounds_toArray, List.set_cons_zero, List.set_cons_succ]
    refine wpAnyH_done (by kernel_rfl) ?_ _
    obtain ⟨z1, z2, z3⟩ := hS2
    have hgt : decide ((n : Int) + 1 > 1) = decide (1 < n + 1) := by
      by_cases h : 1 < n + 1
      · rw [decide_eq_true h, decide_eq_true (by omega)]
      · rw [decide_eq_false h, decide_eq_false (by omega)]
    go_wp2
    go_ret
    exact ⟨by rw [HD.out]; simp, HB2.out, HM2.out⟩
end Go.Proofs.YtlcidkiplidamaaDoor
set_option maxRecDepth 100000
set_option maxHeartbeats 4000000
namespace Go.Proofs.YtlcidkiplidamaaDoor
open Go Go.RowKit Lib
def mflags (cacc a : Int) (nm : List UInt8) : Bool :=
  if someB a 256 = true then true else if 1 < kindsN a then true else if (someB a 1024 && someB a 26) = true then true else
  if (someB cacc 512 && (!someB a 3 || someB a 16)) = true then true else
  if (nm == initL) = true then someB a 1032 || someB cacc 512 else if (nm == clinitL) = true then !someB a 8 || someB a 1024 else false
theorem mflags_any (x : MethV) (cv tv : Value) (c : ClassV) (pool ifs flds mths : Value) (nm : ByteArray) (w : World) :
    Calls Tryd.prog 76 #[bookV c pool ifs flds mths, methV x cv tv, .string nm] w fun e w' => e = .returned (.bool (mflags c.acc x.acc nm.data.toList)) ∧ Below w.heap.size w w' := by
  have HW0 := Lib.hid (((Below.refl w.heap.size w).alloc (Nat.le_refl _) (.cells #[.int .i64 c.minor, .int .i64 c.major, pool, .int .i64 c.acc, .int .i64 c.this, .int .i64 c.sup, ifs, flds, mths] 69)).alloc (by simp) (.cells #[.int .i64 x.acc, .int .i64 x.name, .int .i64 x.desc, .bool x.has, .int .i64 x.stack, .int .i64 x.locals, cv, tv] 37))
  have hzW : w.heap.size ≤ ((w.alloc (.cells #[.int .i64 c.minor, .int .i64 c.major, pool, .int .i64 c.acc, .int .i64 c.this, .int .i64 c.sup, ifs, flds, mths] 69)).alloc (.cells #[.int .i64 x.acc, .int .i64 x.name, .int .i64 x.desc, .bool x.has, .int .i64 x.stack, .int .i64 x.locals, cv, tv] 37)).heap.size := by simp <;> omega
  have HW := Lib.hid (fun m => HW0.out.trans ((below_drewN (Below.refl ((w.alloc (.cells #[.int .i64 c.minor, .int .i64 c.major, pool, .int .i64 c.acc, .int .i64 c.this, .int .i64 c.sup, ifs, flds, mths] 69)).alloc (.cells #[.int .i64 x.acc, .int .i64 x.name, .int .i64 x.desc, .bool x.has, .int .i64 x.stack, .int .i64 x.locals, cv, tv] 37)).heap.size ((w.alloc (.cells #[.int .i64 c.minor, .int .i64 c.major, pool, .int .i64 c.acc, .int .i64 c.this, .int .i64 c.sup, ifs, flds, mths] 69)).alloc (.cells #[.int .i64 x.acc, .int .i64 x.name, .int .i64 x.desc, .bool x.has, .int .i64 x.stack, .int .i64 x.locals, cv, tv] 37))) m).mono hzW))
  have X0 := Lib.hid ((bx_new w [.int .i64 c.minor, .int .i64 c.major, pool, .int .i64 c.acc, .int .i64 c.this, .int .i64 c.sup, ifs, flds, mths] 69).below ((Below.refl _ _).alloc (Nat.le_refl _) (.cells #[.int .i64 x.acc, .int .i64 x.name, .int .i64 x.desc, .bool x.has, .int .i64 x.stack, .int .i64 x.locals, cv, tv] 37)) (by simp))
  have F0 := Lib.hid (bx_new_at (w.alloc (.cells #[.int .i64 c.minor, .int .i64 c.major, pool, .int .i64 c.acc, .int .i64 c.this, .int .i64 c.sup, ifs, flds, mths] 69)) [.int .i64 x.acc, .int .i64 x.name, .int .i64 x.desc, .bool x.has, .int .i64 x.stack, .int .i64 x.locals, cv, tv] 37 (w.heap.size + 1) (by simp))
  have xc := X0.out.cell 3 rfl
  have fc := F0.out.cell 0 rfl
  obtain ⟨a, ha⟩ : ∃ a, x.acc = a := ⟨_, rfl⟩
  obtain ⟨n, hn⟩ : ∃ n, kindsN a = n := ⟨_, rfl⟩
  have C1 := Lib.hid (kinds_cnt a)
  rw [hn] at C1
  obtain ⟨b1, hb1⟩ : ∃ m, m = (nm.data.toList == initL) := ⟨_, rfl⟩
  obtain ⟨b2, hb2⟩ : ∃ m, m = (nm.data.toList == clinitL) := ⟨_, rfl⟩
  have e1 : (nm.toList == [60, 105, 110, 105, 116, 62]) = b1 := by rw [ByteArray.toList_eq, hb1]; rfl
  have e2 : (nm.toList == [60, 99, 108, 105, 110, 105, 116, 62]) = b2 := by rw [ByteArray.toList_eq, hb2]; rfl
  have HR := Lib.hid (show mflags c.acc x.acc nm.data.toList = if someB a 256 = true then true else if 1 < n then true else if (someB a 1024 && someB a 26) = true then true else
    if (someB c.acc 512 && (!someB a 3 || someB a 16)) = true then true else
    if b1 = true then someB a 1032 || someB c.acc 512 else if b2 = true then !someB a 8 || someB a 1024 else false by unfold mflags; rw [ha, hn, ← hb1, ← hb2])
  rw [HR.out]
  clear hn hb1 hb2 HR
  unfold methV
  rw [bookV_open]
  rw [ha] at HW HW0 hzW X0 F0 fc ⊢
  have S256 := Lib.hid (fun W => some_any a 256 W)
  obtain ⟨v256, hv256⟩ : ∃ v, someB a 256 = v := ⟨_, rfl⟩
  rw [hv256] at S256 ⊢
  clear hv256
  have S1024 := Lib.hid (fun W => some_any a 1024 W)
  obtain ⟨v1024, hv1024⟩ : ∃ v, someB a 1024 = v := ⟨_, rfl⟩
  rw [hv1024] at S1024 ⊢
  clear hv1024
  have S26 := Lib.hid (fun W => some_any a 26 W)
  obtain ⟨v26, hv26⟩ : ∃ v, someB a 26 = v := ⟨_, rfl⟩
  rw [hv26] at S26 ⊢
  clear hv26
  have S512 := Lib.hid (fun W => some_any c.acc 512 W)
  obtain ⟨v512, hv512⟩ : ∃ v, someB c.acc 512 = v := ⟨_, rfl⟩
  rw [hv512] at S512 ⊢
  clear hv512
  have S3 := Lib.hid (fun W => some_any a 3 W)
  obtain ⟨v3, hv3⟩ : ∃ v, someB a 3 = v := ⟨_, rfl⟩
  rw [hv3] at S3 ⊢
  clear hv3
  have S16 := Lib.hid (fun W => some_any a 16 W)
  obtain ⟨v16, hv16⟩ : ∃ v, someB a 16 = v := ⟨_, rfl⟩
  rw [hv16] at S16 ⊢
  clear hv16
  have S1032 := Lib.hid (fun W => some_any a 1032 W)
  obtain ⟨v1032, hv1032⟩ : ∃ v, someB a 1032 = v := ⟨_, rfl⟩
  rw [hv1032] at S1032 ⊢
  clear hv1032
  have S8 := Lib.hid (fun W => some_any a 8 W)
  obtain ⟨v8, hv8⟩ : ∃ v, someB a 8 = v := ⟨_, rfl⟩
  rw [hv8] at S8 ⊢
  clear hv8
  have SQ := Lib.hid (fun m : Nat => (S512.out ((((w.alloc (.cells #[.int .i64 c.minor, .int .i64 c.major, pool, .int .i64 c.acc, .int .i64 c.this, .int .i64 c.sup, ifs, flds, mths] 69)).alloc (.cells #[.int .i64 a, .int .i64 x.name, .int .i64 x.desc, .bool x.has, .int .i64 x.stack, .int .i64 x.locals, cv, tv] 37))).drewN m)).mono (R' := fun e w' => e = .returned (.bool v512) ∧ w' = (((w.alloc (.cells #[.int .i64 c.minor, .int .i64 c.major, pool, .int .i64 c.acc, .int .i64 c.this, .int .i64 c.sup, ifs, flds, mths] 69)).alloc (.cells #[.int .i64 a, .int .i64 x.name, .int .i64 x.desc, .bool x.has, .int .i64 x.stack, .int .i64 x.locals, cv, tv] 37))).drewN m) fun e w' hq => ⟨hq.1, hq.2.symm⟩)
  cases v256 with
  | true =>
    go_enter Tryd.func76, Tryd.ntmps76
    go_wp2_with fail
    go_quiet ((go_at_call 60; exact Calls.quiet_of_same (SQ.out _)))
    all_goals
      go_wp2_with (first | (go_at_call 68; (with_reducible refine (C1.out _).mono ?_); rintro e w1 ⟨rfl, hb⟩; have HB := Lib.hid ((HW.out _).trans (hb.mono (by simp <;> omega))); clear hb) | (go_at_call 60; (with_reducible refine (S256.out _).mono ?_); rintro e w2 ⟨rfl, rfl⟩) | (go_at_call 60; (with_reducible refine (S1024.out _).mono ?_); rintro e w2 ⟨rfl, rfl⟩) | (go_at_call 60; (with_reducible refine (S26.out _).mono ?_); rintro e w2 ⟨rfl, rfl⟩) | (go_at_call 60; (with_reducible refine (S512.out _).mono ?_); rintro e w2 ⟨rfl, rfl⟩) | (go_at_call 60; (with_reducible refine (S3.out _).mono ?_); rintro e w2 ⟨rfl, rfl⟩) | (go_at_call 60; (with_reducible refine (S16.out _).mono ?_); rintro e w2 ⟨rfl, rfl⟩) | (go_at_call 60; (with_reducible refine (S1032.out _).mono ?_); rintro e w2 ⟨rfl, rfl⟩) | (go_at_call 60; (with_reducible refine (S8.out _).mono ?_); rintro e w2 ⟨rfl, rfl⟩))
      go_ret
      exact ⟨by simp, HW.out _⟩
  | false =>
    by_cases h1n : 1 < n
    · have d1 : decide ((n : Int) > 1) = true := by simp; omega
      rw [if_pos h1n]
      go_enter Tryd.func76, Tryd.ntmps76
      go_wp2_with fail
      go_quiet ((go_at_call 60; exact Calls.quiet_of_same (SQ.out _)))
      all_goals
        go_wp2_with (first | (go_at_call 68; (with_reducible refine (C1.out _).mono ?_); rintro e w1 ⟨rfl, hb⟩; have HB := Lib.hid ((HW.out _).trans (hb.mono (by simp <;> omega))); clear hb) | (go_at_call 60; (with_reducible refine (S256.out _).mono ?_); rintro e w2 ⟨rfl, rfl⟩) | (go_at_call 60; (with_reducible refine (S1024.out _).mono ?_); rintro e w2 ⟨rfl, rfl⟩) | (go_at_call 60; (with_reducible refine (S26.out _).mono ?_); rintro e w2 ⟨rfl, rfl⟩) | (go_at_call 60; (with_reducible refine (S512.out _).mono ?_); rintro e w2 ⟨rfl, rfl⟩) | (go_at_call 60; (with_reducible refine (S3.out _).mono ?_); rintro e w2 ⟨rfl, rfl⟩) | (go_at_call 60; (with_reducible refine (S16.out _).mono ?_); rintro e w2 ⟨rfl, rfl⟩) | (go_at_call 60; (with_reducible refine (S1032.out _).mono ?_); rintro e w2 ⟨rfl, rfl⟩) | (go_at_call 60; (with_reducible refine (S8.out _).mono ?_); rintro e w2 ⟨rfl, rfl⟩))
        go_ret
        exact ⟨by simp, HB.out⟩
    · have d1 : decide ((n : Int) > 1) = false := by simp; omega
      rw [if_neg h1n]
      cases v1024 with
      | true =>
        cases v26 with
        | true =>
          go_enter Tryd.func76, Tryd.ntmps76
          go_wp2_with fail
          go_quiet ((go_at_call 60; exact Calls.quiet_of_same (SQ.out _)))
          all_goals
            go_wp2_with (first | (go_at_call 68; (with_reducible refine (C1.out _).mono ?_); rintro e w1 ⟨rfl, hb⟩; have HB := Lib.hid ((HW.out _).trans (hb.mono (by simp <;> omega))); clear hb) | (go_at_call 60; (with_reducible refine (S256.out _).mono ?_); rintro e w2 ⟨rfl, rfl⟩) | (go_at_call 60; (with_reducible refine (S1024.out _).mono ?_); rintro e w2 ⟨rfl, rfl⟩) | (go_at_call 60; (with_reducible refine (S26.out _).mono ?_); rintro e w2 ⟨rfl, rfl⟩) | (go_at_call 60; (with_reducible refine (S512.out _).mono ?_); rintro e w2 ⟨rfl, rfl⟩) | (go_at_call 60; (with_reducible refine (S3.out _).mono ?_); rintro e w2 ⟨rfl, rfl⟩) | (go_at_call 60; (with_reducible refine (S16.out _).mono ?_); rintro e w2 ⟨rfl, rfl⟩) | (go_at_call 60; (with_reducible refine (S1032.out _).mono ?_); rintro e w2 ⟨rfl, rfl⟩) | (go_at_call 60; (with_reducible refine (S8.out _).mono ?_); rintro e w2 ⟨rfl, rfl⟩))
            go_ret
            exact ⟨by simp, HB.out⟩
        | false =>
          cases v512 with
          | true =>
            cases v3 with
            | true =>
              cases v16 with
              | true =>
                go_enter Tryd.func76, Tryd.ntmps76
                go_wp2_with fail
                go_quiet ((go_at_call 60; exact Calls.quiet_of_same (SQ.out _)))
                all_goals
                  go_wp2_with (first | (go_at_call 68; (with_reducible refine (C1.out _).mono ?_); rintro e w1 ⟨rfl, hb⟩; have HB := Lib.hid ((HW.out _).trans (hb.mono (by simp <;> omega))); clear hb) | (go_at_call 60; (with_reducible refine (S256.out _).mono ?_); rintro e w2 ⟨rfl, rfl⟩) | (go_at_call 60; (with_reducible refine (S1024.out _).mono ?_); rintro e w2 ⟨rfl, rfl⟩) | (go_at_call 60; (with_reducible refine (S26.out _).mono ?_); rintro e w2 ⟨rfl, rfl⟩) | (go_at_call 60; (with_reducible refine (S512.out _).mono ?_); rintro e w2 ⟨rfl, rfl⟩) | (go_at_call 60; (with_reducible refine (S3.out _).mono ?_); rintro e w2 ⟨rfl, rfl⟩) | (go_at_call 60; (with_reducible refine (S16.out _).mono ?_); rintro e w2 ⟨rfl, rfl⟩) | (go_at_call 60; (with_reducible refine (S1032.out _).mono ?_); rintro e w2 ⟨rfl, rfl⟩) | (go_at_call 60; (with_reducible refine (S8.out _).mono ?_); rintro e w2 ⟨rfl, rfl⟩))
                  go_ret
                  exact ⟨by simp, HB.out⟩
              | false =>
                cases b1 with
                | true =>
                  cases v1032
                  all_goals
                    go_enter Tryd.func76, Tryd.ntmps76
                    go_wp2_with fail
                    go_quiet ((go_at_call 60; exact Calls.quiet_of_same (SQ.out _)))
                    all_goals
                      go_wp2_with (first | (go_at_call 68; (with_reducible refine (C1.out _).mono ?_); rintro e w1 ⟨rfl, hb⟩; have HB := Lib.hid ((HW.out _).trans (hb.mono (by simp <;> omega))); clear hb) | (go_at_call 60; (with_reducible refine (S256.out _).mono ?_); rintro e w2 ⟨rfl, rfl⟩) | (go_at_call 60; (with_reducible refine (S1024.out _).mono ?_); rintro e w2 ⟨rfl, rfl⟩) | (go_at_call 60; (with_reducible refine (S26.out _).mono ?_); rintro e w2 ⟨rfl, rfl⟩) | (go_at_call 60; (with_reducible refine (S512.out _).mono ?_); rintro e w2 ⟨rfl, rfl⟩) | (go_at_call 60; (with_reducible refine (S3.out _).mono ?_); rintro e w2 ⟨rfl, rfl⟩) | (go_at_call 60; (with_reducible refine (S16.out _).mono ?_); rintro e w2 ⟨rfl, rfl⟩) | (go_at_call 60; (with_reducible refine (S1032.out _).mono ?_); rintro e w2 ⟨rfl, rfl⟩) | (go_at_call 60; (with_reducible refine (S8.out _).mono ?_); rintro e w2 ⟨rfl, rfl⟩))
                      go_ret
                      exact ⟨by simp, HB.out⟩
                | false =>
                  cases b2 with
                  | true =>
                    cases v8
                    all_goals
                      go_enter Tryd.func76, Tryd.ntmps76
                      go_wp2_with fail
                      go_quiet ((go_at_call 60; exact Calls.quiet_of_same (SQ.out _)))
                      all_goals
                        go_wp2_with (first | (go_at_call 68; (with_reducible refine (C1.out _).mono ?_); rintro e w1 ⟨rfl, hb⟩; have HB := Lib.hid ((HW.out _).trans (hb.mono (by simp <;> omega))); clear hb) | (go_at_call 60; (with_reducible refine (S256.out _).mono ?_); rintro e w2 ⟨rfl, rfl⟩) | (go_at_call 60; (with_reducible refine (S1024.out _).mono ?_); rintro e w2 ⟨rfl, rfl⟩) | (go_at_call 60; (with_reducible refine (S26.out _).mono ?_); rintro e w2 ⟨rfl, rfl⟩) | (go_at_call 60; (with_reducible refine (S512.out _).mono ?_); rintro e w2 ⟨rfl, rfl⟩) | (go_at_call 60; (with_reducible refine (S3.out _).mono ?_); rintro e w2 ⟨rfl, rfl⟩) | (go_at_call 60; (with_reducible refine (S16.out _).mono ?_); rintro e w2 ⟨rfl, rfl⟩) | (go_at_call 60; (with_reducible refine (S1032.out _).mono ?_); rintro e w2 ⟨rfl, rfl⟩) | (go_at_call 60; (with_reducible refine (S8.out _).mono ?_); rintro e w2 ⟨rfl, rfl⟩))
                        go_ret
                        exact ⟨by simp, HB.out⟩
                  | false =>
                    go_enter Tryd.func76, Tryd.ntmps76
                    go_wp2_with fail
                    go_quiet ((go_at_call 60; exact Calls.quiet_of_same (SQ.out _)))
                    all_goals
                      go_wp2_with (first | (go_at_call 68; (with_reducible refine (C1.out _).mono ?_); rintro e w1 ⟨rfl, hb⟩; have HB := Lib.hid ((HW.out _).trans (hb.mono (by simp <;> omega))); clear hb) | (go_at_call 60; (with_reducible refine (S256.out _).mono ?_); rintro e w2 ⟨rfl, rfl⟩) | (go_at_call 60; (with_reducible refine (S1024.out _).mono ?_); rintro e w2 ⟨rfl, rfl⟩) | (go_at_call 60; (with_reducible refine (S26.out _).mono ?_); rintro e w2 ⟨rfl, rfl⟩) | (go_at_call 60; (with_reducible refine (S512.out _).mono ?_); rintro e w2 ⟨rfl, rfl⟩) | (go_at_call 60; (with_reducible refine (S3.out _).mono ?_); rintro e w2 ⟨rfl, rfl⟩) | (go_at_call 60; (with_reducible refine (S16.out _).mono ?_); rintro e w2 ⟨rfl, rfl⟩) | (go_at_call 60; (with_reducible refine (S1032.out _).mono ?_); rintro e w2 ⟨rfl, rfl⟩) | (go_at_call 60; (with_reducible refine (S8.out _).mono ?_); rintro e w2 ⟨rfl, rfl⟩))
                      go_ret
                      exact ⟨by simp, HB.out⟩
            | false =>
              go_enter Tryd.func76, Tryd.ntmps76
              go_wp2_with fail
              go_quiet ((go_at_call 60; exact Calls.quiet_of_same (SQ.out _)))
              all_goals
                go_wp2_with (first | (go_at_call 68; (with_reducible refine (C1.out _).mono ?_); rintro e w1 ⟨rfl, hb⟩; have HB := Lib.hid ((HW.out _).trans (hb.mono (by simp <;> omega))); clear hb) | (go_at_call 60; (with_reducible refine (S256.out _).mono ?_); rintro e w2 ⟨rfl, rfl⟩) | (go_at_call 60; (with_reducible refine (S1024.out _).mono ?_); rintro e w2 ⟨rfl, rfl⟩) | (go_at_call 60; (with_reducible refine (S26.out _).mono ?_); rintro e w2 ⟨rfl, rfl⟩) | (go_at_call 60; (with_reducible refine (S512.out _).mono ?_); rintro e w2 ⟨rfl, rfl⟩) | (go_at_call 60; (with_reducible refine (S3.out _).mono ?_); rintro e w2 ⟨rfl, rfl⟩) | (go_at_call 60; (with_reducible refine (S16.out _).mono ?_); rintro e w2 ⟨rfl, rfl⟩) | (go_at_call 60; (with_reducible refine (S1032.out _).mono ?_); rintro e w2 ⟨rfl, rfl⟩) | (go_at_call 60; (with_reducible refine (S8.out _).mono ?_); rintro e w2 ⟨rfl, rfl⟩))
                go_ret
                exact ⟨by simp, HB.out⟩
          | false =>
            cases b1 with
            | true =>
              cases v1032
              all_goals
                go_enter Tryd.func76, Tryd.ntmps76
                go_wp2_with fail
                go_quiet ((go_at_call 60; exact Calls.quiet_of_same (SQ.out _)))
                all_goals
                  go_wp2_with (first | (go_at_call 68; (with_reducible refine (C1.out _).mono ?_); rintro e w1 ⟨rfl, hb⟩; have HB := Lib.hid ((HW.out _).trans (hb.mono (by simp <;> omega))); clear hb) | (go_at_call 60; (with_reducible refine (S256.out _).mono ?_); rintro e w2 ⟨rfl, rfl⟩) | (go_at_call 60; (with_reducible refine (S1024.out _).mono ?_); rintro e w2 ⟨rfl, rfl⟩) | (go_at_call 60; (with_reducible refine (S26.out _).mono ?_); rintro e w2 ⟨rfl, rfl⟩) | (go_at_call 60; (with_reducible refine (S512.out _).mono ?_); rintro e w2 ⟨rfl, rfl⟩) | (go_at_call 60; (with_reducible refine (S3.out _).mono ?_); rintro e w2 ⟨rfl, rfl⟩) | (go_at_call 60; (with_reducible refine (S16.out _).mono ?_); rintro e w2 ⟨rfl, rfl⟩) | (go_at_call 60; (with_reducible refine (S1032.out _).mono ?_); rintro e w2 ⟨rfl, rfl⟩) | (go_at_call 60; (with_reducible refine (S8.out _).mono ?_); rintro e w2 ⟨rfl, rfl⟩))
                  go_ret
                  exact ⟨by simp, HB.out⟩
            | false =>
              cases b2 with
              | true =>
                cases v8
                all_goals
                  go_enter Tryd.func76, Tryd.ntmps76
                  go_wp2_with fail
                  go_quiet ((go_at_call 60; exact Calls.quiet_of_same (SQ.out _)))
                  all_goals
                    go_wp2_with (first | (go_at_call 68; (with_reducible refine (C1.out _).mono ?_); rintro e w1 ⟨rfl, hb⟩; have HB := Lib.hid ((HW.out _).trans (hb.mono (by simp <;> omega))); clear hb) | (go_at_call 60; (with_reducible refine (S256.out _).mono ?_); rintro e w2 ⟨rfl, rfl⟩) | (go_at_call 60; (with_reducible refine (S1024.out _).mono ?_); rintro e w2 ⟨rfl, rfl⟩) | (go_at_call 60; (with_reducible refine (S26.out _).mono ?_); rintro e w2 ⟨rfl, rfl⟩) | (go_at_call 60; (with_reducible refine (S512.out _).mono ?_); rintro e w2 ⟨rfl, rfl⟩) | (go_at_call 60; (with_reducible refine (S3.out _).mono ?_); rintro e w2 ⟨rfl, rfl⟩) | (go_at_call 60; (with_reducible refine (S16.out _).mono ?_); rintro e w2 ⟨rfl, rfl⟩) | (go_at_call 60; (with_reducible refine (S1032.out _).mono ?_); rintro e w2 ⟨rfl, rfl⟩) | (go_at_call 60; (with_reducible refine (S8.out _).mono ?_); rintro e w2 ⟨rfl, rfl⟩))
                    go_ret
                    exact ⟨by simp, HB.out⟩
              | false =>
                go_enter Tryd.func76, Tryd.ntmps76
                go_wp2_with fail
                go_quiet ((go_at_call 60; exact Calls.quiet_of_same (SQ.out _)))
                all_goals
                  go_wp2_with (first | (go_at_call 68; (with_reducible refine (C1.out _).mono ?_); rintro e w1 ⟨rfl, hb⟩; have HB := Lib.hid ((HW.out _).trans (hb.mono (by simp <;> omega))); clear hb) | (go_at_call 60; (with_reducible refine (S256.out _).mono ?_); rintro e w2 ⟨rfl, rfl⟩) | (go_at_call 60; (with_reducible refine (S1024.out _).mono ?_); rintro e w2 ⟨rfl, rfl⟩) | (go_at_call 60; (with_reducible refine (S26.out _).mono ?_); rintro e w2 ⟨rfl, rfl⟩) | (go_at_call 60; (with_reducible refine (S512.out _).mono ?_); rintro e w2 ⟨rfl, rfl⟩) | (go_at_call 60; (with_reducible refine (S3.out _).mono ?_); rintro e w2 ⟨rfl, rfl⟩) | (go_at_call 60; (with_reducible refine (S16.out _).mono ?_); rintro e w2 ⟨rfl, rfl⟩) | (go_at_call 60; (with_reducible refine (S1032.out _).mono ?_); rintro e w2 ⟨rfl, rfl⟩) | (go_at_call 60; (with_reducible refine (S8.out _).mono ?_); rintro e w2 ⟨rfl, rfl⟩))
                  go_ret
                  exact ⟨by simp, HB.out⟩
      | false =>
        cases v512 with
        | true =>
          cases v3 with
          | true =>
            cases v16 with
            | true =>
              go_enter Tryd.func76, Tryd.ntmps76
              go_wp2_with fail
              go_quiet ((go_at_call 60; exact Calls.quiet_of_same (SQ.out _)))
              all_goals
                go_wp2_with (first | (go_at_call 68; (with_reducible refine (C1.out _).mono ?_); rintro e w1 ⟨rfl, hb⟩; have HB := Lib.hid ((HW.out _).trans (hb.mono (by simp <;> omega))); clear hb) | (go_at_call 60; (with_reducible refine (S256.out _).mono ?_); rintro e w2 ⟨rfl, rfl⟩) | (go_at_call 60; (with_reducible refine (S1024.out _).mono ?_); rintro e w2 ⟨rfl, rfl⟩) | (go_at_call 60; (with_reducible refine (S26.out _).mono ?_); rintro e w2 ⟨rfl, rfl⟩) | (go_at_call 60; (with_reducible refine (S512.out _).mono ?_); rintro e w2 ⟨rfl, rfl⟩) | (go_at_call 60; (with_reducible refine (S3.out _).mono ?_); rintro e w2 ⟨rfl, rfl⟩) | (go_at_call 60; (with_reducible refine (S16.out _).mono ?_); rintro e w2 ⟨rfl, rfl⟩) | (go_at_call 60; (with_reducible refine (S1032.out _).mono ?_); rintro e w2 ⟨rfl, rfl⟩) | (go_at_call 60; (with_reducible refine (S8.out _).mono ?_); rintro e w2 ⟨rfl, rfl⟩))
                go_ret
                exact ⟨by simp, HB.out⟩
            | false =>
              cases b1 with
              | true =>
                cases v1032
                all_goals
                  go_enter Tryd.func76, Tryd.ntmps76
                  go_wp2_with fail
                  go_quiet ((go_at_call 60; exact Calls.quiet_of_same (SQ.out _)))
                  all_goals
                    go_wp2_with (first | (go_at_call 68; (with_reducible refine (C1.out _).mono ?_); rintro e w1 ⟨rfl, hb⟩; have HB := Lib.hid ((HW.out _).trans (hb.mono (by simp <;> omega))); clear hb) | (go_at_call 60; (with_reducible refine (S256.out _).mono ?_); rintro e w2 ⟨rfl, rfl⟩) | (go_at_call 60; (with_reducible refine (S1024.out _).mono ?_); rintro e w2 ⟨rfl, rfl⟩) | (go_at_call 60; (with_reducible refine (S26.out _).mono ?_); rintro e w2 ⟨rfl, rfl⟩) | (go_at_call 60; (with_reducible refine (S512.out _).mono ?_); rintro e w2 ⟨rfl, rfl⟩) | (go_at_call 60; (with_reducible refine (S3.out _).mono ?_); rintro e w2 ⟨rfl, rfl⟩) | (go_at_call 60; (with_reducible refine (S16.out _).mono ?_); rintro e w2 ⟨rfl, rfl⟩) | (go_at_call 60; (with_reducible refine (S1032.out _).mono ?_); rintro e w2 ⟨rfl, rfl⟩) | (go_at_call 60; (with_reducible refine (S8.out _).mono ?_); rintro e w2 ⟨rfl, rfl⟩))
                    go_ret
                    exact ⟨by simp, HB.out⟩
              | false =>
                cases b2 with
                | true =>
                  cases v8
                  all_goals
                    go_enter Tryd.func76, Tryd.ntmps76
                    go_wp2_with fail
                    go_quiet ((go_at_call 60; exact Calls.quiet_of_same (SQ.out _)))
                    all_goals
                      go_wp2_with (first | (go_at_call 68; (with_reducible refine (C1.out _).mono ?_); rintro e w1 ⟨rfl, hb⟩; have HB := Lib.hid ((HW.out _).trans (hb.mono (by simp <;> omega))); clear hb) | (go_at_call 60; (with_reducible refine (S256.out _).mono ?_); rintro e w2 ⟨rfl, rfl⟩) | (go_at_call 60; (with_reducible refine (S1024.out _).mono ?_); rintro e w2 ⟨rfl, rfl⟩) | (go_at_call 60; (with_reducible refine (S26.out _).mono ?_); rintro e w2 ⟨rfl, rfl⟩) | (go_at_call 60; (with_reducible refine (S512.out _).mono ?_); rintro e w2 ⟨rfl, rfl⟩) | (go_at_call 60; (with_reducible refine (S3.out _).mono ?_); rintro e w2 ⟨rfl, rfl⟩) | (go_at_call 60; (with_reducible refine (S16.out _).mono ?_); rintro e w2 ⟨rfl, rfl⟩) | (go_at_call 60; (with_reducible refine (S1032.out _).mono ?_); rintro e w2 ⟨rfl, rfl⟩) | (go_at_call 60; (with_reducible refine (S8.out _).mono ?_); rintro e w2 ⟨rfl, rfl⟩))
                      go_ret
                      exact ⟨by simp, HB.out⟩
                | false =>
                  go_enter Tryd.func76, Tryd.ntmps76
                  go_wp2_with fail
                  go_quiet ((go_at_call 60; exact Calls.quiet_of_same (SQ.out _)))
                  all_goals
                    go_wp2_with (first | (go_at_call 68; (with_reducible refine (C1.out _).mono ?_); rintro e w1 ⟨rfl, hb⟩; have HB := Lib.hid ((HW.out _).trans (hb.mono (by simp <;> omega))); clear hb) | (go_at_call 60; (with_reducible refine (S256.out _).mono ?_); rintro e w2 ⟨rfl, rfl⟩) | (go_at_call 60; (with_reducible refine (S1024.out _).mono ?_); rintro e w2 ⟨rfl, rfl⟩) | (go_at_call 60; (with_reducible refine (S26.out _).mono ?_); rintro e w2 ⟨rfl, rfl⟩) | (go_at_call 60; (with_reducible refine (S512.out _).mono ?_); rintro e w2 ⟨rfl, rfl⟩) | (go_at_call 60; (with_reducible refine (S3.out _).mono ?_); rintro e w2 ⟨rfl, rfl⟩) | (go_at_call 60; (with_reducible refine (S16.out _).mono ?_); rintro e w2 ⟨rfl, rfl⟩) | (go_at_call 60; (with_reducible refine (S1032.out _).mono ?_); rintro e w2 ⟨rfl, rfl⟩) | (go_at_call 60; (with_reducible refine (S8.out _).mono ?_); rintro e w2 ⟨rfl, rfl⟩))
                    go_ret
                    exact ⟨by simp, HB.out⟩
          | false =>
            go_enter Tryd.func76, Tryd.ntmps76
            go_wp2_with fail
            go_quiet ((go_at_call 60; exact Calls.quiet_of_same (SQ.out _)))
            all_goals
              go_wp2_with (first | (go_at_call 68; (with_reducible refine (C1.out _).mono ?_); rintro e w1 ⟨rfl, hb⟩; have HB := Lib.hid ((HW.out _).trans (hb.mono (by simp <;> omega))); clear hb) | (go_at_call 60; (with_reducible refine (S256.out _).mono ?_); rintro e w2 ⟨rfl, rfl⟩) | (go_at_call 60; (with_reducible refine (S1024.out _).mono ?_); rintro e w2 ⟨rfl, rfl⟩) | (go_at_call 60; (with_reducible refine (S26.out _).mono ?_); rintro e w2 ⟨rfl, rfl⟩) | (go_at_call 60; (with_reducible refine (S512.out _).mono ?_); rintro e w2 ⟨rfl, rfl⟩) | (go_at_call 60; (with_reducible refine (S3.out _).mono ?_); rintro e w2 ⟨rfl, rfl⟩) | (go_at_call 60; (with_reducible refine (S16.out _).mono ?_); rintro e w2 ⟨rfl, rfl⟩) | (go_at_call 60; (with_reducible refine (S1032.out _).mono ?_); rintro e w2 ⟨rfl, rfl⟩) | (go_at_call 60; (with_reducible refine (S8.out _).mono ?_); rintro e w2 ⟨rfl, rfl⟩))
              go_ret
              exact ⟨by simp, HB.out⟩
        | false =>
          cases b1 with
          | true =>
            cases v1032
            all_goals
              go_enter Tryd.func76, Tryd.ntmps76
              go_wp2_with fail
              go_quiet ((go_at_call 60; exact Calls.quiet_of_same (SQ.out _)))
              all_goals
                go_wp2_with (first | (go_at_call 68; (with_reducible refine (C1.out _).mono ?_); rintro e w1 ⟨rfl, hb⟩; have HB := Lib.hid ((HW.out _).trans (hb.mono (by simp <;> omega))); clear hb) | (go_at_call 60; (with_reducible refine (S256.out _).mono ?_); rintro e w2 ⟨rfl, rfl⟩) | (go_at_call 60; (with_reducible refine (S1024.out _).mono ?_); rintro e w2 ⟨rfl, rfl⟩) | (go_at_call 60; (with_reducible refine (S26.out _).mono ?_); rintro e w2 ⟨rfl, rfl⟩) | (go_at_call 60; (with_reducible refine (S512.out _).mono ?_); rintro e w2 ⟨rfl, rfl⟩) | (go_at_call 60; (with_reducible refine (S3.out _).mono ?_); rintro e w2 ⟨rfl, rfl⟩) | (go_at_call 60; (with_reducible refine (S16.out _).mono ?_); rintro e w2 ⟨rfl, rfl⟩) | (go_at_call 60; (with_reducible refine (S1032.out _).mono ?_); rintro e w2 ⟨rfl, rfl⟩) | (go_at_call 60; (with_reducible refine (S8.out _).mono ?_); rintro e w2 ⟨rfl, rfl⟩))
                go_ret
                exact ⟨by simp, HB.out⟩
          | false =>
            cases b2 with
            | true =>
              cases v8
              all_goals
                go_enter Tryd.func76, Tryd.ntmps76
                go_wp2_with fail
                go_quiet ((go_at_call 60; exact Calls.quiet_of_same (SQ.out _)))
                all_goals
                  go_wp2_with (first | (go_at_call 68; (with_reducible refine (C1.out _).mono ?_); rintro e w1 ⟨rfl, hb⟩; have HB := Lib.hid ((HW.out _).trans (hb.mono (by simp <;> omega))); clear hb) | (go_at_call 60; (with_reducible refine (S256.out _).mono ?_); rintro e w2 ⟨rfl, rfl⟩) | (go_at_call 60; (with_reducible refine (S1024.out _).mono ?_); rintro e w2 ⟨rfl, rfl⟩) | (go_at_call 60; (with_reducible refine (S26.out _).mono ?_); rintro e w2 ⟨rfl, rfl⟩) | (go_at_call 60; (with_reducible refine (S512.out _).mono ?_); rintro e w2 ⟨rfl, rfl⟩) | (go_at_call 60; (with_reducible refine (S3.out _).mono ?_); rintro e w2 ⟨rfl, rfl⟩) | (go_at_call 60; (with_reducible refine (S16.out _).mono ?_); rintro e w2 ⟨rfl, rfl⟩) | (go_at_call 60; (with_reducible refine (S1032.out _).mono ?_); rintro e w2 ⟨rfl, rfl⟩) | (go_at_call 60; (with_reducible refine (S8.out _).mono ?_); rintro e w2 ⟨rfl, rfl⟩))
                  go_ret
                  exact ⟨by simp, HB.out⟩
            | false =>
              go_enter Tryd.func76, Tryd.ntmps76
              go_wp2_with fail
              go_quiet ((go_at_call 60; exact Calls.quiet_of_same (SQ.out _)))
              all_goals
                go_wp2_with (first | (go_at_call 68; (with_reducible refine (C1.out _).mono ?_); rintro e w1 ⟨rfl, hb⟩; have HB := Lib.hid ((HW.out _).trans (hb.mono (by simp <;> omega))); clear hb) | (go_at_call 60; (with_reducible refine (S256.out _).mono ?_); rintro e w2 ⟨rfl, rfl⟩) | (go_at_call 60; (with_reducible refine (S1024.out _).mono ?_); rintro e w2 ⟨rfl, rfl⟩) | (go_at_call 60; (with_reducible refine (S26.out _).mono ?_); rintro e w2 ⟨rfl, rfl⟩) | (go_at_call 60; (with_reducible refine (S512.out _).mono ?_); rintro e w2 ⟨rfl, rfl⟩) | (go_at_call 60; (with_reducible refine (S3.out _).mono ?_); rintro e w2 ⟨rfl, rfl⟩) | (go_at_call 60; (with_reducible refine (S16.out _).mono ?_); rintro e w2 ⟨rfl, rfl⟩) | (go_at_call 60; (with_reducible refine (S1032.out _).mono ?_); rintro e w2 ⟨rfl, rfl⟩) | (go_at_call 60; (with_reducible refine (S8.out _).mono ?_); rintro e w2 ⟨rfl, rfl⟩))
                go_ret
                exact ⟨by simp, HB.out⟩
end Go.Proofs.YtlcidkiplidamaaDoor
