/-
  What the loader's laws rest on, part 6: walks of the program's functions and plain laws. Conditions: none but those that each theorem names.
-/
import Derived.Test.YtdbniocnjhfhdaaGreatDoorB05
/-
  The reader of class files: constant.
-/
set_option linter.unusedSimpArgs false
set_option linter.unusedVariables false
set_option maxRecDepth 100000
set_option maxHeartbeats 2000000
namespace Go.Proofs.YtdbniocnjhfhdaaGreatDoor
open Go Go.RowKit Lib
theorem int32_wrap (n : Nat) (h : n < 4294967296) : wrap32 (n : Int) = int32P n := by
  unfold wrap32 int32P
  split <;> omega
theorem int32_64 (n : Nat) (h : n < 4294967296) : wrap64 (int32P n) = int32P n := by
  refine IntWalk.wrap64_in _ ?_
  unfold int32P
  split <;> omega
theorem constant_any (r : Nat) (A : Option Addr) (cap : Nat) (l : List UInt8) (st : Rs) (w : World) (h : RdrAt w r A cap l st) :
    Calls Tryz.prog 120 #[.pointer (some ⟨r, 0, none⟩)] w (RPost w r A cap l (koP l st) fun x v w' => v = koV x) := by
  have d1 := h.c1
  have hr := h.lt
  have H0 := Lib.hid h
  have HA0 := Lib.hid (RB.refl r w)
  have HE0 := Lib.hid (show koP l st = Rx.bind (numP l 1 st) _ from rfl)
  clear h
  go_enter Tryz.func120, Tryz.ntmps120
  go_wp2_with (go_at_call 117; refine (number_any r A cap 1 l st _ (H0.out.keepB H0.out (by repeat' (first | with_reducible exact Below.refl _ _ | with_reducible refine below_drewN ?_ _ | with_reducible refine Below.drew ?_ | with_reducible refine Below.setCell ?_ ?_ _ | with_reducible refine Below.alloc ?_ ?_ _ | omega | (simp; done) | (simp; omega)))) (by omega)).mono ?_; refine stop_here ?_)
  refine go_on ?_
  intro e w1 hq
  rcases hq.cases with ⟨a, er, hp, hb, rfl⟩ | ⟨x1, s1, v, hp, hb, rfl, ⟨rfl, hn1⟩, hs⟩
  · have HP := Lib.hid (HE0.out.trans (bind_stop hp))
    clear hp
    have HA := Lib.hid (ha_step HA0.out hr (by repeat' (first | with_reducible exact Below.refl _ _ | with_reducible refine below_drewN ?_ _ | with_reducible refine Below.drew ?_ | with_reducible refine Below.setCell ?_ ?_ _ | with_reducible refine Below.alloc ?_ ?_ _ | omega | (simp; done) | (simp; omega))) hb)
    clear hb
    go_wp2_with fail
    exact (show _ ∧ _ from ⟨rfl, rpost_error HP.out HA.out⟩)
  · have HE1 := Lib.hid (HE0.out.trans (bind_step hp))
    clear hp
    have HA1 := Lib.hid (ha_step HA0.out hr (by repeat' (first | with_reducible exact Below.refl _ _ | with_reducible refine below_drewN ?_ _ | with_reducible refine Below.drew ?_ | with_reducible refine Below.setCell ?_ ?_ _ | with_reducible refine Below.alloc ?_ ?_ _ | omega | (simp; done) | (simp; omega))) hb)
    have HS1 := Lib.hid hs
    have hz1 := hb.but.size
    try simp at hz1
    have hy1 := HA1.out.but.size
    have e_br : ¬ w.heap.size = r := by omega
    have e_br' : ¬ r = w.heap.size := by omega
    have X1_b := Lib.hid ((bx_new_at _ [.int .i64 0, .string ⟨#[]⟩, .int .i64 0, .int .i64 0, .int .i64 0] 78 (w.heap.size) (by simp)).but hb.but (ne_one (by omega)))
    clear hb hs
    by_cases t1 : x1 = 1
    · obtain rfl : x1 = 1 := t1
      have HE1 := Lib.hid (HE1.out.trans (if_pos rfl))
      go_wp2_with (go_at_call 117; refine (number_any r A cap 2 l s1 _ (H0.out.keepB HS1.out (by repeat' (first | with_reducible exact Below.refl _ _ | with_reducible refine below_drewN ?_ _ | with_reducible refine Below.drew ?_ | with_reducible refine Below.setCell ?_ ?_ _ | with_reducible refine Below.alloc ?_ ?_ _ | omega | (simp; done) | (simp; omega)))) (by omega)).mono ?_; refine stop_here ?_)
      refine go_on ?_
      intro e w2 hq
      rcases hq.cases with ⟨a, er, hp, hb, rfl⟩ | ⟨x2, s2, v, hp, hb, rfl, ⟨rfl, hn2⟩, hs⟩
      · have HP := Lib.hid (HE1.out.trans (bind_stop hp))
        clear hp
        have HA := Lib.hid (ha_step HA1.out hr (by repeat' (first | with_reducible exact Below.refl _ _ | with_reducible refine below_drewN ?_ _ | with_reducible refine Below.drew ?_ | with_reducible refine Below.setCell ?_ ?_ _ | with_reducible refine Below.alloc ?_ ?_ _ | omega | (simp; done) | (simp; omega))) hb)
        clear hb
        go_wp2_with fail
        exact (show _ ∧ _ from ⟨rfl, rpost_error HP.out HA.out⟩)
      · have HE2 := Lib.hid (HE1.out.trans (bind_step hp))
        clear hp
        have HA2 := Lib.hid (ha_step HA1.out hr (by repeat' (first | with_reducible exact Below.refl _ _ | with_reducible refine below_drewN ?_ _ | with_reducible refine Below.drew ?_ | with_reducible refine Below.setCell ?_ ?_ _ | with_reducible refine Below.alloc ?_ ?_ _ | omega | (simp; done) | (simp; omega))) hb)
        have HS2 := Lib.hid hs
        have hz2 := hb.but.size
        try simp at hz2
        have hy2 := HA2.out.but.size
        have e_kr : ¬ w1.heap.size = r := by omega
        have e_kr' : ¬ r = w1.heap.size := by omega
        have e_kb : ¬ w1.heap.size = w.heap.size := by omega
        have e_kb' : ¬ w.heap.size = w1.heap.size := by omega
        have X2_b := Lib.hid ((X1_b.out.below ((Below.refl _ _).alloc (Nat.le_refl _) _) X1_b.out.lt).but hb.but (ne_one (by omega)))
        have X2_k := Lib.hid ((bx_new_at _ [.int .i64 1, .string ⟨#[]⟩, .int .i64 0, .int .i64 0, .int .i64 0] 78 (w1.heap.size) (by simp)).but hb.but (ne_one (by omega)))
        clear hb hs X1_b
        go_wp2_with (go_at_call 136; refine (bytes_any r A cap _ l s2 _ (H0.out.keepB HS2.out (by repeat' (first | with_reducible exact Below.refl _ _ | with_reducible refine below_drewN ?_ _ | with_reducible refine Below.drew ?_ | with_reducible refine Below.setCell ?_ ?_ _ | with_reducible refine Below.alloc ?_ ?_ _ | omega | (simp; done) | (simp; omega)))) (by omega)).mono ?_; refine stop_here ?_)
        refine go_on ?_
        intro e w3 hq
        rcases hq.cases with ⟨a, er, hp, hb, rfl⟩ | ⟨x3, s3, v, hp, hb, rfl, ⟨A', cap', rfl, hrd⟩, hs⟩
        · have HP := Lib.hid (HE2.out.trans (bind_stop hp))
          clear hp
          have HA := Lib.hid (ha_step HA2.out hr (by repeat' (first | with_reducible exact Below.refl _ _ | with_reducible refine below_drewN ?_ _ | with_reducible refine Below.drew ?_ | with_reducible refine Below.setCell ?_ ?_ _ | with_reducible refine Below.alloc ?_ ?_ _ | omega | (simp; done) | (simp; omega))) hb)
          clear hb
          go_wp2_with fail
          exact (show _ ∧ _ from ⟨rfl, rpost_error HP.out HA.out⟩)
        · have HE3 := Lib.hid (HE2.out.trans (bind_step hp))
          clear hp
          have HA3 := Lib.hid (ha_step HA2.out hr (by repeat' (first | with_reducible exact Below.refl _ _ | with_reducible refine below_drewN ?_ _ | with_reducible refine Below.drew ?_ | with_reducible refine Below.setCell ?_ ?_ _ | with_reducible refine Below.alloc ?_ ?_ _ | omega | (simp; done) | (simp; omega))) hb)
          have HS3 := Lib.hid hs
          have hz3 := hb.but.size
          try simp at hz3
          have hy3 := HA3.out.but.size
          have X3_b := Lib.hid (X2_b.out.but hb.but (ne_one (by omega)))
          have X3_k := Lib.hid (X2_k.out.but hb.but (ne_one (by omega)))
          clear hb hs X2_b X2_k
          have hcv := hrd.str
          have c_k0 := X3_k.out.cell 0 rfl
          have c_k1 := X3_k.out.cell 1 rfl
          have c_k2 := X3_k.out.cell 2 rfl
          have c_k3 := X3_k.out.cell 3 rfl
          have c_k4 := X3_k.out.cell 4 rfl
          have c_b0 := X3_b.out.cell 0 rfl
          have z_b0 := X3_b.out.frozen 0
          have c_b1 := X3_b.out.cell 1 rfl
          have z_b1 := X3_b.out.frozen 1
          have c_b2 := X3_b.out.cell 2 rfl
          have z_b2 := X3_b.out.frozen 2
          have c_b3 := X3_b.out.cell 3 rfl
          have z_b3 := X3_b.out.frozen 3
          have c_b4 := X3_b.out.cell 4 rfl
          have z_b4 := X3_b.out.frozen 4
          have z_k0 := X3_k.out.frozen 0
          have z_k1 := X3_k.out.frozen 1
          have z_k2 := X3_k.out.frozen 2
          have z_k3 := X3_k.out.frozen 3
          have z_k4 := X3_k.out.frozen 4
          go_wp2_with fail
          refine bodyPost_ret (v := koV ⟨1, ⟨x3.toArray⟩, 0, 0, 0⟩) (by simp [koV, results, Tryz.results120, go_sem, c_b0, z_b0, c_k0, z_k0, c_b1, z_b1, c_k1, z_k1, c_b2, z_b2, c_k2, z_k2, c_b3, z_b3, c_k3, z_k3, c_b4, z_b4, c_k4, z_k4]) rfl ?_
          exact rpost_ok HE3.out (ha_low HA3.out hr (by repeat' (first | with_reducible exact Below.refl _ _ | with_reducible refine below_drewN ?_ _ | with_reducible refine Below.drew ?_ | with_reducible refine Below.setCell ?_ ?_ _ | with_reducible refine Below.alloc ?_ ?_ _ | omega | (simp; done) | (simp; omega)))) rfl (H0.out.keepB HS3.out (by repeat' (first | with_reducible exact Below.refl _ _ | with_reducible refine below_drewN ?_ _ | with_reducible refine Below.drew ?_ | with_reducible refine Below.setCell ?_ ?_ _ | with_reducible refine Below.alloc ?_ ?_ _ | omega | (simp; done) | (simp; omega))))
    have T1 : ((x1 : Int) == 1) = false := by simp; omega
    by_cases t3 : x1 = 3
    · obtain rfl : x1 = 3 := t3
      have HE1 := Lib.hid (HE1.out.trans (if_neg (by decide)))
      have HE1 := Lib.hid (HE1.out.trans (if_pos rfl))
      go_wp2_with (go_at_call 117; refine (number_any r A cap 4 l s1 _ (H0.out.keepB HS1.out (by repeat' (first | with_reducible exact Below.refl _ _ | with_reducible refine below_drewN ?_ _ | with_reducible refine Below.drew ?_ | with_reducible refine Below.setCell ?_ ?_ _ | with_reducible refine Below.alloc ?_ ?_ _ | omega | (simp; done) | (simp; omega)))) (by omega)).mono ?_; refine stop_here ?_)
      refine go_on ?_
      intro e w2 hq
      rcases hq.cases with ⟨a, er, hp, hb, rfl⟩ | ⟨x2, s2, v, hp, hb, rfl, ⟨rfl, hn2⟩, hs⟩
      · have HP := Lib.hid (HE1.out.trans (bind_stop hp))
        clear hp
        have HA := Lib.hid (ha_step HA1.out hr (by repeat' (first | with_reducible exact Below.refl _ _ | with_reducible refine below_drewN ?_ _ | with_reducible refine Below.drew ?_ | with_reducible refine Below.setCell ?_ ?_ _ | with_reducible refine Below.alloc ?_ ?_ _ | omega | (simp; done) | (simp; omega))) hb)
        clear hb
        go_wp2_with fail
        exact (show _ ∧ _ from ⟨rfl, rpost_error HP.out HA.out⟩)
      · have HE2 := Lib.hid (HE1.out.trans (bind_step hp))
        clear hp
        have HA2 := Lib.hid (ha_step HA1.out hr (by repeat' (first | with_reducible exact Below.refl _ _ | with_reducible refine below_drewN ?_ _ | with_reducible refine Below.drew ?_ | with_reducible refine Below.setCell ?_ ?_ _ | with_reducible refine Below.alloc ?_ ?_ _ | omega | (simp; done) | (simp; omega))) hb)
        have HS2 := Lib.hid hs
        have hz2 := hb.but.size
        try simp at hz2
        have hy2 := HA2.out.but.size
        have e_kr : ¬ w1.heap.size = r := by omega
        have e_kr' : ¬ r = w1.heap.size := by omega
        have e_kb : ¬ w1.heap.size = w.heap.size := by omega
        have e_kb' : ¬ w.heap.size = w1.heap.size := by omega
        have X2_b := Lib.hid ((X1_b.out.below ((Below.refl _ _).alloc (Nat.le_refl _) _) X1_b.out.lt).but hb.but (ne_one (by omega)))
        have X2_k := Lib.hid ((bx_new_at _ [.int .i64 3, .string ⟨#[]⟩, .int .i64 0, .int .i64 0, .int .i64 0] 78 (w1.heap.size) (by simp)).but hb.but (ne_one (by omega)))
        clear hb hs X1_b
        have hi := Lib.hid (int32_wrap x2 hn2)
        have c_k0 := X2_k.out.cell 0 rfl
        have z_k0 := X2_k.out.frozen 0
        have c_k1 := X2_k.out.cell 1 rfl
        have z_k1 := X2_k.out.frozen 1
        have c_k2 := X2_k.out.cell 2 rfl
        have z_k2 := X2_k.out.frozen 2
        have c_k3 := X2_k.out.cell 3 rfl
        have z_k3 := X2_k.out.frozen 3
        have c_k4 := X2_k.out.cell 4 rfl
        have z_k4 := X2_k.out.frozen 4
        have c_b0 := X2_b.out.cell 0 rfl
        have z_b0 := X2_b.out.frozen 0
        have c_b1 := X2_b.out.cell 1 rfl
        have z_b1 := X2_b.out.frozen 1
        have c_b2 := X2_b.out.cell 2 rfl
        have z_b2 := X2_b.out.frozen 2
        have c_b3 := X2_b.out.cell 3 rfl
        have z_b3 := X2_b.out.frozen 3
        have c_b4 := X2_b.out.cell 4 rfl
        have z_b4 := X2_b.out.frozen 4
        go_wp2_with fail
        rw [hi.out, int32_64 x2 hn2]
        refine bodyPost_ret (v := koV ⟨3, ⟨#[]⟩, int32P x2, 0, 0⟩) (by simp [koV, results, Tryz.results120, go_sem, c_b0, z_b0, c_k0, z_k0, c_b1, z_b1, c_k1, z_k1, c_b2, z_b2, c_k2, z_k2, c_b3, z_b3, c_k3, z_k3, c_b4, z_b4, c_k4, z_k4]) rfl ?_
        exact rpost_ok HE2.out (ha_low HA2.out hr (by repeat' (first | with_reducible exact Below.refl _ _ | with_reducible refine below_drewN ?_ _ | with_reducible refine Below.drew ?_ | with_reducible refine Below.setCell ?_ ?_ _ | with_reducible refine Below.alloc ?_ ?_ _ | omega | (simp; done) | (simp; omega)))) rfl (H0.out.keepB HS2.out (by repeat' (first | with_reducible exact Below.refl _ _ | with_reducible refine below_drewN ?_ _ | with_reducible refine Below.drew ?_ | with_reducible refine Below.setCell ?_ ?_ _ | with_reducible refine Below.alloc ?_ ?_ _ | omega | (simp; done) | (simp; omega))))
    have T3 : ((x1 : Int) == 3) = false := by simp; omega
    by_cases t7 : x1 = 7
    · obtain rfl : x1 = 7 := t7
      have HE1 := Lib.hid (HE1.out.trans (if_neg (by decide)))
      have HE1 := Lib.hid (HE1.out.trans (if_neg (by decide)))
      have HE1 := Lib.hid (HE1.out.trans (if_pos rfl))
      go_wp2_with (go_at_call 117; refine (number_any r A cap 2 l s1 _ (H0.out.keepB HS1.out (by repeat' (first | with_reducible exact Below.refl _ _ | with_reducible refine below_drewN ?_ _ | with_reducible refine Below.drew ?_ | with_reducible refine Below.setCell ?_ ?_ _ | with_reducible refine Below.alloc ?_ ?_ _ | omega | (simp; done) | (simp; omega)))) (by omega)).mono ?_; refine stop_here ?_)
      refine go_on ?_
      intro e w2 hq
      rcases hq.cases with ⟨a, er, hp, hb, rfl⟩ | ⟨x2, s2, v, hp, hb, rfl, ⟨rfl, hn2⟩, hs⟩
      · have HP := Lib.hid (HE1.out.trans (bind_stop hp))
        clear hp
        have HA := Lib.hid (ha_step HA1.out hr (by repeat' (first | with_reducible exact Below.refl _ _ | with_reducible refine below_drewN ?_ _ | with_reducible refine Below.drew ?_ | with_reducible refine Below.setCell ?_ ?_ _ | with_reducible refine Below.alloc ?_ ?_ _ | omega | (simp; done) | (simp; omega))) hb)
        clear hb
        go_wp2_with fail
        exact (show _ ∧ _ from ⟨rfl, rpost_error HP.out HA.out⟩)
      · have HE2 := Lib.hid (HE1.out.trans (bind_step hp))
        clear hp
        have HA2 := Lib.hid (ha_step HA1.out hr (by repeat' (first | with_reducible exact Below.refl _ _ | with_reducible refine below_drewN ?_ _ | with_reducible refine Below.drew ?_ | with_reducible refine Below.setCell ?_ ?_ _ | with_reducible refine Below.alloc ?_ ?_ _ | omega | (simp; done) | (simp; omega))) hb)
        have HS2 := Lib.hid hs
        have hz2 := hb.but.size
        try simp at hz2
        have hy2 := HA2.out.but.size
        have e_kr : ¬ w1.heap.size = r := by omega
        have e_kr' : ¬ r = w1.heap.size := by omega
        have e_kb : ¬ w1.heap.size = w.heap.size := by omega
        have e_kb' : ¬ w.heap.size = w1.heap.size := by omega
        have X2_b := Lib.hid ((X1_b.out.below ((Below.refl _ _).alloc (Nat.le_refl _) _) X1_b.out.lt).but hb.but (ne_one (by omega)))
        have X2_k := Lib.hid ((bx_new_at _ [.int .i64 7, .string ⟨#[]⟩, .int .i64 0, .int .i64 0, .int .i64 0] 78 (w1.heap.size) (by simp)).but hb.but (ne_one (by omega)))
        clear hb hs X1_b
        have c_k0 := X2_k.out.cell 0 rfl
        have c_k1 := X2_k.out.cell 1 rfl
        have c_k2 := X2_k.out.cell 2 rfl
        have c_k3 := X2_k.out.cell 3 rfl
        have c_k4 := X2_k.out.cell 4 rfl
        have c_b0 := X2_b.out.cell 0 rfl
        have z_b0 := X2_b.out.frozen 0
        have c_b1 := X2_b.out.cell 1 rfl
        have z_b1 := X2_b.out.frozen 1
        have c_b2 := X2_b.out.cell 2 rfl
        have z_b2 := X2_b.out.frozen 2
        have c_b3 := X2_b.out.cell 3 rfl
        have z_b3 := X2_b.out.frozen 3
        have c_b4 := X2_b.out.cell 4 rfl
        have z_b4 := X2_b.out.frozen 4
        have z_k0 := X2_k.out.frozen 0
        have z_k1 := X2_k.out.frozen 1
        have z_k2 := X2_k.out.frozen 2
        have z_k3 := X2_k.out.frozen 3
        have z_k4 := X2_k.out.frozen 4
        go_wp2_with fail
        refine bodyPost_ret (v := koV ⟨7, ⟨#[]⟩, 0, x2, 0⟩) (by simp [koV, results, Tryz.results120, go_sem, c_b0, z_b0, c_k0, z_k0, c_b1, z_b1, c_k1, z_k1, c_b2, z_b2, c_k2, z_k2, c_b3, z_b3, c_k3, z_k3, c_b4, z_b4, c_k4, z_k4]) rfl ?_
        exact rpost_ok HE2.out (ha_low HA2.out hr (by repeat' (first | with_reducible exact Below.refl _ _ | with_reducible refine below_drewN ?_ _ | with_reducible refine Below.drew ?_ | with_reducible refine Below.setCell ?_ ?_ _ | with_reducible refine Below.alloc ?_ ?_ _ | omega | (simp; done) | (simp; omega)))) rfl (H0.out.keepB HS2.out (by repeat' (first | with_reducible exact Below.refl _ _ | with_reducible refine below_drewN ?_ _ | with_reducible refine Below.drew ?_ | with_reducible refine Below.setCell ?_ ?_ _ | with_reducible refine Below.alloc ?_ ?_ _ | omega | (simp; done) | (simp; omega))))
    have T7 : ((x1 : Int) == 7) = false := by simp; omega
    by_cases t9 : x1 = 9
    · obtain rfl : x1 = 9 := t9
      have HE1 := Lib.hid (HE1.out.trans (if_neg (by decide)))
      have HE1 := Lib.hid (HE1.out.trans (if_neg (by decide)))
      have HE1 := Lib.hid (HE1.out.trans (if_neg (by decide)))
      have HE1 := Lib.hid (HE1.out.trans (if_pos (by decide)))
      go_wp2_with (go_at_call 117; refine (number_any r A cap 2 l s1 _ (H0.out.keepB HS1.out (by repeat' (first | with_reducible exact Below.refl _ _ | with_reducible refine below_drewN ?_ _ | with_reducible refine Below.drew ?_ | with_reducible refine Below.setCell ?_ ?_ _ | with_reducible refine Below.alloc ?_ ?_ _ | omega | (simp; done) | (simp; omega)))) (by omega)).mono ?_; refine stop_here ?_)
      refine go_on ?_
      intro e w2 hq
      rcases hq.cases with ⟨a, er, hp, hb, rfl⟩ | ⟨x2, s2, v, hp, hb, rfl, ⟨rfl, hn2⟩, hs⟩
      · have HP := Lib.hid (HE1.out.trans (bind_stop hp))
        clear hp
        have HA := Lib.hid (ha_step HA1.out hr (by repeat' (first | with_reducible exact Below.refl _ _ | with_reducible refine below_drewN ?_ _ | with_reducible refine Below.drew ?_ | with_reducible refine Below.setCell ?_ ?_ _ | with_reducible refine Below.alloc ?_ ?_ _ | omega | (simp; done) | (simp; omega))) hb)
        clear hb
        go_wp2_with fail
        exact (show _ ∧ _ from ⟨rfl, rpost_error HP.out HA.out⟩)
      · have HE2 := Lib.hid (HE1.out.trans (bind_step hp))
        clear hp
        have HA2 := Lib.hid (ha_step HA1.out hr (by repeat' (first | with_reducible exact Below.refl _ _ | with_reducible refine below_drewN ?_ _ | with_reducible refine Below.drew ?_ | with_reducible refine Below.setCell ?_ ?_ _ | with_reducible refine Below.alloc ?_ ?_ _ | omega | (simp; done) | (simp; omega))) hb)
        have HS2 := Lib.hid hs
        have hz2 := hb.but.size
        try simp at hz2
        have hy2 := HA2.out.but.size
        have e_kr : ¬ w1.heap.size = r := by omega
        have e_kr' : ¬ r = w1.heap.size := by omega
        have e_kb : ¬ w1.heap.size = w.heap.size := by omega
        have e_kb' : ¬ w.heap.size = w1.heap.size := by omega
        have X2_b := Lib.hid ((X1_b.out.below ((Below.refl _ _).alloc (Nat.le_refl _) _) X1_b.out.lt).but hb.but (ne_one (by omega)))
        have X2_k := Lib.hid ((bx_new_at _ [.int .i64 9, .string ⟨#[]⟩, .int .i64 0, .int .i64 0, .int .i64 0] 78 (w1.heap.size) (by simp)).but hb.but (ne_one (by omega)))
        clear hb hs X1_b
        have c_k0 := X2_k.out.cell 0 rfl
        have z_k0 := X2_k.out.frozen 0
        have c_k1 := X2_k.out.cell 1 rfl
        have z_k1 := X2_k.out.frozen 1
        have c_k2 := X2_k.out.cell 2 rfl
        have z_k2 := X2_k.out.frozen 2
        have c_k3 := X2_k.out.cell 3 rfl
        have z_k3 := X2_k.out.frozen 3
        have c_k4 := X2_k.out.cell 4 rfl
        have z_k4 := X2_k.out.frozen 4
        go_wp2_with (go_at_call 117; refine (number_any r A cap 2 l s2 _ (H0.out.keepB HS2.out (by repeat' (first | with_reducible exact Below.refl _ _ | with_reducible refine below_drewN ?_ _ | with_reducible refine Below.drew ?_ | with_reducible refine Below.setCell ?_ ?_ _ | with_reducible refine Below.alloc ?_ ?_ _ | omega | (simp; done) | (simp; omega)))) (by omega)).mono ?_; refine stop_here ?_)
        refine go_on ?_
        intro e w3 hq
        rcases hq.cases with ⟨a, er, hp, hb, rfl⟩ | ⟨x3, s3, v, hp, hb, rfl, ⟨rfl, hn3⟩, hs⟩
        · have HP := Lib.hid (HE2.out.trans (bind_stop hp))
          clear hp
          have HA := Lib.hid (ha_step HA2.out hr (by repeat' (first | with_reducible exact Below.refl _ _ | with_reducible refine below_drewN ?_ _ | with_reducible refine Below.drew ?_ | with_reducible refine Below.setCell ?_ ?_ _ | with_reducible refine Below.alloc ?_ ?_ _ | omega | (simp; done) | (simp; omega))) hb)
          clear hb
          go_wp2_with fail
          exact (show _ ∧ _ from ⟨rfl, rpost_error HP.out HA.out⟩)
        · have HE3 := Lib.hid (HE2.out.trans (bind_step hp))
          clear hp
          have HA3 := Lib.hid (ha_step HA2.out hr (by repeat' (first | with_reducible exact Below.refl _ _ | with_reducible refine below_drewN ?_ _ | with_reducible refine Below.drew ?_ | with_reducible refine Below.setCell ?_ ?_ _ | with_reducible refine Below.alloc ?_ ?_ _ | omega | (simp; done) | (simp; omega))) hb)
          have HS3 := Lib.hid hs
          have hz3 := hb.but.size
          try simp at hz3
          have hy3 := HA3.out.but.size
          have X3_b := Lib.hid ((X2_b.out.set_other _ _ (by first | (simp; done) | (simp; omega))).but hb.but (ne_one (by omega)))
          have X3_k := Lib.hid ((X2_k.out.set 3 (.int .i64 x2)).but hb.but (ne_one (by omega)))
          clear hb hs X2_b X2_k
          have c_k0 := X3_k.out.cell 0 rfl
          have c_k1 := X3_k.out.cell 1 rfl
          have c_k2 := X3_k.out.cell 2 rfl
          have c_k3 := X3_k.out.cell 3 rfl
          have c_k4 := X3_k.out.cell 4 rfl
          have c_b0 := X3_b.out.cell 0 rfl
          have z_b0 := X3_b.out.frozen 0
          have c_b1 := X3_b.out.cell 1 rfl
          have z_b1 := X3_b.out.frozen 1
          have c_b2 := X3_b.out.cell 2 rfl
          have z_b2 := X3_b.out.frozen 2
          have c_b3 := X3_b.out.cell 3 rfl
          have z_b3 := X3_b.out.frozen 3
          have c_b4 := X3_b.out.cell 4 rfl
          have z_b4 := X3_b.out.frozen 4
          have z_k0 := X3_k.out.frozen 0
          have z_k1 := X3_k.out.frozen 1
          have z_k2 := X3_k.out.frozen 2
          have z_k3 := X3_k.out.frozen 3
          have z_k4 := X3_k.out.frozen 4
          go_wp2_with fail
          refine bodyPost_ret (v := koV ⟨9, ⟨#[]⟩, 0, x2, x3⟩) (by simp [koV, results, Tryz.results120, go_sem, c_b0, z_b0, c_k0, z_k0, c_b1, z_b1, c_k1, z_k1, c_b2, z_b2, c_k2, z_k2, c_b3, z_b3, c_k3, z_k3, c_b4, z_b4, c_k4, z_k4]) rfl ?_
          exact rpost_ok HE3.out (ha_low HA3.out hr (by repeat' (first | with_reducible exact Below.refl _ _ | with_reducible refine below_drewN ?_ _ | with_reducible refine Below.drew ?_ | with_reducible refine Below.setCell ?_ ?_ _ | with_reducible refine Below.alloc ?_ ?_ _ | omega | (simp; done) | (simp; omega)))) rfl (H0.out.keepB HS3.out (by repeat' (first | with_reducible exact Below.refl _ _ | with_reducible refine below_drewN ?_ _ | with_reducible refine Below.drew ?_ | with_reducible refine Below.setCell ?_ ?_ _ | with_reducible refine Below.alloc ?_ ?_ _ | omega | (simp; done) | (simp; omega))))
    have T9 : ((x1 : Int) == 9) = false := by simp; omega
    by_cases t10 : x1 = 10
    · obtain rfl : x1 = 10 := t10
      have HE1 := Lib.hid (HE1.out.trans (if_neg (by decide)))
      have HE1 := Lib.hid (HE1.out.trans (if_neg (by decide)))
      have HE1 := Lib.hid (HE1.out.trans (if_neg (by decide)))
      have HE1 := Lib.hid (HE1.out.trans (if_pos (by decide)))
      go_wp2_with (go_at_call 117; refine (number_any r A cap 2 l s1 _ (H0.out.keepB HS1.out (by repeat' (first | with_reducible exact Below.refl _ _ | with_reducible refine below_drewN ?_ _ | with_reducible refine Below.drew ?_ | with_reducible refine Below.setCell ?_ ?_ _ | with_reducible refine Below.alloc ?_ ?_ _ | omega | (simp; done) | (simp; omega)))) (by omega)).mono ?_; refine stop_here ?_)
      refine go_on ?_
      intro e w2 hq
      rcases hq.cases with ⟨a, er, hp, hb, rfl⟩ | ⟨x2, s2, v, hp, hb, rfl, ⟨rfl, hn2⟩, hs⟩
      · have HP := Lib.hid (HE1.out.trans (bind_stop hp))
        clear hp
        have HA := Lib.hid (ha_step HA1.out hr (by repeat' (first | with_reducible exact Below.refl _ _ | with_reducible refine below_drewN ?_ _ | with_reducible refine Below.drew ?_ | with_reducible refine Below.setCell ?_ ?_ _ | with_reducible refine Below.alloc ?_ ?_ _ | omega | (simp; done) | (simp; omega))) hb)
        clear hb
        go_wp2_with fail
        exact (show _ ∧ _ from ⟨rfl, rpost_error HP.out HA.out⟩)
      · have HE2 := Lib.hid (HE1.out.trans (bind_step hp))
        clear hp
        have HA2 := Lib.hid (ha_step HA1.out hr (by repeat' (first | with_reducible exact Below.refl _ _ | with_reducible refine below_drewN ?_ _ | with_reducible refine Below.drew ?_ | with_reducible refine Below.setCell ?_ ?_ _ | with_reducible refine Below.alloc ?_ ?_ _ | omega | (simp; done) | (simp; omega))) hb)
        have HS2 := Lib.hid hs
        have hz2 := hb.but.size
        try simp at hz2
        have hy2 := HA2.out.but.size
        have e_kr : ¬ w1.heap.size = r := by omega
        have e_kr' : ¬ r = w1.heap.size := by omega
        have e_kb : ¬ w1.heap.size = w.heap.size := by omega
        have e_kb' : ¬ w.heap.size = w1.heap.size := by omega
        have X2_b := Lib.hid ((X1_b.out.below ((Below.refl _ _).alloc (Nat.le_refl _) _) X1_b.out.lt).but hb.but (ne_one (by omega)))
        have X2_k := Lib.hid ((bx_new_at _ [.int .i64 10, .string ⟨#[]⟩, .int .i64 0, .int .i64 0, .int .i64 0] 78 (w1.heap.size) (by simp)).but hb.but (ne_one (by omega)))
        clear hb hs X1_b
        have c_k0 := X2_k.out.cell 0 rfl
        have z_k0 := X2_k.out.frozen 0
        have c_k1 := X2_k.out.cell 1 rfl
        have z_k1 := X2_k.out.frozen 1
        have c_k2 := X2_k.out.cell 2 rfl
        have z_k2 := X2_k.out.frozen 2
        have c_k3 := X2_k.out.cell 3 rfl
        have z_k3 := X2_k.out.frozen 3
        have c_k4 := X2_k.out.cell 4 rfl
        have z_k4 := X2_k.out.frozen 4
        go_wp2_with (go_at_call 117; refine (number_any r A cap 2 l s2 _ (H0.out.keepB HS2.out (by repeat' (first | with_reducible exact Below.refl _ _ | with_reducible refine below_drewN ?_ _ | with_reducible refine Below.drew ?_ | with_reducible refine Below.setCell ?_ ?_ _ | with_reducible refine Below.alloc ?_ ?_ _ | omega | (simp; done) | (simp; omega)))) (by omega)).mono ?_; refine stop_here ?_)
        refine go_on ?_
        intro e w3 hq
        rcases hq.cases with ⟨a, er, hp, hb, rfl⟩ | ⟨x3, s3, v, hp, hb, rfl, ⟨rfl, hn3⟩, hs⟩
        · have HP := Lib.hid (HE2.out.trans (bind_stop hp))
          clear hp
          have HA := Lib.hid (ha_step HA2.out hr (by repeat' (first | with_reducible exact Below.refl _ _ | with_reducible refine below_drewN ?_ _ | with_reducible refine Below.drew ?_ | with_reducible refine Below.setCell ?_ ?_ _ | with_reducible refine Below.alloc ?_ ?_ _ | omega | (simp; done) | (simp; omega))) hb)
          clear hb
          go_wp2_with fail
          exact (show _ ∧ _ from ⟨rfl, rpost_error HP.out HA.out⟩)
        · have HE3 := Lib.hid (HE2.out.trans (bind_step hp))
          clear hp
          have HA3 := Lib.hid (ha_step HA2.out hr (by repeat' (first | with_reducible exact Below.refl _ _ | with_reducible refine below_drewN ?_ _ | with_reducible refine Below.drew ?_ | with_reducible refine Below.setCell ?_ ?_ _ | with_reducible refine Below.alloc ?_ ?_ _ | omega | (simp; done) | (simp; omega))) hb)
          have HS3 := Lib.hid hs
          have hz3 := hb.but.size
          try simp at hz3
          have hy3 := HA3.out.but.size
          have X3_b := Lib.hid ((X2_b.out.set_other _ _ (by first | (simp; done) | (simp; omega))).but hb.but (ne_one (by omega)))
          have X3_k := Lib.hid ((X2_k.out.set 3 (.int .i64 x2)).but hb.but (ne_one (by omega)))
          clear hb hs X2_b X2_k
          have c_k0 := X3_k.out.cell 0 rfl
          have c_k1 := X3_k.out.cell 1 rfl
          have c_k2 := X3_k.out.cell 2 rfl
          have c_k3 := X3_k.out.cell 3 rfl
          have c_k4 := X3_k.out.cell 4 rfl
          have c_b0 := X3_b.out.cell 0 rfl
          have z_b0 := X3_b.out.frozen 0
          have c_b1 := X3_b.out.cell 1 rfl
          have z_b1 := X3_b.out.frozen 1
          have c_b2 := X3_b.out.cell 2 rfl
          have z_b2 := X3_b.out.frozen 2
          have c_b3 := X3_b.out.cell 3 rfl
          have z_b3 := X3_b.out.frozen 3
          have c_b4 := X3_b.out.cell 4 rfl
          have z_b4 := X3_b.out.frozen 4
          have z_k0 := X3_k.out.frozen 0
          have z_k1 := X3_k.out.frozen 1
          have z_k2 := X3_k.out.frozen 2
          have z_k3 := X3_k.out.frozen 3
          have z_k4 := X3_k.out.frozen 4
          go_wp2_with fail
          refine bodyPost_ret (v := koV ⟨10, ⟨#[]⟩, 0, x2, x3⟩) (by simp [koV, results, Tryz.results120, go_sem, c_b0, z_b0, c_k0, z_k0, c_b1, z_b1, c_k1, z_k1, c_b2, z_b2, c_k2, z_k2, c_b3, z_b3, c_k3, z_k3, c_b4, z_b4, c_k4, z_k4]) rfl ?_
          exact rpost_ok HE3.out (ha_low HA3.out hr (by repeat' (first | with_reducible exact Below.refl _ _ | with_reducible refine below_drewN ?_ _ | with_reducible refine Below.drew ?_ | with_reducible refine Below.setCell ?_ ?_ _ | with_reducible refine Below.alloc ?_ ?_ _ | omega | (simp; done) | (simp; omega)))) rfl (H0.out.keepB HS3.out (by repeat' (first | with_reducible exact Below.refl _ _ | with_reducible refine below_drewN ?_ _ | with_reducible refine Below.drew ?_ | with_reducible refine Below.setCell ?_ ?_ _ | with_reducible refine Below.alloc ?_ ?_ _ | omega | (simp; done) | (simp; omega))))
    have T10 : ((x1 : Int) == 10) = false := by simp; omega
    by_cases t11 : x1 = 11
    · obtain rfl : x1 = 11 := t11
      have HE1 := Lib.hid (HE1.out.trans (if_neg (by decide)))
      have HE1 := Lib.hid (HE1.out.trans (if_neg (by decide)))
      have HE1 := Lib.hid (HE1.out.trans (if_neg (by decide)))
      have HE1 := Lib.hid (HE1.out.trans (if_pos (by decide)))
      go_wp2_with (go_at_call 117; refine (number_any r A cap 2 l s1 _ (H0.out.keepB HS1.out (by repeat' (first | with_reducible exact Below.refl _ _ | with_reducible refine below_drewN ?_ _ | with_reducible refine Below.drew ?_ | with_reducible refine Below.setCell ?_ ?_ _ | with_reducible refine Below.alloc ?_ ?_ _ | omega | (simp; done) | (simp; omega)))) (by omega)).mono ?_; refine stop_here ?_)
      refine go_on ?_
      intro e w2 hq
      rcases hq.cases with ⟨a, er, hp, hb, rfl⟩ | ⟨x2, s2, v, hp, hb, rfl, ⟨rfl, hn2⟩, hs⟩
      · have HP := Lib.hid (HE1.out.trans (bind_stop hp))
        clear hp
        have HA := Lib.hid (ha_step HA1.out hr (by repeat' (first | with_reducible exact Below.refl _ _ | with_reducible refine below_drewN ?_ _ | with_reducible refine Below.drew ?_ | with_reducible refine Below.setCell ?_ ?_ _ | with_reducible refine Below.alloc ?_ ?_ _ | omega | (simp; done) | (simp; omega))) hb)
        clear hb
        go_wp2_with fail
        exact (show _ ∧ _ from ⟨rfl, rpost_error HP.out HA.out⟩)
      · have HE2 := Lib.hid (HE1.out.trans (bind_step hp))
        clear hp
        have HA2 := Lib.hid (ha_step HA1.out hr (by repeat' (first | with_reducible exact Below.refl _ _ | with_reducible refine below_drewN ?_ _ | with_reducible refine Below.drew ?_ | with_reducible refine Below.setCell ?_ ?_ _ | with_reducible refine Below.alloc ?_ ?_ _ | omega | (simp; done) | (simp; omega))) hb)
        have HS2 := Lib.hid hs
        have hz2 := hb.but.size
        try simp at hz2
        have hy2 := HA2.out.but.size
        have e_kr : ¬ w1.heap.size = r := by omega
        have e_kr' : ¬ r = w1.heap.size := by omega
        have e_kb : ¬ w1.heap.size = w.heap.size := by omega
        have e_kb' : ¬ w.heap.size = w1.heap.size := by omega
        have X2_b := Lib.hid ((X1_b.out.below ((Below.refl _ _).alloc (Nat.le_refl _) _) X1_b.out.lt).but hb.but (ne_one (by omega)))
        have X2_k := Lib.hid ((bx_new_at _ [.int .i64 11, .string ⟨#[]⟩, .int .i64 0, .int .i64 0, .int .i64 0] 78 (w1.heap.size) (by simp)).but hb.but (ne_one (by omega)))
        clear hb hs X1_b
        have c_k0 := X2_k.out.cell 0 rfl
        have z_k0 := X2_k.out.frozen 0
        have c_k1 := X2_k.out.cell 1 rfl
        have z_k1 := X2_k.out.frozen 1
        have c_k2 := X2_k.out.cell 2 rfl
        have z_k2 := X2_k.out.frozen 2
        have c_k3 := X2_k.out.cell 3 rfl
        have z_k3 := X2_k.out.frozen 3
        have c_k4 := X2_k.out.cell 4 rfl
        have z_k4 := X2_k.out.frozen 4
        go_wp2_with (go_at_call 117; refine (number_any r A cap 2 l s2 _ (H0.out.keepB HS2.out (by repeat' (first | with_reducible exact Below.refl _ _ | with_reducible refine below_drewN ?_ _ | with_reducible refine Below.drew ?_ | with_reducible refine Below.setCell ?_ ?_ _ | with_reducible refine Below.alloc ?_ ?_ _ | omega | (simp; done) | (simp; omega)))) (by omega)).mono ?_; refine stop_here ?_)
        refine go_on ?_
        intro e w3 hq
        rcases hq.cases with ⟨a, er, hp, hb, rfl⟩ | ⟨x3, s3, v, hp, hb, rfl, ⟨rfl, hn3⟩, hs⟩
        · have HP := Lib.hid (HE2.out.trans (bind_stop hp))
          clear hp
          have HA := Lib.hid (ha_step HA2.out hr (by repeat' (first | with_reducible exact Below.refl _ _ | with_reducible refine below_drewN ?_ _ | with_reducible refine Below.drew ?_ | with_reducible refine Below.setCell ?_ ?_ _ | with_reducible refine Below.alloc ?_ ?_ _ | omega | (simp; done) | (simp; omega))) hb)
          clear hb
          go_wp2_with fail
          exact (show _ ∧ _ from ⟨rfl, rpost_error HP.out HA.out⟩)
        · have HE3 := Lib.hid (HE2.out.trans (bind_step hp))
          clear hp
          have HA3 := Lib.hid (ha_step HA2.out hr (by repeat' (first | with_reducible exact Below.refl _ _ | with_reducible refine below_drewN ?_ _ | with_reducible refine Below.drew ?_ | with_reducible refine Below.setCell ?_ ?_ _ | with_reducible refine Below.alloc ?_ ?_ _ | omega | (simp; done) | (simp; omega))) hb)
          have HS3 := Lib.hid hs
          have hz3 := hb.but.size
          try simp at hz3
          have hy3 := HA3.out.but.size
          have X3_b := Lib.hid ((X2_b.out.set_other _ _ (by first | (simp; done) | (simp; omega))).but hb.but (ne_one (by omega)))
          have X3_k := Lib.hid ((X2_k.out.set 3 (.int .i64 x2)).but hb.but (ne_one (by omega)))
          clear hb hs X2_b X2_k
          have c_k0 := X3_k.out.cell 0 rfl
          have c_k1 := X3_k.out.cell 1 rfl
          have c_k2 := X3_k.out.cell 2 rfl
          have c_k3 := X3_k.out.cell 3 rfl
          have c_k4 := X3_k.out.cell 4 rfl
          have c_b0 := X3_b.out.cell 0 rfl
          have z_b0 := X3_b.out.frozen 0
          have c_b1 := X3_b.out.cell 1 rfl
          have z_b1 := X3_b.out.frozen 1
          have c_b2 := X3_b.out.cell 2 rfl
          have z_b2 := X3_b.out.frozen 2
          have c_b3 := X3_b.out.cell 3 rfl
          have z_b3 := X3_b.out.frozen 3
          have c_b4 := X3_b.out.cell 4 rfl
          have z_b4 := X3_b.out.frozen 4
          have z_k0 := X3_k.out.frozen 0
          have z_k1 := X3_k.out.frozen 1
          have z_k2 := X3_k.out.frozen 2
          have z_k3 := X3_k.out.frozen 3
          have z_k4 := X3_k.out.frozen 4
          go_wp2_with fail
          refine bodyPost_ret (v := koV ⟨11, ⟨#[]⟩, 0, x2, x3⟩) (by simp [koV, results, Tryz.results120, go_sem, c_b0, z_b0, c_k0, z_k0, c_b1, z_b1, c_k1, z_k1, c_b2, z_b2, c_k2, z_k2, c_b3, z_b3, c_k3, z_k3, c_b4, z_b4, c_k4, z_k4]) rfl ?_
          exact rpost_ok HE3.out (ha_low HA3.out hr (by repeat' (first | with_reducible exact Below.refl _ _ | with_reducible refine below_drewN ?_ _ | with_reducible refine Below.drew ?_ | with_reducible refine Below.setCell ?_ ?_ _ | with_reducible refine Below.alloc ?_ ?_ _ | omega | (simp; done) | (simp; omega)))) rfl (H0.out.keepB HS3.out (by repeat' (first | with_reducible exact Below.refl _ _ | with_reducible refine below_drewN ?_ _ | with_reducible refine Below.drew ?_ | with_reducible refine Below.setCell ?_ ?_ _ | with_reducible refine Below.alloc ?_ ?_ _ | omega | (simp; done) | (simp; omega))))
    have T11 : ((x1 : Int) == 11) = false := by simp; omega
    by_cases t12 : x1 = 12
    · obtain rfl : x1 = 12 := t12
      have HE1 := Lib.hid (HE1.out.trans (if_neg (by decide)))
      have HE1 := Lib.hid (HE1.out.trans (if_neg (by decide)))
      have HE1 := Lib.hid (HE1.out.trans (if_neg (by decide)))
      have HE1 := Lib.hid (HE1.out.trans (if_pos (by decide)))
      go_wp2_with (go_at_call 117; refine (number_any r A cap 2 l s1 _ (H0.out.keepB HS1.out (by repeat' (first | with_reducible exact Below.refl _ _ | with_reducible refine below_drewN ?_ _ | with_reducible refine Below.drew ?_ | with_reducible refine Below.setCell ?_ ?_ _ | with_reducible refine Below.alloc ?_ ?_ _ | omega | (simp; done) | (simp; omega)))) (by omega)).mono ?_; refine stop_here ?_)
      refine go_on ?_
      intro e w2 hq
      rcases hq.cases with ⟨a, er, hp, hb, rfl⟩ | ⟨x2, s2, v, hp, hb, rfl, ⟨rfl, hn2⟩, hs⟩
      · have HP := Lib.hid (HE1.out.trans (bind_stop hp))
        clear hp
        have HA := Lib.hid (ha_step HA1.out hr (by repeat' (first | with_reducible exact Below.refl _ _ | with_reducible refine below_drewN ?_ _ | with_reducible refine Below.drew ?_ | with_reducible refine Below.setCell ?_ ?_ _ | with_reducible refine Below.alloc ?_ ?_ _ | omega | (simp; done) | (simp; omega))) hb)
        clear hb
        go_wp2_with fail
        exact (show _ ∧ _ from ⟨rfl, rpost_error HP.out HA.out⟩)
      · have HE2 := Lib.hid (HE1.out.trans (bind_step hp))
        clear hp
        have HA2 := Lib.hid (ha_step HA1.out hr (by repeat' (first | with_reducible exact Below.refl _ _ | with_reducible refine below_drewN ?_ _ | with_reducible refine Below.drew ?_ | with_reducible refine Below.setCell ?_ ?_ _ | with_reducible refine Below.alloc ?_ ?_ _ | omega | (simp; done) | (simp; omega))) hb)
        have HS2 := Lib.hid hs
        have hz2 := hb.but.size
        try simp at hz2
        have hy2 := HA2.out.but.size
        have e_kr : ¬ w1.heap.size = r := by omega
        have e_kr' : ¬ r = w1.heap.size := by omega
        have e_kb : ¬ w1.heap.size = w.heap.size := by omega
        have e_kb' : ¬ w.heap.size = w1.heap.size := by omega
        have X2_b := Lib.hid ((X1_b.out.below ((Below.refl _ _).alloc (Nat.le_refl _) _) X1_b.out.lt).but hb.but (ne_one (by omega)))
        have X2_k := Lib.hid ((bx_new_at _ [.int .i64 12, .string ⟨#[]⟩, .int .i64 0, .int .i64 0, .int .i64 0] 78 (w1.heap.size) (by simp)).but hb.but (ne_one (by omega)))
        clear hb hs X1_b
        have c_k0 := X2_k.out.cell 0 rfl
        have z_k0 := X2_k.out.frozen 0
        have c_k1 := X2_k.out.cell 1 rfl
        have z_k1 := X2_k.out.frozen 1
        have c_k2 := X2_k.out.cell 2 rfl
        have z_k2 := X2_k.out.frozen 2
        have c_k3 := X2_k.out.cell 3 rfl
        have z_k3 := X2_k.out.frozen 3
        have c_k4 := X2_k.out.cell 4 rfl
        have z_k4 := X2_k.out.frozen 4
        go_wp2_with (go_at_call 117; refine (number_any r A cap 2 l s2 _ (H0.out.keepB HS2.out (by repeat' (first | with_reducible exact Below.refl _ _ | with_reducible refine below_drewN ?_ _ | with_reducible refine Below.drew ?_ | with_reducible refine Below.setCell ?_ ?_ _ | with_reducible refine Below.alloc ?_ ?_ _ | omega | (simp; done) | (simp; omega)))) (by omega)).mono ?_; refine stop_here ?_)
        refine go_on ?_
        intro e w3 hq
        rcases hq.cases with ⟨a, er, hp, hb, rfl⟩ | ⟨x3, s3, v, hp, hb, rfl, ⟨rfl, hn3⟩, hs⟩
        · have HP := Lib.hid (HE2.out.trans (bind_stop hp))
          clear hp
          have HA := Lib.hid (ha_step HA2.out hr (by repeat' (first | with_reducible exact Below.refl _ _ | with_reducible refine below_drewN ?_ _ | with_reducible refine Below.drew ?_ | with_reducible refine Below.setCell ?_ ?_ _ | with_reducible refine Below.alloc ?_ ?_ _ | omega | (simp; done) | (simp; omega))) hb)
          clear hb
          go_wp2_with fail
          exact (show _ ∧ _ from ⟨rfl, rpost_error HP.out HA.out⟩)
        · have HE3 := Lib.hid (HE2.out.trans (bind_step hp))
          clear hp
          have HA3 := Lib.hid (ha_step HA2.out hr (by repeat' (first | with_reducible exact Below.refl _ _ | with_reducible refine below_drewN ?_ _ | with_reducible refine Below.drew ?_ | with_reducible refine Below.setCell ?_ ?_ _ | with_reducible refine Below.alloc ?_ ?_ _ | omega | (simp; done) | (simp; omega))) hb)
          have HS3 := Lib.hid hs
          have hz3 := hb.but.size
          try simp at hz3
          have hy3 := HA3.out.but.size
          have X3_b := Lib.hid ((X2_b.out.set_other _ _ (by first | (simp; done) | (simp; omega))).but hb.but (ne_one (by omega)))
          have X3_k := Lib.hid ((X2_k.out.set 3 (.int .i64 x2)).but hb.but (ne_one (by omega)))
          clear hb hs X2_b X2_k
          have c_k0 := X3_k.out.cell 0 rfl
          have c_k1 := X3_k.out.cell 1 rfl
          have c_k2 := X3_k.out.cell 2 rfl
          have c_k3 := X3_k.out.cell 3 rfl
          have c_k4 := X3_k.out.cell 4 rfl
          have c_b0 := X3_b.out.cell 0 rfl
          have z_b0 := X3_b.out.frozen 0
          have c_b1 := X3_b.out.cell 1 rfl
          have z_b1 := X3_b.out.frozen 1
          have c_b2 := X3_b.out.cell 2 rfl
          have z_b2 := X3_b.out.frozen 2
          have c_b3 := X3_b.out.cell 3 rfl
          have z_b3 := X3_b.out.frozen 3
          have c_b4 := X3_b.out.cell 4 rfl
          have z_b4 := X3_b.out.frozen 4
          have z_k0 := X3_k.out.frozen 0
          have z_k1 := X3_k.out.frozen 1
          have z_k2 := X3_k.out.frozen 2
          have z_k3 := X3_k.out.frozen 3
          have z_k4 := X3_k.out.frozen 4
          go_wp2_with fail
          refine bodyPost_ret (v := koV ⟨12, ⟨#[]⟩, 0, x2, x3⟩) (by simp [koV, results, Tryz.results120, go_sem, c_b0, z_b0, c_k0, z_k0, c_b1, z_b1, c_k1, z_k1, c_b2, z_b2, c_k2, z_k2, c_b3, z_b3, c_k3, z_k3, c_b4, z_b4, c_k4, z_k4]) rfl ?_
          exact rpost_ok HE3.out (ha_low HA3.out hr (by repeat' (first | with_reducible exact Below.refl _ _ | with_reducible refine below_drewN ?_ _ | with_reducible refine Below.drew ?_ | with_reducible refine Below.setCell ?_ ?_ _ | with_reducible refine Below.alloc ?_ ?_ _ | omega | (simp; done) | (simp; omega)))) rfl (H0.out.keepB HS3.out (by repeat' (first | with_reducible exact Below.refl _ _ | with_reducible refine below_drewN ?_ _ | with_reducible refine Below.drew ?_ | with_reducible refine Below.setCell ?_ ?_ _ | with_reducible refine Below.alloc ?_ ?_ _ | omega | (simp; done) | (simp; omega))))
    have T12 : ((x1 : Int) == 12) = false := by simp; omega
    have HE1 := Lib.hid (HE1.out.trans (if_neg t1))
    have HE1 := Lib.hid (HE1.out.trans (if_neg t3))
    have HE1 := Lib.hid (HE1.out.trans (if_neg t7))
    have HE1 := Lib.hid (HE1.out.trans (if_neg (by omega)))
    go_wp2_with (go_at_call 118; refine (wrong_any _ _ _ _).mono ?_; rintro e w2 ⟨rfl, rfl⟩)
    exact ⟨rfl, rpost_error HE1.out (ha_low HA1.out hr (by repeat' (first | with_reducible exact Below.refl _ _ | with_reducible refine below_drewN ?_ _ | with_reducible refine Below.drew ?_ | with_reducible refine Below.setCell ?_ ?_ _ | with_reducible refine Below.alloc ?_ ?_ _ | omega | (simp; done) | (simp; omega))))⟩
end Go.Proofs.YtdbniocnjhfhdaaGreatDoor
