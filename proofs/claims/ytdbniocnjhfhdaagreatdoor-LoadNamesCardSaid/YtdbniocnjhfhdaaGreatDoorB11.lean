/-
  What the loader's laws rest on, part 11: walks of the program's functions and plain laws. Conditions: none but those that each theorem names.
-/
import Derived.Test.YtdbniocnjhfhdaaGreatDoorB10
import Derived.Laws.EntriesVeiled
/-
  check: a text, a class's name, by number.
-/
set_option linter.unusedSimpArgs false
set_option linter.unusedVariables false
set_option maxRecDepth 100000
set_option maxHeartbeats 1000000
namespace Go.Proofs.YtdbniocnjhfhdaaGreatDoor
open Go Go.RowKit Lib
/-- What is asked of a class that is handed over. -/
structure BookOk (w : World) (ok : Nat → Prop) (c : ClassV) (A : Option Addr) (cap : Nat) (ifs flds mths : Value) : Prop where
  hp : SlAt w ok 5 c.pool.length (c.pool.flatMap Ko.cells) (.slice A c.pool.length cap)
  h1 : ifs.oneCell' = true
  h2 : flds.oneCell' = true
  h3 : mths.oneCell' = true
theorem BookOk.below {w w' : World} {ok : Nat → Prop} {c : ClassV} {A : Option Addr} {cap : Nat} {ifs flds mths : Value} (h : BookOk w ok c A cap ifs flds mths) (hb : Below w.heap.size w w') : BookOk w' ok c A cap ifs flds mths := ⟨h.hp.keep (Kept.of_below hb), h.h1, h.h2, h.h3⟩
/-- A number that a class file may hold. -/
def Fine (n : Int) : Prop := -4611686018427387904 ≤ n ∧ n ≤ 4611686018427387904
def textAt (pool : List Ko) (n : Int) : Option ByteArray := (kindAt pool n 1).map (·.text)
def nameAt (pool : List Ko) (n : Int) : Option ByteArray := (kindAt pool n 7).bind fun k => textAt pool k.a
def optV (o : Option ByteArray) : Value := .tuple #[.string (o.getD ⟨#[]⟩), .bool o.isSome]
theorem bookV_open (c : ClassV) (pool ifs flds mths : Value) : bookV c pool ifs flds mths = .agg #[.int .i64 c.minor, .int .i64 c.major, pool, .int .i64 c.acc, .int .i64 c.this, .int .i64 c.sup, ifs, flds, mths] := rfl
theorem text_book (c : ClassV) (A : Option Addr) (cap : Nat) (ifs flds mths : Value) (n : Int) (ok : Nat → Prop) (w : World) (h : BookOk w ok c A cap ifs flds mths) (hn : Fine n) :
    Calls Tryz.prog 97 #[bookV c (.slice A c.pool.length cap) ifs flds mths, .int .i64 n] w fun e w' => e = .returned (optV (textAt c.pool n)) ∧ Below w.heap.size w w' := by
  have H := Lib.hid (h.below ((Below.refl _ _).alloc (Nat.le_refl _) (.cells #[.int .i64 c.minor, .int .i64 c.major, .slice A c.pool.length cap, .int .i64 c.acc, .int .i64 c.this, .int .i64 c.sup, ifs, flds, mths] 179)))
  have HN := Lib.hid hn
  have HT := Lib.hid (show textAt c.pool n = (kindAt c.pool n 1).map (·.text) from rfl)
  rcases hx : kindAt c.pool n 1 with _ | x
  all_goals
    have HX := Lib.hid hx
    clear h hn hx
    rw [bookV_open]
    go_enter Tryz.func97, Tryz.ntmps97
    go_wp2_with (go_at_call 98; refine (at_book c A cap ifs flds mths n 1 ok _ H.out.hp H.out.h1 H.out.h2 H.out.h3 HN.out.2 HN.out.1).mono ?_; rw [HX.out]; rintro e w1 ⟨rfl, hb⟩; simp only [kindV, koV, Option.getD_none, Option.getD_some, Option.isSome_none, Option.isSome_some, koZero]; have HB := Lib.hid hb; clear hb)
    go_ret2
    refine ⟨?_, (((Below.refl _ _).alloc (Nat.le_refl _) _).trans (HB.out.mono (by simp))).alloc (by have := HB.out.size; simp at this; omega) _⟩
    rw [HT.out, HX.out]
    rfl
theorem kindAt_mem {pool : List Ko} {n tag : Int} {x : Ko} (h : kindAt pool n tag = some x) : x ∈ pool ∧ x.tag = tag := by
  unfold kindAt at h
  split at h
  · cases h
  · split at h
    · cases h
    · rename_i k hk
      split at h
      · injection h with h
        subst h
        exact ⟨List.mem_of_getElem? hk, by assumption⟩
      · cases h
theorem name_book (c : ClassV) (A : Option Addr) (cap : Nat) (ifs flds mths : Value) (n : Int) (ok : Nat → Prop) (w : World) (h : BookOk w ok c A cap ifs flds mths) (hn : Fine n) (hf : ∀ k ∈ c.pool, Fine k.a) :
    Calls Tryz.prog 96 #[bookV c (.slice A c.pool.length cap) ifs flds mths, .int .i64 n] w fun e w' => e = .returned (optV (nameAt c.pool n)) ∧ Below w.heap.size w w' := by
  have H := Lib.hid (h.below ((Below.refl _ _).alloc (Nat.le_refl _) (.cells #[.int .i64 c.minor, .int .i64 c.major, .slice A c.pool.length cap, .int .i64 c.acc, .int .i64 c.this, .int .i64 c.sup, ifs, flds, mths] 179)))
  have X0 := Lib.hid (bx_new w [.int .i64 c.minor, .int .i64 c.major, .slice A c.pool.length cap, .int .i64 c.acc, .int .i64 c.this, .int .i64 c.sup, ifs, flds, mths] 179)
  have HN := Lib.hid hn
  have HF := Lib.hid hf
  have HT := Lib.hid (show nameAt c.pool n = (kindAt c.pool n 7).bind fun k => textAt c.pool k.a from rfl)
  rcases hx : kindAt c.pool n 7 with _ | x
  · have HX := Lib.hid hx
    clear h hn hx hf
    rw [bookV_open]
    go_enter Tryz.func96, Tryz.ntmps96
    go_wp2_with (go_at_call 98; refine (at_book c A cap ifs flds mths n 7 ok _ H.out.hp H.out.h1 H.out.h2 H.out.h3 HN.out.2 HN.out.1).mono ?_; rw [HX.out]; rintro e w1 ⟨rfl, hb⟩; simp only [kindV, koV, Option.getD_none, Option.getD_some, Option.isSome_none, Option.isSome_some, koZero]; have HB := Lib.hid hb; clear hb)
    go_ret2
    refine ⟨?_, (((Below.refl _ _).alloc (Nat.le_refl _) _).trans (HB.out.mono (by simp))).alloc (by have := HB.out.size; simp at this; omega) _⟩
    rw [HT.out, HX.out]
    rfl
  · have HX := Lib.hid hx
    have HXF := Lib.hid (HF.out x (kindAt_mem hx).1)
    clear h hn hx hf
    rw [bookV_open]
    go_enter Tryz.func96, Tryz.ntmps96
    go_wp2_with (go_at_call 98; refine (at_book c A cap ifs flds mths n 7 ok _ H.out.hp H.out.h1 H.out.h2 H.out.h3 HN.out.2 HN.out.1).mono ?_; rw [HX.out]; rintro e w1 ⟨rfl, hb⟩; simp only [kindV, koV, Option.getD_none, Option.getD_some, Option.isSome_none, Option.isSome_some, koZero]; refine stop_here ?_)
    have HB := Lib.hid hb
    have hz := hb.size
    simp at hz
    have X1 := Lib.hid (X0.out.below hb (by simp))
    have H1 := Lib.hid (H.out.below hb)
    clear hb
    obtain ⟨x1, x2, x3, x4, x5, x6, x7, x8, x9, x10, x11, x12⟩ := far w.heap.size w1.heap.size (by omega)
    have c0 := X1.out.cell 0 rfl
    have c1 := X1.out.cell 1 rfl
    have c2 := X1.out.cell 2 rfl
    have c3 := X1.out.cell 3 rfl
    have c4 := X1.out.cell 4 rfl
    have c5 := X1.out.cell 5 rfl
    have c6 := X1.out.cell 6 rfl
    have c7 := X1.out.cell 7 rfl
    have c8 := X1.out.cell 8 rfl
    refine go_on ?_
    go_wp2_with (go_at_call 97; refine stop_here ?_)
    refine go_on ?_
    refine (text_book c A cap ifs flds mths x.a ok _ (H1.out.below ((Below.refl _ _).alloc (Nat.le_refl _) _)) HXF.out).mono ?_
    rintro e w2 ⟨rfl, hb2⟩
    simp only [optV]
    have HB2 := Lib.hid hb2
    clear hb2
    go_wp2_with fail
    go_ret2
    refine ⟨?_, ((((Below.refl _ _).alloc (Nat.le_refl _) _).trans (HB.out.mono (by simp))).alloc (by omega) _).trans (HB2.out.mono (by simp; omega))⟩
    rw [HT.out, HX.out]
    rfl
end Go.Proofs.YtdbniocnjhfhdaaGreatDoor
/-
  check: what a class's head must be: the three rules.
-/
set_option linter.unusedSimpArgs false
set_option linter.unusedVariables false
set_option maxRecDepth 100000
set_option maxHeartbeats 1000000
namespace Go.Proofs.YtdbniocnjhfhdaaGreatDoor
open Go Go.RowKit Lib
def someB (a f : Int) : Bool := bits .and .i64 a f != 0
def allB (a f : Int) : Bool := bits .and .i64 a f == f
theorem some_any (a f : Int) (w : World) : Calls Tryz.prog 149 #[.int .i64 a, .int .i64 f] w fun e w' => e = .returned (.bool (someB a f)) ∧ w = w' := by
  go_enter Tryz.func149, Tryz.ntmps149
  go_wp2
  go_ret
  exact ⟨rfl, rfl⟩
theorem all_any (a f : Int) (w : World) : Calls Tryz.prog 150 #[.int .i64 a, .int .i64 f] w fun e w' => e = .returned (.bool (allB a f)) ∧ w = w' := by
  go_enter Tryz.func150, Tryz.ntmps150
  go_wp2
  go_ret
  exact ⟨rfl, rfl⟩
/-- Is there no class of that number? -/
def missB (pool : List Ko) (n : Int) : Bool := !(kindAt pool n 7).isSome
def objectL : List UInt8 := [106, 97, 118, 97, 47, 108, 97, 110, 103, 47, 79, 98, 106, 101, 99, 116]
theorem head1_any (c : ClassV) (A : Option Addr) (cap : Nat) (ifs flds mths : Value) (ok : Nat → Prop) (w : World) (h : BookOk w ok c A cap ifs flds mths) (hn : Fine c.this) :
    Calls Tryz.prog 146 #[bookV c (.slice A c.pool.length cap) ifs flds mths] w fun e w' => e = .returned (.bool (missB c.pool c.this)) ∧ Below w.heap.size w w' := by
  have H := Lib.hid (h.below ((Below.refl _ _).alloc (Nat.le_refl _) (.cells #[.int .i64 c.minor, .int .i64 c.major, .slice A c.pool.length cap, .int .i64 c.acc, .int .i64 c.this, .int .i64 c.sup, ifs, flds, mths] 179)))
  have HN := Lib.hid hn
  rcases hx : kindAt c.pool c.this 7 with _ | x
  all_goals
    have HX := Lib.hid hx
    clear h hn hx
    rw [bookV_open]
    go_enter Tryz.func146, Tryz.ntmps146
    go_wp2_with (go_at_call 98; refine (at_book c A cap ifs flds mths c.this 7 ok _ H.out.hp H.out.h1 H.out.h2 H.out.h3 HN.out.2 HN.out.1).mono ?_; rw [HX.out]; rintro e w1 ⟨rfl, hb⟩; simp only [kindV, koV, Option.getD_none, Option.getD_some, Option.isSome_none, Option.isSome_some, koZero]; have HB := Lib.hid hb; clear hb)
    go_ret
    exact ⟨by unfold missB; rw [HX.out]; rfl, (((Below.refl _ _).alloc (Nat.le_refl _) _).trans (HB.out.mono (by simp))).alloc (by have := HB.out.size; simp at this; omega) _⟩
theorem head2_any (c : ClassV) (A : Option Addr) (cap : Nat) (ifs flds mths : Value) (ok : Nat → Prop) (w : World) (h : BookOk w ok c A cap ifs flds mths) (hn : Fine c.sup) :
    Calls Tryz.prog 147 #[bookV c (.slice A c.pool.length cap) ifs flds mths] w fun e w' => e = .returned (.bool (missB c.pool c.sup)) ∧ Below w.heap.size w w' := by
  have H := Lib.hid (h.below ((Below.refl _ _).alloc (Nat.le_refl _) (.cells #[.int .i64 c.minor, .int .i64 c.major, .slice A c.pool.length cap, .int .i64 c.acc, .int .i64 c.this, .int .i64 c.sup, ifs, flds, mths] 179)))
  have HN := Lib.hid hn
  rcases hx : kindAt c.pool c.sup 7 with _ | x
  all_goals
    have HX := Lib.hid hx
    clear h hn hx
    rw [bookV_open]
    go_enter Tryz.func147, Tryz.ntmps147
    go_wp2_with (go_at_call 98; refine (at_book c A cap ifs flds mths c.sup 7 ok _ H.out.hp H.out.h1 H.out.h2 H.out.h3 HN.out.2 HN.out.1).mono ?_; rw [HX.out]; rintro e w1 ⟨rfl, hb⟩; simp only [kindV, koV, Option.getD_none, Option.getD_some, Option.isSome_none, Option.isSome_some, koZero]; have HB := Lib.hid hb; clear hb)
    go_ret
    exact ⟨by unfold missB; rw [HX.out]; rfl, (((Below.refl _ _).alloc (Nat.le_refl _) _).trans (HB.out.mono (by simp))).alloc (by have := HB.out.size; simp at this; omega) _⟩
/-- Flags that a class can't have. -/
def headBad (acc : Int) (sup : Option ByteArray) : Bool := (someB acc 512 && (!someB acc 1024 || someB acc 16)) || allB acc 1040 || (someB acc 512 && (!sup.isSome || (sup.getD ⟨#[]⟩).toList != objectL))
theorem head3_any (c : ClassV) (A : Option Addr) (cap : Nat) (ifs flds mths : Value) (ok : Nat → Prop) (w : World) (h : BookOk w ok c A cap ifs flds mths) (bk bs : Nat) (sup : Option ByteArray) (hk : w.cell? ⟨bk, 0, none⟩ = some (.bool sup.isSome)) (hs : w.cell? ⟨bs, 0, none⟩ = some (.string (sup.getD ⟨#[]⟩))) (hbk : bk < w.heap.size) (hbs : bs < w.heap.size) :
    Calls Tryz.prog 148 #[bookV c (.slice A c.pool.length cap) ifs flds mths, .pointer (some ⟨bk, 0, none⟩), .pointer (some ⟨bs, 0, none⟩)] w fun e w' => e = .returned (.bool (headBad c.acc sup)) ∧ Below w.heap.size w w' := by
  have HW := Lib.hid ((Below.refl w.heap.size w).alloc (Nat.le_refl _) (.cells #[.int .i64 c.minor, .int .i64 c.major, .slice A c.pool.length cap, .int .i64 c.acc, .int .i64 c.this, .int .i64 c.sup, ifs, flds, mths] 179))
  obtain ⟨x1, x2, x3, x4, x5, x6, x7, x8, x9, x10, x11, x12⟩ := far bk w.heap.size hbk
  obtain ⟨y1, y2, y3, y4, y5, y6, y7, y8, y9, y10, y11, y12⟩ := far bs w.heap.size hbs
  obtain ⟨kn, hkn⟩ : ∃ b, sup.isSome = b := ⟨_, rfl⟩
  obtain ⟨sp, hsp⟩ : ∃ b, sup.getD ⟨#[]⟩ = b := ⟨_, rfl⟩
  rw [hkn] at hk
  rw [hsp] at hs
  have HB0 : Hid (∀ acc, headBad acc sup = ((someB acc 512 && (!someB acc 1024 || someB acc 16)) || allB acc 1040 || (someB acc 512 && (!kn || sp.toList != objectL)))) := Lib.hid (fun acc => by unfold headBad; rw [hkn, hsp])
  clear h hkn hsp
  cases h_f : someB c.acc 512 with
  | false =>
    cases h_l : allB c.acc 1040 with
    | false =>
      have HR : Hid (headBad c.acc sup = false) := Lib.hid (by rw [HB0.out]; simp [h_f, h_l])
      have K0 := Lib.hid h_f
      have K1 := Lib.hid h_l
      clear h_f h_l
      rw [bookV_open]
      go_enter Tryz.func148, Tryz.ntmps148
      go_wp2_with (first | (go_at_call 149; refine (some_any _ _ _).mono ?_; rintro e w1 ⟨rfl, rfl⟩; (try rw [K0.out]); (try rw [K1.out])) | (go_at_call 150; refine (all_any _ _ _).mono ?_; rintro e w1 ⟨rfl, rfl⟩; (try rw [K0.out]); (try rw [K1.out])))
      go_ret
      exact ⟨by rw [HR.out]; rfl, HW.out⟩
    | true =>
      have HR : Hid (headBad c.acc sup = true) := Lib.hid (by rw [HB0.out]; simp [h_f, h_l])
      have K0 := Lib.hid h_f
      have K1 := Lib.hid h_l
      clear h_f h_l
      rw [bookV_open]
      go_enter Tryz.func148, Tryz.ntmps148
      go_wp2_with (first | (go_at_call 149; refine (some_any _ _ _).mono ?_; rintro e w1 ⟨rfl, rfl⟩; (try rw [K0.out]); (try rw [K1.out])) | (go_at_call 150; refine (all_any _ _ _).mono ?_; rintro e w1 ⟨rfl, rfl⟩; (try rw [K0.out]); (try rw [K1.out])))
      go_ret
      exact ⟨by rw [HR.out]; rfl, HW.out⟩
  | true =>
    cases h_a : someB c.acc 1024 with
    | false =>
      have HR : Hid (headBad c.acc sup = true) := Lib.hid (by rw [HB0.out]; simp [h_f, h_a])
      have K0 := Lib.hid h_f
      have K1 := Lib.hid h_a
      clear h_f h_a
      rw [bookV_open]
      go_enter Tryz.func148, Tryz.ntmps148
      go_wp2_with (first | (go_at_call 149; refine (some_any _ _ _).mono ?_; rintro e w1 ⟨rfl, rfl⟩; (try rw [K0.out]); (try rw [K1.out])) | (go_at_call 150; refine (all_any _ _ _).mono ?_; rintro e w1 ⟨rfl, rfl⟩; (try rw [K0.out]); (try rw [K1.out])))
      go_ret
      exact ⟨by rw [HR.out]; rfl, HW.out⟩
    | true =>
      cases h_i : someB c.acc 16 with
      | true =>
        have HR : Hid (headBad c.acc sup = true) := Lib.hid (by rw [HB0.out]; simp [h_f, h_a, h_i])
        have K0 := Lib.hid h_f
        have K1 := Lib.hid h_a
        have K2 := Lib.hid h_i
        clear h_f h_a h_i
        rw [bookV_open]
        go_enter Tryz.func148, Tryz.ntmps148
        go_wp2_with (first | (go_at_call 149; refine (some_any _ _ _).mono ?_; rintro e w1 ⟨rfl, rfl⟩; (try rw [K0.out]); (try rw [K1.out]); (try rw [K2.out])) | (go_at_call 150; refine (all_any _ _ _).mono ?_; rintro e w1 ⟨rfl, rfl⟩; (try rw [K0.out]); (try rw [K1.out]); (try rw [K2.out])))
        go_ret
        exact ⟨by rw [HR.out]; rfl, HW.out⟩
      | false =>
        cases h_l : allB c.acc 1040 with
        | true =>
          have HR : Hid (headBad c.acc sup = true) := Lib.hid (by rw [HB0.out]; simp [h_f, h_a, h_i, h_l])
          have K0 := Lib.hid h_f
          have K1 := Lib.hid h_a
          have K2 := Lib.hid h_i
          have K3 := Lib.hid h_l
          clear h_f h_a h_i h_l
          rw [bookV_open]
          go_enter Tryz.func148, Tryz.ntmps148
          go_wp2_with (first | (go_at_call 149; refine (some_any _ _ _).mono ?_; rintro e w1 ⟨rfl, rfl⟩; (try rw [K0.out]); (try rw [K1.out]); (try rw [K2.out]); (try rw [K3.out])) | (go_at_call 150; refine (all_any _ _ _).mono ?_; rintro e w1 ⟨rfl, rfl⟩; (try rw [K0.out]); (try rw [K1.out]); (try rw [K2.out]); (try rw [K3.out])))
          go_ret
          exact ⟨by rw [HR.out]; rfl, HW.out⟩
        | false =>
          cases kn with
          | false =>
            have HR : Hid (headBad c.acc sup = true) := Lib.hid (by rw [HB0.out]; simp [h_f, h_a, h_i, h_l])
            have K0 := Lib.hid h_f
            have K1 := Lib.hid h_a
            have K2 := Lib.hid h_i
            have K3 := Lib.hid h_l
            clear h_f h_a h_i h_l
            rw [bookV_open]
            go_enter Tryz.func148, Tryz.ntmps148
            go_wp2_with (first | (go_at_call 149; refine (some_any _ _ _).mono ?_; rintro e w1 ⟨rfl, rfl⟩; (try rw [K0.out]); (try rw [K1.out]); (try rw [K2.out]); (try rw [K3.out])) | (go_at_call 150; refine (all_any _ _ _).mono ?_; rintro e w1 ⟨rfl, rfl⟩; (try rw [K0.out]); (try rw [K1.out]); (try rw [K2.out]); (try rw [K3.out])))
            go_ret
            exact ⟨by rw [HR.out]; rfl, HW.out⟩
          | true =>
            cases h_q : (sp.toList == objectL) with
            | true =>
              have hqe : sp.toList = objectL := by simpa using h_q
              have hqb : (sp.toList != objectL) = false := by simp [hqe]
              unfold objectL at h_q hqb
              have HR : Hid (headBad c.acc sup = false) := Lib.hid (by rw [HB0.out]; simp [h_f, h_a, h_i, h_l, hqe])
              clear hqe
              have K0 := Lib.hid h_f
              have K1 := Lib.hid h_a
              have K2 := Lib.hid h_i
              have K3 := Lib.hid h_l
              clear h_f h_a h_i h_l
              rw [bookV_open]
              go_enter Tryz.func148, Tryz.ntmps148
              go_wp2_with (first | (go_at_call 149; refine (some_any _ _ _).mono ?_; rintro e w1 ⟨rfl, rfl⟩; (try rw [K0.out]); (try rw [K1.out]); (try rw [K2.out]); (try rw [K3.out])) | (go_at_call 150; refine (all_any _ _ _).mono ?_; rintro e w1 ⟨rfl, rfl⟩; (try rw [K0.out]); (try rw [K1.out]); (try rw [K2.out]); (try rw [K3.out])))
              go_ret
              exact ⟨by rw [HR.out]; rfl, HW.out⟩
            | false =>
              have hqe : ¬ sp.toList = objectL := by simpa using h_q
              have hqb : (sp.toList != objectL) = true := by simp [hqe]
              unfold objectL at h_q hqb
              have HR : Hid (headBad c.acc sup = true) := Lib.hid (by rw [HB0.out]; simp [h_f, h_a, h_i, h_l, hqe])
              clear hqe
              have K0 := Lib.hid h_f
              have K1 := Lib.hid h_a
              have K2 := Lib.hid h_i
              have K3 := Lib.hid h_l
              clear h_f h_a h_i h_l
              rw [bookV_open]
              go_enter Tryz.func148, Tryz.ntmps148
              go_wp2_with (first | (go_at_call 149; refine (some_any _ _ _).mono ?_; rintro e w1 ⟨rfl, rfl⟩; (try rw [K0.out]); (try rw [K1.out]); (try rw [K2.out]); (try rw [K3.out])) | (go_at_call 150; refine (all_any _ _ _).mono ?_; rintro e w1 ⟨rfl, rfl⟩; (try rw [K0.out]); (try rw [K1.out]); (try rw [K2.out]); (try rw [K3.out])))
              go_ret
              exact ⟨by rw [HR.out]; rfl, HW.out⟩
end Go.Proofs.YtdbniocnjhfhdaaGreatDoor
/-
  check: the first of the three rules of a class's head that is broken.
-/
set_option linter.unusedSimpArgs false
set_option linter.unusedVariables false
set_option maxRecDepth 100000
set_option maxHeartbeats 2000000
namespace Go.Proofs.YtdbniocnjhfhdaaGreatDoor
open Go Go.RowKit Lib
def rulesV (bk bs : Nat) : List Value := [.int .i64 20, .func (.func 146) #[] #[], .int .i64 20, .func (.func 147) #[] #[], .int .i64 23, .func (.func 148) #[] #[.pointer (some ⟨bk, 0, none⟩), .pointer (some ⟨bs, 0, none⟩)]]
def rulesE (b1 b2 b3 : Bool) : Int := if b1 then 20 else if b2 then 20 else if b3 then 23 else 0
theorem first_book (c : ClassV) (A : Option Addr) (cap : Nat) (ifs flds mths : Value) (ok : Nat → Prop) (w : World) (h : BookOk w ok c A cap ifs flds mths) (hn1 : Fine c.this) (hn2 : Fine c.sup) (g bk bs : Nat) (sup : Option ByteArray) (t : TypeId) (hg : Bx w g (rulesV bk bs) t) (hk : w.cell? ⟨bk, 0, none⟩ = some (.bool sup.isSome)) (hs : w.cell? ⟨bs, 0, none⟩ = some (.string (sup.getD ⟨#[]⟩))) (hbk : bk < w.heap.size) (hbs : bs < w.heap.size) :
    Calls Tryz.prog 145 #[bookV c (.slice A c.pool.length cap) ifs flds mths, .slice (some ⟨g, 0, none⟩) 3 3] w fun e w' =>
      e = .returned (.int .i64 (rulesE (missB c.pool c.this) (missB c.pool c.sup) (headBad c.acc sup))) ∧ Below w.heap.size w w' := by
  have HW := Lib.hid ((Below.refl w.heap.size w).alloc (Nat.le_refl _) (.cells #[.int .i64 c.minor, .int .i64 c.major, .slice A c.pool.length cap, .int .i64 c.acc, .int .i64 c.this, .int .i64 c.sup, ifs, flds, mths] 179))
  have X0 := Lib.hid (bx_new w [.int .i64 c.minor, .int .i64 c.major, .slice A c.pool.length cap, .int .i64 c.acc, .int .i64 c.this, .int .i64 c.sup, ifs, flds, mths] 179)
  have H0 := Lib.hid (h.below ((Below.refl _ _).alloc (Nat.le_refl _) (.cells #[.int .i64 c.minor, .int .i64 c.major, .slice A c.pool.length cap, .int .i64 c.acc, .int .i64 c.this, .int .i64 c.sup, ifs, flds, mths] 179)))
  have G0 := Lib.hid (hg.below ((Below.refl _ _).alloc (Nat.le_refl _) (.cells #[.int .i64 c.minor, .int .i64 c.major, .slice A c.pool.length cap, .int .i64 c.acc, .int .i64 c.this, .int .i64 c.sup, ifs, flds, mths] 179)) hg.lt)
  have HK0 := Lib.hid ((World.cell?_alloc_lt w (.cells #[.int .i64 c.minor, .int .i64 c.major, .slice A c.pool.length cap, .int .i64 c.acc, .int .i64 c.this, .int .i64 c.sup, ifs, flds, mths] 179) ⟨bk, 0, none⟩ hbk).trans hk)
  have HS0 := Lib.hid ((World.cell?_alloc_lt w (.cells #[.int .i64 c.minor, .int .i64 c.major, .slice A c.pool.length cap, .int .i64 c.acc, .int .i64 c.this, .int .i64 c.sup, ifs, flds, mths] 179) ⟨bs, 0, none⟩ hbs).trans hs)
  have HN1 := Lib.hid hn1
  have HN2 := Lib.hid hn2
  have hgl := hg.lt
  obtain ⟨v1, hv1⟩ : ∃ b, (missB c.pool c.this) = b := ⟨_, rfl⟩
  obtain ⟨v2, hv2⟩ : ∃ b, (missB c.pool c.sup) = b := ⟨_, rfl⟩
  obtain ⟨v3, hv3⟩ : ∃ b, headBad c.acc sup = b := ⟨_, rfl⟩
  rw [hv1, hv2, hv3]
  have HV1 := Lib.hid hv1
  have HV2 := Lib.hid hv2
  have HV3 := Lib.hid hv3
  clear h hg hk hs hn1 hn2 hv1 hv2 hv3
  rw [bookV_open]
  go_enter Tryz.func145, Tryz.ntmps145
  go_wp2_with fail
  refine wp_loop_rounds 4 ?_
  have g0 := G0.out.cell 0 rfl
  have g1 := G0.out.cell 1 rfl
  have c0 := X0.out.cell 0 rfl
  have c1 := X0.out.cell 1 rfl
  have c2 := X0.out.cell 2 rfl
  have c3 := X0.out.cell 3 rfl
  have c4 := X0.out.cell 4 rfl
  have c5 := X0.out.cell 5 rfl
  have c6 := X0.out.cell 6 rfl
  have c7 := X0.out.cell 7 rfl
  have c8 := X0.out.cell 8 rfl
  rw [rounds_succ]
  go_wp2_with (go_at_call 146; refine stop_here ?_)
  refine go_on ?_
  refine (head1_any c A cap ifs flds mths ok _ (H0.out.below ((Below.refl _ _).alloc (Nat.le_refl _) _)) HN1.out).mono ?_
  rw [HV1.out]
  rintro e w1 ⟨rfl, hb⟩
  have hz1 := hb.size
  simp at hz1
  have HW1 := Lib.hid ((HW.out.alloc (by first | (simp; done) | (simp; omega) | omega) _).trans (hb.mono (by first | (simp; done) | (simp; omega) | omega)))
  have X1 := Lib.hid ((X0.out.below ((Below.refl _ _).alloc (Nat.le_refl _) _) X0.out.lt).below hb (by first | (simp; done) | (simp; omega) | omega))
  have G1 := Lib.hid ((G0.out.below ((Below.refl _ _).alloc (Nat.le_refl _) _) G0.out.lt).below hb (by first | (simp; done) | (simp; omega) | omega))
  have H1 := Lib.hid ((H0.out.below ((Below.refl _ _).alloc (Nat.le_refl _) _)).below hb)
  have HK1 := Lib.hid ((hb.cell (p := ⟨bk, 0, none⟩) (by simp; omega)).trans ((World.cell?_alloc_lt _ _ _ (by simp; omega)).trans HK0.out))
  have HS1 := Lib.hid ((hb.cell (p := ⟨bs, 0, none⟩) (by simp; omega)).trans ((World.cell?_alloc_lt _ _ _ (by simp; omega)).trans HS0.out))
  have R1 := Lib.hid ((bx_new_at (w.alloc (.cells #[.int .i64 c.minor, .int .i64 c.major, .slice A c.pool.length cap, .int .i64 c.acc, .int .i64 c.this, .int .i64 c.sup, ifs, flds, mths] 179)) [.int .i64 20, .func (.func 146) #[] #[]] 213 (w.heap.size + 1) (by simp)).below hb (by first | (simp; done) | (simp; omega) | omega))
  have r0 := R1.out.cell 0 rfl
  clear hb c0 c1 c2 c3 c4 c5 c6 c7 c8 g0 g1
  cases v1 with
  | true =>
    go_wp2_with fail
    go_ret
    exact ⟨rfl, HW1.out⟩
  | false =>
    go_wp2_with fail
    have g2 := G1.out.cell 2 rfl
    have g3 := G1.out.cell 3 rfl
    have c0 := X1.out.cell 0 rfl
    have c1 := X1.out.cell 1 rfl
    have c2 := X1.out.cell 2 rfl
    have c3 := X1.out.cell 3 rfl
    have c4 := X1.out.cell 4 rfl
    have c5 := X1.out.cell 5 rfl
    have c6 := X1.out.cell 6 rfl
    have c7 := X1.out.cell 7 rfl
    have c8 := X1.out.cell 8 rfl
    obtain ⟨f1, f2, f3, f4, f5, f6, f7, f8, f9, f10, f11, f12⟩ := far w.heap.size w1.heap.size (by omega)
    obtain ⟨q1, q2, q3, q4, q5, q6, q7, q8, q9, q10, q11, q12⟩ := far g w1.heap.size (by omega)
    rw [rounds_succ]
    go_wp2_with (go_at_call 147; refine stop_here ?_)
    refine go_on ?_
    refine (head2_any c A cap ifs flds mths ok _ (H1.out.below ((Below.refl _ _).alloc (Nat.le_refl _) _)) HN2.out).mono ?_
    rw [HV2.out]
    rintro e w2 ⟨rfl, hb⟩
    have hz2 := hb.size
    simp at hz2
    have hq2 : w.heap.size < w2.heap.size := by omega
    have HW2 := Lib.hid ((HW1.out.alloc (by first | (simp; done) | (simp; omega) | omega) _).trans (hb.mono (by first | (simp; done) | (simp; omega) | omega)))
    have X2 := Lib.hid ((X1.out.below ((Below.refl _ _).alloc (Nat.le_refl _) _) X1.out.lt).below hb (by first | (simp; done) | (simp; omega) | omega))
    have G2 := Lib.hid ((G1.out.below ((Below.refl _ _).alloc (Nat.le_refl _) _) G1.out.lt).below hb (by first | (simp; done) | (simp; omega) | omega))
    have H2 := Lib.hid ((H1.out.below ((Below.refl _ _).alloc (Nat.le_refl _) _)).below hb)
    have HK2 := Lib.hid ((hb.cell (p := ⟨bk, 0, none⟩) (by simp; omega)).trans ((World.cell?_alloc_lt _ _ _ (by simp; omega)).trans HK1.out))
    have HS2 := Lib.hid ((hb.cell (p := ⟨bs, 0, none⟩) (by simp; omega)).trans ((World.cell?_alloc_lt _ _ _ (by simp; omega)).trans HS1.out))
    have R2 := Lib.hid ((bx_new_at w1 [.int .i64 20, .func (.func 147) #[] #[]] 213 (w1.heap.size) (by simp)).below hb (by first | (simp; done) | (simp; omega) | omega))
    have r0 := R2.out.cell 0 rfl
    clear hb c0 c1 c2 c3 c4 c5 c6 c7 c8 g2 g3
    cases v2 with
    | true =>
      go_wp2_with fail
      go_ret
      exact ⟨rfl, HW2.out⟩
    | false =>
      go_wp2_with fail
      have g4 := G2.out.cell 4 rfl
      have g5 := G2.out.cell 5 rfl
      have c0 := X2.out.cell 0 rfl
      have c1 := X2.out.cell 1 rfl
      have c2 := X2.out.cell 2 rfl
      have c3 := X2.out.cell 3 rfl
      have c4 := X2.out.cell 4 rfl
      have c5 := X2.out.cell 5 rfl
      have c6 := X2.out.cell 6 rfl
      have c7 := X2.out.cell 7 rfl
      have c8 := X2.out.cell 8 rfl
      obtain ⟨f1, f2, f3, f4, f5, f6, f7, f8, f9, f10, f11, f12⟩ := far w.heap.size w2.heap.size (by omega)
      obtain ⟨q1, q2, q3, q4, q5, q6, q7, q8, q9, q10, q11, q12⟩ := far g w2.heap.size (by omega)
      rw [rounds_succ]
      go_wp2_with (go_at_call 148; refine stop_here ?_)
      refine go_on ?_
      refine (head3_any c A cap ifs flds mths ok _ (H2.out.below ((Below.refl _ _).alloc (Nat.le_refl _) _)) bk bs sup ((World.cell?_alloc_lt _ _ _ (by simp; omega)).trans HK2.out) ((World.cell?_alloc_lt _ _ _ (by simp; omega)).trans HS2.out) (by simp; omega) (by simp; omega)).mono ?_
      rw [HV3.out]
      rintro e w3 ⟨rfl, hb⟩
      have hz3 := hb.size
      simp at hz3
      have hq3 : w.heap.size < w3.heap.size := by omega
      have HW3 := Lib.hid ((HW2.out.alloc (by first | (simp; done) | (simp; omega) | omega) _).trans (hb.mono (by first | (simp; done) | (simp; omega) | omega)))
      have X3 := Lib.hid ((X2.out.below ((Below.refl _ _).alloc (Nat.le_refl _) _) X2.out.lt).below hb (by first | (simp; done) | (simp; omega) | omega))
      have G3 := Lib.hid ((G2.out.below ((Below.refl _ _).alloc (Nat.le_refl _) _) G2.out.lt).below hb (by first | (simp; done) | (simp; omega) | omega))
      have H3 := Lib.hid ((H2.out.below ((Below.refl _ _).alloc (Nat.le_refl _) _)).below hb)
      have HK3 := Lib.hid ((hb.cell (p := ⟨bk, 0, none⟩) (by simp; omega)).trans ((World.cell?_alloc_lt _ _ _ (by simp; omega)).trans HK2.out))
      have HS3 := Lib.hid ((hb.cell (p := ⟨bs, 0, none⟩) (by simp; omega)).trans ((World.cell?_alloc_lt _ _ _ (by simp; omega)).trans HS2.out))
      have R3 := Lib.hid ((bx_new_at w2 [.int .i64 23, .func (.func 148) #[] #[.pointer (some ⟨bk, 0, none⟩), .pointer (some ⟨bs, 0, none⟩)]] 213 (w2.heap.size) (by simp)).below hb (by first | (simp; done) | (simp; omega) | omega))
      have r0 := R3.out.cell 0 rfl
      clear hb c0 c1 c2 c3 c4 c5 c6 c7 c8 g4 g5
      cases v3 with
      | true =>
        go_wp2_with fail
        go_ret
        exact ⟨rfl, HW3.out⟩
      | false =>
        go_wp2_with fail
        rw [rounds_succ]
        go_wp2_with fail
        go_ret
        exact ⟨rfl, HW3.out⟩
end Go.Proofs.YtdbniocnjhfhdaaGreatDoor
