/-
  What the loader's laws rest on, part 13: walks of the program's functions and plain laws. Conditions: none but those that each theorem names.
-/
import Derived.Test.YtdbniocnjhfhdaaGreatDoorB02
import Derived.Test.YtdbniocnjhfhdaaGreatDoorB11
import Derived.Test.YtdbniocnjhfhdaaGreatDoorB12

set_option linter.unusedSimpArgs false
set_option linter.unusedVariables false
set_option maxRecDepth 100000
set_option maxHeartbeats 1000000
namespace Go.Proofs.YtdbniocnjhfhdaaGreatDoor
open Go Go.RowKit Lib
def atOf (ns : List (List UInt8)) (s : List UInt8) : Int :=
  match ns.findIdx? (fun x => x == s) with
  | some i => i
  | none => -1
theorem atOf_hit {ns : List (List UInt8)} {s : List UInt8} {k : Nat} (h : ns[k]? = some s) (hn : ∀ j, j < k → ∀ x, ns[j]? = some x → x ≠ s) : atOf ns s = k := by
  have hk := (List.getElem?_eq_some_iff.1 h).1
  have he := (List.getElem?_eq_some_iff.1 h).2
  have : ns.findIdx? (fun x => x == s) = some k := by
    rw [List.findIdx?_eq_some_iff_getElem]
    refine ⟨hk, by simp [he], fun j hj => ?_⟩
    have := hn j hj _ (List.getElem?_eq_getElem (by omega))
    simpa using this
  unfold atOf
  rw [this]
theorem atOf_miss {ns : List (List UInt8)} {s : List UInt8} (hn : ∀ (j : Nat) (x : List UInt8), ns[j]? = some x → x ≠ s) : atOf ns s = -1 := by
  have : ns.findIdx? (fun x => x == s) = none := by
    rw [List.findIdx?_eq_none_iff]
    intro x hx
    obtain ⟨j, hj⟩ := List.mem_iff_getElem?.1 hx
    simpa using hn j x hj
  unfold atOf
  rw [this]
theorem at_any (g n cap : Nat) (ns : List (List UInt8)) (s : ByteArray) (w : World) (hl : ns.length = n) (hcap : n ≤ cap) (hm : n ≤ 4611686018427387904) (hc : ∀ j t, ns[j]? = some t → w.cell? ⟨g, j * 6, none⟩ = some (.string ⟨t.toArray⟩)) :
    Calls Tryz.prog 70 #[.slice (some ⟨g, 0, none⟩) n cap, .string s] w fun e w' => e = .returned (.int .i64 (atOf ns s.toList)) ∧ w = w' := by
  have HC := Lib.hid hc
  have HL := Lib.hid hl
  clear hc hl
  go_enter Tryz.func70, Tryz.ntmps70
  go_wp2_with fail
  go_loop [5, 8] (fun _ i => ∃ k : Nat, k ≤ n ∧ i = .int .i64 k ∧ Hid (∀ j, j < k → ∀ x, ns[j]? = some x → x ≠ s.toList)) (fun _ i => n - (RowKit.intOf i).toNat)
  case atStart => exact ⟨0, by omega, rfl, fun j hj => absurd hj (by omega)⟩
  case round =>
    obtain ⟨k, hk, rfl, HN⟩ := hrel
    by_cases hlt : k < n
    · obtain ⟨t, ht⟩ : ∃ t, ns[k]? = some t := ⟨_, List.getElem?_eq_getElem (by rw [HL.out]; exact hlt)⟩
      have c0 := HC.out k t ht
      have HT := Lib.hid ht
      clear ht
      by_cases he : t = s.toList
      · have HR := Lib.hid (atOf_hit (he ▸ HT.out) HN.out)
        have hb0 : (t == s.toList) = true := by simp [he]
        clear he
        go_wp2
        go_ret
        exact ⟨by rw [HR.out]; rfl, rfl⟩
      · have hb0 : (t == s.toList) = false := by simp [he]
        have HE := Lib.hid he
        clear he
        go_wp2
        go_round
        case rel => exact ⟨k + 1, by omega, by go_num, fun j hj x hx => by
          rcases Nat.lt_or_ge j k with h | h
          · exact HN.out j h x hx
          · obtain rfl : j = k := by omega
            rw [HT.out] at hx
            injection hx with hx
            subst hx
            exact HE.out⟩
        case measure => simp [RowKit.intOf]; omega
    · have hmiss := atOf_miss (ns := ns) (s := s.toList) (fun j x hx => HN.out j (by have := (List.getElem?_eq_some_iff.1 hx).1; have := HL.out; omega) x hx)
      have HMI := Lib.hid hmiss
      clear hmiss
      go_wp2
      go_ret
      exact ⟨by rw [HMI.out]; rfl, rfl⟩
end Go.Proofs.YtdbniocnjhfhdaaGreatDoor

set_option linter.unusedSimpArgs false
set_option linter.unusedVariables false
set_option maxRecDepth 100000
set_option maxHeartbeats 1000000
namespace Go.Proofs.YtdbniocnjhfhdaaGreatDoor
open Go Go.RowKit Lib
theorem atOf_lt {ns : List (List UInt8)} {s : List UInt8} {k : Nat} (h : atOf ns s = k) : k < ns.length := by
  unfold atOf at h
  split at h
  · rename_i i hi
    rw [List.findIdx?_eq_some_iff_getElem] at hi
    obtain ⟨hlt, _⟩ := hi
    omega
  · omega
theorem sees_none (g n cap : Nat) (ns : List (List UInt8)) (frm s : ByteArray) (w : World) (hl : ns.length = n) (hcap : n ≤ cap) (hm : n ≤ 4611686018427387904) (hc : ∀ j t, ns[j]? = some t → w.cell? ⟨g, j * 6, none⟩ = some (.string ⟨t.toArray⟩)) (ha : atOf ns s.toList < 0) :
    Calls Tryz.prog 69 #[.slice (some ⟨g, 0, none⟩) n cap, .string frm, .string s] w fun e w' => e = .returned (.bool false) ∧ w = w' := by
  obtain ⟨z, hz⟩ : ∃ z, atOf ns s.toList = z := ⟨_, rfl⟩
  have HA := at_any g n cap ns s w hl hcap hm hc
  rw [hz] at HA ha
  have HA' := Lib.hid HA
  clear HA hz hc hl
  go_enter Tryz.func69, Tryz.ntmps69
  go_wp2_with (go_at_call 70; refine HA'.out.mono ?_; rintro e w1 ⟨rfl, rfl⟩)
  go_ret
  exact ⟨rfl, rfl⟩
theorem sees_pub (g n cap : Nat) (ns : List (List UInt8)) (frm s : ByteArray) (w : World) (hl : ns.length = n) (hcap : n ≤ cap) (hm : n ≤ 4611686018427387904) (hc : ∀ j t, ns[j]? = some t → w.cell? ⟨g, j * 6, none⟩ = some (.string ⟨t.toArray⟩)) (k : Nat) (ha : atOf ns s.toList = k)
    (acc : Int) (h2 : w.cell? ⟨g, k * 6 + 2, none⟩ = some (.int .i64 acc)) (hp : bits .and .i64 acc 1 = 1) :
    Calls Tryz.prog 69 #[.slice (some ⟨g, 0, none⟩) n cap, .string frm, .string s] w fun e w' => e = .returned (.bool true) ∧ w = w' := by
  have hk := atOf_lt ha
  rw [hl] at hk
  have HA := at_any g n cap ns s w hl hcap hm hc
  rw [ha] at HA
  have HA' := Lib.hid HA
  clear HA ha hc hl
  go_enter Tryz.func69, Tryz.ntmps69
  go_wp2_with (go_at_call 70; refine HA'.out.mono ?_; rintro e w1 ⟨rfl, rfl⟩)
  go_ret
  exact ⟨rfl, rfl⟩
end Go.Proofs.YtdbniocnjhfhdaaGreatDoor

set_option linter.unusedSimpArgs false
set_option linter.unusedVariables false
set_option maxRecDepth 100000
set_option maxHeartbeats 1000000
namespace Go.Proofs.YtdbniocnjhfhdaaGreatDoor
open Go Go.RowKit Lib
theorem sees_priv (g n cap : Nat) (ns : List (List UInt8)) (frm s : ByteArray) (w : World) (hl : ns.length = n) (hcap : n ≤ cap) (hm : n ≤ 4611686018427387904) (hc : ∀ j t, ns[j]? = some t → w.cell? ⟨g, j * 6, none⟩ = some (.string ⟨t.toArray⟩)) (k : Nat) (ha : atOf ns s.toList = k)
    (acc : Int) (h2 : w.cell? ⟨g, k * 6 + 2, none⟩ = some (.int .i64 acc)) (hp : bits .and .i64 acc 1 = 0) (hf : frm.size ≤ 1048576) (hs : s.size ≤ 1048576) :
    Calls Tryz.prog 69 #[.slice (some ⟨g, 0, none⟩) n cap, .string frm, .string s] w fun e w' => e = .returned (.bool ((packageS frm).toList == (packageS s).toList)) ∧ w = w' := by
  have hk := atOf_lt ha
  rw [hl] at hk
  have HA := at_any g n cap ns s w hl hcap hm hc
  rw [ha] at HA
  have HA' := Lib.hid HA
  clear HA ha hc hl
  go_enter Tryz.func69, Tryz.ntmps69
  go_wp2_with (first | (go_at_call 70; refine HA'.out.mono ?_; rintro e w1 ⟨rfl, rfl⟩) | (go_at_call 100; refine (package_all _ _ (by assumption)).mono ?_; rintro e w1 ⟨rfl, rfl⟩))
  go_ret
  exact ⟨rfl, rfl⟩
end Go.Proofs.YtdbniocnjhfhdaaGreatDoor

set_option linter.unusedSimpArgs false
set_option linter.unusedVariables false
set_option maxRecDepth 100000
set_option maxHeartbeats 1000000
namespace Go.Proofs.YtdbniocnjhfhdaaGreatDoor
open Go Go.RowKit Lib Go.Maps
structure LT where
  ts : List TyK
  files : List UInt8 → Option ClassV
def LT.names (σ : LT) : List (List UInt8) := σ.ts.map (·.1)
def TypV.key (t : TypV) : TyK := (t.name.data.toList, t.sup.data.toList, t.acc, t.ifs.map (·.data.toList))
def accAt (ts : List TyK) (s : ByteArray) : Int := ((ts[(atOf (ts.map (·.1)) s.toList).toNat]?).map (·.2.2.1)).getD 0
def seesB (ts : List TyK) (frm to : ByteArray) : Bool := if atOf (ts.map (·.1)) to.toList < 0 then false else if bits .and .i64 (accAt ts to) 1 = 1 then true else (packageS frm).toList == (packageS to).toList
def faceB (ts : List TyK) (to : ByteArray) : Bool := bits .and .i64 (accAt ts to) 512 != 0
def aboveW (ld : LT → ByteArray → Option ByteArray × LT) (σ : LT) (frm to : ByteArray) (face : Bool) : Option ByteArray × LT :=
  match ld σ to with
  | (some e, σ1) => (some e, σ1)
  | (none, σ1) => if seesB σ1.ts frm to = false then (some illeB, σ1) else if faceB σ1.ts to ≠ face then (some incoB, σ1) else (none, σ1)
def facesW (ld : LT → ByteArray → Option ByteArray × LT) (frm : ByteArray) : List ByteArray → LT → Option ByteArray × LT
  | [], σ => (none, σ)
  | t :: r, σ => match aboveW ld σ frm t true with
    | (some e, σ1) => (some e, σ1)
    | (none, σ1) => facesW ld frm r σ1
def lastW (s : ByteArray) (c : ClassV) (t : TypV) (σ : LT) : LT := ⟨σ.ts ++ [t.key], fun x => if x = s.data.toList then some c else σ.files x⟩
def loadP (rd : ByteArray → Except ByteArray (ClassV × TypV)) : Nat → List (List UInt8) → LT → ByteArray → Option ByteArray × LT
  | 0, _, σ, _ => (none, σ)
  | n + 1, going, σ, s => if s.data.toList ∈ σ.names then (none, σ) else if s.data.toList ∈ going then (some circB, σ) else
    match rd s with
    | .error e => (some e, σ)
    | .ok (c, t) => match aboveW (loadP rd n (going ++ [s.data.toList])) σ s t.sup false with
      | (some e, σ1) => (some e, σ1)
      | (none, σ1) => match facesW (loadP rd n (going ++ [s.data.toList])) s t.ifs σ1 with
        | (some e, σ2) => (some e, σ2)
        | (none, σ2) => (none, lastW s c t σ2)
inductive ErrV : Value → ByteArray → Prop where
  | base (s : ByteArray) : ErrV (failV (langB s)) s
  | wrap (v : Value) (f s : ByteArray) : ErrV v s → ErrV (.iface 150 (.agg #[.string f, v])) s
def ErrIs : Option ByteArray → Value → Prop
  | none, x => x = .nilIface
  | some e, x => ErrV x e
structure LPos where
  lb : Nat
  bd : Nat
  bf : Nat
  bk : Nat
  bg : Nat
  ex : List Nat
def LPos.ro (L : LPos) (v : Value) (g : Nat) : Prop := g ≠ L.lb ∧ g ≠ L.bd ∧ g ≠ L.bf ∧ g ≠ L.bk ∧ g ≠ L.bg ∧ v.ownBlock ≠ some g ∧ g ∉ L.ex
def DefAt (W : World) (ok : Nat → Prop) : Option (List UInt8) → Option Value → Prop
  | none, x => x = none
  | some l, x => ∃ A cap, x = some (.slice A l.length cap) ∧ RdB W A l.length cap l ∧ (∀ a, A = some a → a.block < W.heap.size ∧ ok a.block) ∧ l.length ≤ 65536
def FileAt (W : World) (ok : Nat → Prop) : Option ClassV → Option Value → Prop
  | none, x => x = none
  | some c, x => ∃ p i f m, x = some (.agg (c.cells p i f m).toArray) ∧ ClassAt W ok c p i f m
def SlR (W : World) (ok : Nat → Prop) (size : Nat) (v : Value) : Prop := ∃ n cs, SlAt W ok size n cs v ∧ ∀ u ∈ cs, u.oneCell' = true
def TyV.ifCells (t : TyV) : List Value := t.ifl.map fun s => .string ⟨s.toArray⟩
def TyRd (W : World) (ok : Nat → Prop) (t : TyV) : Prop := SlAt W ok 1 t.ifl.length t.ifCells t.ifs ∧ SlR W ok 5 t.flds ∧ SlR W ok 5 t.mths
theorem DefAt.keep {W W' : World} {ok ok' : Nat → Prop} {o : Option (List UInt8)} {x : Option Value} (h : DefAt W ok o x) (hk : Kept ok W W') (ho : ∀ g, g < W.heap.size → ok g → ok' g) : DefAt W' ok' o x := by
  cases o with
  | none => exact h
  | some l =>
    obtain ⟨A, cap, h1, h2, h3, h4⟩ := h
    refine ⟨A, cap, h1, ⟨h2.hlen, h2.hle, h2.hmax, fun h0 => ?_⟩, fun a ha => ⟨Nat.lt_of_lt_of_le (h3 a ha).1 hk.size, ho _ (h3 a ha).1 (h3 a ha).2⟩, h4⟩
    obtain ⟨b, off, e, hlt, hc⟩ := h2.hat h0
    exact ⟨b, off, e, Nat.lt_of_lt_of_le hlt hk.size, fun i hi => (hk.cell b hlt (h3 _ e).2 _).trans (hc i hi)⟩
theorem FileAt.keep {W W' : World} {ok ok' : Nat → Prop} {o : Option ClassV} {x : Option Value} (h : FileAt W ok o x) (hk : Kept ok W W') (ho : ∀ g, g < W.heap.size → ok g → ok' g) : FileAt W' ok' o x := by
  cases o with
  | none => exact h
  | some c =>
    obtain ⟨p, i, f, m, h1, h2⟩ := h
    exact ⟨p, i, f, m, h1, (h2.mono (ok' := fun g => ok g ∧ ok' g) (fun g hg hk => ⟨hk, ho g hg hk⟩)).keep (hk.mono fun g hg => hg.1) |>.mono fun g _ hg => hg.2⟩
theorem SlR.keep {W W' : World} {ok ok' : Nat → Prop} {size : Nat} {v : Value} (h : SlR W ok size v) (hk : Kept ok W W') (ho : ∀ g, g < W.heap.size → ok g → ok' g) : SlR W' ok' size v := by
  obtain ⟨n, cs, h1, h2⟩ := h
  exact ⟨n, cs, ((h1.mono (ok' := fun g => ok g ∧ ok' g) (fun g hg hk => ⟨hk, ho g hg hk⟩)).keep (hk.mono fun g hg => hg.1)).mono fun g _ hg => hg.2, h2⟩
theorem TyRd.keep {W W' : World} {ok ok' : Nat → Prop} {t : TyV} (h : TyRd W ok t) (hk : Kept ok W W') (ho : ∀ g, g < W.heap.size → ok g → ok' g) : TyRd W' ok' t := ⟨((h.1.mono (ok' := fun g => ok g ∧ ok' g) (fun g hg hk => ⟨hk, ho g hg hk⟩)).keep (hk.mono fun g hg => hg.1)).mono fun g _ hg => hg.2, h.2.1.keep hk ho, h.2.2.keep hk ho⟩
structure LdG (B : Nat) (L : LPos) (nd : Nat) (defs : List UInt8 → Option (List UInt8)) (files : List UInt8 → Option ClassV) (ks going : List (List UInt8)) (ts : List TyV) (v : Value) (W : World) : Prop where
  c0 : W.cell? ⟨L.lb, 0, none⟩ = some (.map (some L.bd))
  c1 : W.cell? ⟨L.lb, 1, none⟩ = some (.map (some L.bf))
  c2 : W.cell? ⟨L.lb, 2, none⟩ = some (.map (some L.bk))
  c3 : W.cell? ⟨L.lb, 3, none⟩ = some (.map (some L.bg))
  c4 : W.cell? ⟨L.lb, 4, none⟩ = some v
  fz : ∀ o, W.frozen? ⟨L.lb, o, none⟩ = false
  hd : ∃ fd, MapS W Tryz.prog 9 L.bd nd fd nd ∧ ∀ s, DefAt W (L.ro v) (defs s) (fd s)
  hf : ∃ ff n, n ≤ ks.length ∧ MapS W Tryz.prog 9 L.bf n ff n ∧ ∀ s, FileAt W (L.ro v) (files s) (ff s)
  hk : ∃ n, n ≤ ks.length ∧ MapS W Tryz.prog 9 L.bk n (inNames ks) n
  hg : ∃ n, n ≤ going.length ∧ MapS W Tryz.prog 9 L.bg n (inNames going) n
  ty : W.ownsRow B 39 6 v ts.length (tyCells ts)
  rd : ∀ t ∈ ts, TyRd W (L.ro v) t
  ord : B ≤ L.bd ∧ L.bd < L.bf ∧ L.bf < L.bk ∧ L.bk < L.bg ∧ L.bg < L.lb
  new : ∀ g, v.ownBlock = some g → g ≠ L.lb ∧ g ≠ L.bd ∧ g ≠ L.bf ∧ g ≠ L.bk ∧ g ≠ L.bg
  lt : L.lb < W.heap.size
  exl : ∀ x ∈ L.ex, x < W.heap.size
  newx : ∀ g, v.ownBlock = some g → g ∉ L.ex
  nex : ∀ x ∈ L.ex, x ≠ L.lb ∧ x ≠ L.bd ∧ x ≠ L.bf ∧ x ≠ L.bk ∧ x ≠ L.bg
theorem MapS.tight {w : World} {P : Program} {k : TypeId} {b n sz : Nat} {f : List UInt8 → Option Value} (h : MapS w P k b n f sz) : MapS w P k b sz f sz := by
  obtain ⟨D, ⟨es, clock, hb, F, hs, hD⟩, hsz, r⟩ := h
  refine ⟨D, ⟨es, clock, hb, F, ?_, hD⟩, hsz, r⟩
  subst hD
  rw [← hsz]
  simp [Maps.size, length_sorted]
section
variable {B : Nat} {L : LPos} {nd : Nat} {defs : List UInt8 → Option (List UInt8)} {files : List UInt8 → Option ClassV} {ks going : List (List UInt8)} {ts : List TyV} {v : Value} {W W' : World}
theorem LdG.but (h : LdG B L nd defs files ks going ts v W) (S : List Nat) (hb : But W.heap.size S W W') (hS : ∀ g ∈ S, g ≠ L.lb ∧ g ≠ L.bd ∧ g ≠ L.bf ∧ g ≠ L.bk ∧ ¬ L.ro v g ∧ v.ownBlock ≠ some g) {going' : List (List UInt8)} (hg : ∃ n, n ≤ going'.length ∧ MapS W' Tryz.prog 9 L.bg n (inNames going') n) :
    LdG B L nd defs files ks going' ts v W' := by
  have ho := h.ord
  have hlt := h.lt
  have hc : ∀ o, W'.cell? ⟨L.lb, o, none⟩ = W.cell? ⟨L.lb, o, none⟩ := fun o => hb.cell (p := ⟨L.lb, o, none⟩) h.lt (fun hm => (hS _ hm).1 rfl)
  have hkp : Kept (L.ro v) W W' := Kept.of_but hb fun g hg hm => (hS g hm).2.2.2.2.1 hg
  obtain ⟨fd, d1, d2⟩ := h.hd
  obtain ⟨ff, n1, f0, f1, f2⟩ := h.hf
  obtain ⟨n2, k0, k1⟩ := h.hk
  exact ⟨(hc 0).trans h.c0, (hc 1).trans h.c1, (hc 2).trans h.c2, (hc 3).trans h.c3, (hc 4).trans h.c4, fun o => (hb.frozen (p := ⟨L.lb, o, none⟩) h.lt (fun hm => (hS _ hm).1 rfl)).trans (h.fz o),
    ⟨fd, d1.but hb d1.lt (fun hm => (hS _ hm).2.1 rfl), fun s => (d2 s).keep hkp fun g _ hg => hg⟩, ⟨ff, n1, f0, f1.but hb f1.lt (fun hm => (hS _ hm).2.2.1 rfl), fun s => (f2 s).keep hkp fun g _ hg => hg⟩,
    ⟨n2, k0, k1.but hb k1.lt (fun hm => (hS _ hm).2.2.2.1 rfl)⟩, hg, own_heap h.ty fun q hq => hb.block q (h.ty.lt q hq).2 (fun hm => (hS q hm).2.2.2.2.2 hq), fun t ht => (h.rd t ht).keep hkp fun g _ hg => hg, h.ord, h.new, Nat.lt_of_lt_of_le h.lt hb.size, (fun x hx => Nat.lt_of_lt_of_le (h.exl x hx) hb.size), h.newx, h.nex⟩
theorem LdG.below (h : LdG B L nd defs files ks going ts v W) (hb : Below W.heap.size W W') : LdG B L nd defs files ks going ts v W' := by
  obtain ⟨n, h1, h2⟩ := h.hg
  exact h.but [] (But.of_below hb) (by simp) ⟨n, h1, h2.keep (hb.block _ h2.lt)⟩
theorem but_grown {w w' : World} {b : Nat} (h : w.grownBy w' (some b)) : But w.heap.size [b] w w' := (But.refl _ _ _).grown h (Nat.le_refl _) fun k hk => .inl (by injection hk with hk; simp [hk])
theorem LdG.goes (h : LdG B L nd defs files ks going ts v W) {going' : List (List UInt8)} {n m : Nat} {f : List UInt8 → Option Value} (hf : f = inNames going') (hM : MapS W' Tryz.prog 9 L.bg n f m) (hm : m ≤ going'.length) (hg : W.grownBy W' (some L.bg)) : LdG B L nd defs files ks going' ts v W' := by
  have ho := h.ord
  refine h.but [L.bg] (but_grown hg) (fun g hm => ?_) ⟨m, hm, hf ▸ hM.tight⟩
  obtain rfl : g = L.bg := by simpa using hm
  exact ⟨by omega, by omega, by omega, by omega, fun hr => hr.2.2.2.2.1 rfl, fun e => (h.new _ e).2.2.2.2 rfl⟩
theorem LdG.putf (h : LdG B L nd defs files ks going ts v W) {ff : List UInt8 → Option Value} {k0 : List UInt8} {c : ClassV} {x : Value} {n m : Nat} (h2 : ∀ s, FileAt W (L.ro v) (files s) (ff s)) (hx : FileAt W (L.ro v) (some c) (some x)) (hM : MapS W' Tryz.prog 9 L.bf n (putF ff k0 x) m) (hm : m ≤ ks.length) (hg : W.grownBy W' (some L.bf)) :
    LdG B L nd defs (fun s => if s = k0 then some c else files s) ks going ts v W' := by
  have ho := h.ord
  have hlt := h.lt
  have hb := but_grown hg
  have hS : ∀ q, q ∈ [L.bf] → q = L.bf := fun q hq => by simpa using hq
  have hc : ∀ o, W'.cell? ⟨L.lb, o, none⟩ = W.cell? ⟨L.lb, o, none⟩ := fun o => hb.cell (p := ⟨L.lb, o, none⟩) h.lt (fun hm => by have := hS _ hm; simp at this; omega)
  have hkp : Kept (L.ro v) W W' := Kept.of_but hb fun g hg hm => hg.2.2.1 (hS g hm)
  obtain ⟨fd, d1, d2⟩ := h.hd
  obtain ⟨n2, k0', k1⟩ := h.hk
  obtain ⟨n3, g0, g1⟩ := h.hg
  refine ⟨(hc 0).trans h.c0, (hc 1).trans h.c1, (hc 2).trans h.c2, (hc 3).trans h.c3, (hc 4).trans h.c4, fun o => (hb.frozen (p := ⟨L.lb, o, none⟩) h.lt (fun hm => by have := hS _ hm; simp at this; omega)).trans (h.fz o),
    ⟨fd, d1.but hb d1.lt (fun hm => by have := hS _ hm; omega), fun s => (d2 s).keep hkp fun g _ hg => hg⟩, ⟨_, m, hm, hM.tight, fun s => ?_⟩,
    ⟨n2, k0', k1.but hb k1.lt (fun hm => by have := hS _ hm; omega)⟩, ⟨n3, g0, g1.but hb g1.lt (fun hm => by have := hS _ hm; omega)⟩, own_heap h.ty fun q hq => hb.block q (h.ty.lt q hq).2 (fun hm => (h.new q hq).2.2.1 (hS q hm)), fun t ht => (h.rd t ht).keep hkp fun g _ hg => hg, h.ord, h.new, Nat.lt_of_lt_of_le h.lt hb.size, (fun x hx => Nat.lt_of_lt_of_le (h.exl x hx) hb.size), h.newx, h.nex⟩
  unfold putF
  by_cases hs : s = k0
  · rw [if_pos hs, if_pos hs]
    exact hx.keep hkp fun g _ hg => hg
  · rw [if_neg hs, if_neg hs]
    exact (h2 s).keep hkp fun g _ hg => hg
theorem LdG.putk (h : LdG B L nd defs files ks going ts v W) {ks' : List (List UInt8)} {n m : Nat} {f : List UInt8 → Option Value} (hf : f = inNames ks') (hl : ks.length ≤ ks'.length) (hM : MapS W' Tryz.prog 9 L.bk n f m) (hm : m ≤ ks'.length) (hg : W.grownBy W' (some L.bk)) : LdG B L nd defs files ks' going ts v W' := by
  have ho := h.ord
  have hlt := h.lt
  have hb := but_grown hg
  have hS : ∀ q, q ∈ [L.bk] → q = L.bk := fun q hq => by simpa using hq
  have hc : ∀ o, W'.cell? ⟨L.lb, o, none⟩ = W.cell? ⟨L.lb, o, none⟩ := fun o => hb.cell (p := ⟨L.lb, o, none⟩) h.lt (fun hm => by have := hS _ hm; simp at this; omega)
  have hkp : Kept (L.ro v) W W' := Kept.of_but hb fun g hg hm => hg.2.2.2.1 (hS g hm)
  obtain ⟨fd, d1, d2⟩ := h.hd
  obtain ⟨ff, n1, f0, f1, f2⟩ := h.hf
  obtain ⟨n3, g0, g1⟩ := h.hg
  exact ⟨(hc 0).trans h.c0, (hc 1).trans h.c1, (hc 2).trans h.c2, (hc 3).trans h.c3, (hc 4).trans h.c4, fun o => (hb.frozen (p := ⟨L.lb, o, none⟩) h.lt (fun hm => by have := hS _ hm; simp at this; omega)).trans (h.fz o),
    ⟨fd, d1.but hb d1.lt (fun hm => by have := hS _ hm; omega), fun s => (d2 s).keep hkp fun g _ hg => hg⟩, ⟨ff, n1, Nat.le_trans f0 hl, f1.but hb f1.lt (fun hm => by have := hS _ hm; omega), fun s => (f2 s).keep hkp fun g _ hg => hg⟩,
    ⟨m, hm, hf ▸ hM.tight⟩, ⟨n3, g0, g1.but hb g1.lt (fun hm => by have := hS _ hm; omega)⟩, own_heap h.ty fun q hq => hb.block q (h.ty.lt q hq).2 (fun hm => (h.new q hq).2.2.2.1 (hS q hm)), fun t ht => (h.rd t ht).keep hkp fun g _ hg => hg, h.ord, h.new, Nat.lt_of_lt_of_le h.lt hb.size, (fun x hx => Nat.lt_of_lt_of_le (h.exl x hx) hb.size), h.newx, h.nex⟩
end
end Go.Proofs.YtdbniocnjhfhdaaGreatDoor

set_option linter.unusedSimpArgs false
set_option linter.unusedVariables false
set_option maxRecDepth 100000
set_option maxHeartbeats 1000000
namespace Go.Proofs.YtdbniocnjhfhdaaGreatDoor
open Go Go.RowKit Lib Go.Maps
section
variable {B : Nat} {L : LPos} {nd : Nat} {defs : List UInt8 → Option (List UInt8)} {files : List UInt8 → Option ClassV} {ks going : List (List UInt8)} {ts : List TyV} {v : Value} {W W' : World}
theorem LdG.type (h : LdG B L nd defs files ks going ts v W) {t : TyV} {g c : Nat} (ho : W'.ownsRow B 39 6 (.slice (some ⟨g, 0, none⟩) (ts.length + 1) c) (ts.length + 1) (tyCells ts ++ t.cells)) (hg : W.grownBy W' v.ownBlock) (hgg : v.ownBlock = some g ∨ g = W.heap.size) (ht : TyRd W (L.ro v) t) :
    LdG B L nd defs files ks going (ts ++ [t]) (.slice (some ⟨g, 0, none⟩) (ts.length + 1) c) (W'.setCell ⟨L.lb, 4, none⟩ (.slice (some ⟨g, 0, none⟩) (ts.length + 1) c)) := by
  have hord := h.ord
  have hlt := h.lt
  have hsz := hg.size
  have hne : ∀ q, v.ownBlock = some q → q ≠ L.lb := fun q hq => (h.new q hq).1
  have hnb : ∀ k, k < W.heap.size → v.ownBlock ≠ some k → W'.heap[k]? = W.heap[k]? := fun k hk hn => hg.block k hk (fun e => hn e.symm)
  have hlb : W'.heap[L.lb]? = W.heap[L.lb]? := hnb _ h.lt (fun e => (h.new _ e).1 rfl)
  have hbd : W'.heap[L.bd]? = W.heap[L.bd]? := hnb _ (by omega) (fun e => (h.new _ e).2.1 rfl)
  have hbf : W'.heap[L.bf]? = W.heap[L.bf]? := hnb _ (by omega) (fun e => (h.new _ e).2.2.1 rfl)
  have hbk : W'.heap[L.bk]? = W.heap[L.bk]? := hnb _ (by omega) (fun e => (h.new _ e).2.2.2.1 rfl)
  have hbg : W'.heap[L.bg]? = W.heap[L.bg]? := hnb _ (by omega) (fun e => (h.new _ e).2.2.2.2 rfl)
  have hgl : g ≠ L.lb ∧ g ≠ L.bd ∧ g ≠ L.bf ∧ g ≠ L.bk ∧ g ≠ L.bg := by
    rcases hgg with e | e
    · exact h.new g e
    · omega
  have hkp : Kept (L.ro v) W (W'.setCell ⟨L.lb, 4, none⟩ (.slice (some ⟨g, 0, none⟩) (ts.length + 1) c)) := ⟨by simpa using hsz, fun q hq hr o => (World.cell?_of_block (w := W') (Below.heap_setCell _ _ _ _ (fun e => hr.1 (by first | exact e | exact e.symm)))).trans (World.cell?_of_block (w := W) (hnb q hq hr.2.2.2.2.2.1))⟩
  have hro : ∀ q, q < W.heap.size → L.ro v q → L.ro (.slice (some ⟨g, 0, none⟩) (ts.length + 1) c) q := fun q hq hr => ⟨hr.1, hr.2.1, hr.2.2.1, hr.2.2.2.1, hr.2.2.2.2.1, fun e => by
    have e' : g = q := by simpa [Value.ownBlock] using e
    subst e'
    rcases hgg with e2 | e2
    · exact hr.2.2.2.2.2.1 e2
    · omega, hr.2.2.2.2.2.2⟩
  have hcell : ∀ o, o ≠ 4 → (W'.setCell ⟨L.lb, 4, none⟩ (.slice (some ⟨g, 0, none⟩) (ts.length + 1) c)).cell? ⟨L.lb, o, none⟩ = W.cell? ⟨L.lb, o, none⟩ := fun o ho => (World.cell?_setCell_other _ _ _ _ (by intro e; injection e with _ e; exact ho (by first | exact e | exact e.symm))).trans (World.cell?_of_block (w := W) hlb)
  have hmap : ∀ b, b ≠ L.lb → (W'.setCell ⟨L.lb, 4, none⟩ (.slice (some ⟨g, 0, none⟩) (ts.length + 1) c)).heap[b]? = W'.heap[b]? := fun b hb => Below.heap_setCell _ _ _ _ (by omega)
  obtain ⟨fd, d1, d2⟩ := h.hd
  obtain ⟨ff, n1, f0, f1, f2⟩ := h.hf
  obtain ⟨n2, k0, k1⟩ := h.hk
  obtain ⟨n3, g0, g1⟩ := h.hg
  refine ⟨(hcell 0 (by omega)).trans h.c0, (hcell 1 (by omega)).trans h.c1, (hcell 2 (by omega)).trans h.c2, (hcell 3 (by omega)).trans h.c3, World.cell?_setCell_same _ _ _ ((World.cell?_of_block (w := W) hlb).trans h.c4),
    fun o => by rw [World.frozen?_setCell]; exact (World.frozen?_of_block (w := W) hlb).trans (h.fz o), ⟨fd, d1.keep ((hmap _ (by omega)).trans hbd), fun s => (d2 s).keep hkp hro⟩, ⟨ff, n1, f0, f1.keep ((hmap _ (by omega)).trans hbf), fun s => (f2 s).keep hkp hro⟩,
    ⟨n2, k0, k1.keep ((hmap _ (by omega)).trans hbk)⟩, ⟨n3, g0, g1.keep ((hmap _ (by omega)).trans hbg)⟩, own_eq (own_set ho (by simpa using hgl.1) _) (by simp) (by rw [tyCells_snoc]), fun u hu => ?_, h.ord, fun q hq => ?_, by simpa using Nat.lt_of_lt_of_le hlt hsz, fun x hx => by simpa using Nat.lt_of_lt_of_le (h.exl x hx) hsz, fun q hq => ?_, h.nex⟩
  · rcases List.mem_append.1 hu with hu | hu
    · exact (h.rd u hu).keep hkp hro
    · obtain rfl : u = t := by simpa using hu
      exact ht.keep hkp hro
  · have e' : g = q := by simpa [Value.ownBlock] using hq
    subst e'
    exact hgl
  · have e' : g = q := by simpa [Value.ownBlock] using hq
    subst e'
    rcases hgg with e | e
    · exact h.newx g e
    · intro hx
      have := h.exl g hx
      omega
theorem LdG.rows (h : LdG B L nd defs files ks going ts v W) (h0 : 0 < ts.length) : ∃ g cap, v = .slice (some ⟨g, 0, none⟩) ts.length cap ∧ ts.length ≤ cap ∧ g < W.heap.size ∧ ∀ j t, ts[j]? = some t → ∀ q, q < 6 → W.cell? ⟨g, j * 6 + q, none⟩ = t.cells[q]? := by
  rcases h.ty.2 with ⟨_, h1⟩ | ⟨g, cap, cur, rfl, hb, hg, hnc, hcm, hcs, hx⟩
  · omega
  · refine ⟨g, cap, rfl, hnc, (h.ty.lt g rfl).2, fun j t ht q hq => ?_⟩
    have hl : j < ts.length := (List.getElem?_eq_some_iff.1 ht).1
    exact (h.ty.cellAt (j * 6 + q) (by omega)).trans (tyCells_at ts j t ht q hq)
end
theorem atOf_neg {ns : List (List UInt8)} {s : List UInt8} (h : atOf ns s < 0) : s ∉ ns := by
  intro hm
  unfold atOf at h
  split at h
  · omega
  · rename_i hf
    rw [List.findIdx?_eq_none_iff] at hf
    have := hf s hm
    simp at this
theorem and_one (acc : Int) : bits .and .i64 acc 1 = 1 ∨ bits .and .i64 acc 1 = 0 := by
  have h : ∀ x : BitVec 64, (x &&& 1#64) = 1#64 ∨ (x &&& 1#64) = 0#64 := by
    intro x
    rcases Nat.mod_two_eq_zero_or_one x.toNat with h | h
    · right
      apply BitVec.eq_of_toNat_eq
      simp [BitVec.toNat_and, Nat.and_one_is_mod, h]
    · left
      apply BitVec.eq_of_toNat_eq
      simp [BitVec.toNat_and, Nat.and_one_is_mod, h]
  have e : bits .and .i64 acc 1 = IntKind.i64.wrap ((BitVec.ofInt 64 acc &&& 1#64).toNat : Nat) := rfl
  rw [e]
  rcases h (BitVec.ofInt 64 acc) with h | h
  · left
    rw [h]
    decide
  · right
    rw [h]
    decide
theorem sees_all {ts : List TyV} {g cap : Nat} (frm s : ByteArray) (W : World) (hcap : ts.length ≤ cap) (hm : ts.length ≤ 100000) (hc : ∀ j t, ts[j]? = some t → ∀ q, q < 6 → W.cell? ⟨g, j * 6 + q, none⟩ = t.cells[q]?) (hf : frm.size ≤ 1048576) (hs : s.size ≤ 1048576) :
    Calls Tryz.prog 69 #[.slice (some ⟨g, 0, none⟩) ts.length cap, .string frm, .string s] W fun e w' => e = .returned (.bool (seesB (ts.map TyV.key) frm s)) ∧ W = w' := by
  have hc' : ∀ j t, (ts.map TyV.name)[j]? = some t → W.cell? ⟨g, j * 6, none⟩ = some (.string ⟨t.toArray⟩) := fun j t ht => by
    rw [List.getElem?_map] at ht
    obtain ⟨u, hu, rfl⟩ := Option.map_eq_some_iff.1 ht
    exact hc j u hu 0 (by omega)
  have hn : (ts.map TyV.key).map (·.1) = ts.map TyV.name := by rw [List.map_map]; rfl
  have hm' : ts.length ≤ 4611686018427387904 := by omega
  by_cases ha : atOf (ts.map TyV.name) s.toList < 0
  · refine (sees_none g ts.length cap (ts.map TyV.name) frm s W (by simp) hcap hm' hc' ha).mono fun e w' hq => ⟨hq.1.trans ?_, hq.2⟩
    unfold seesB
    rw [hn, if_pos ha]
  · obtain ⟨k, hk⟩ : ∃ k : Nat, atOf (ts.map TyV.name) s.toList = k := ⟨_, (Int.toNat_of_nonneg (by omega)).symm⟩
    have hkl := atOf_lt hk
    simp only [List.length_map] at hkl
    have hacc : accAt (ts.map TyV.key) s = ts[k].acc := by
      unfold accAt
      rw [hn, hk, Int.toNat_natCast, List.getElem?_map, List.getElem?_eq_getElem hkl]
      rfl
    have h2 := hc k ts[k] (List.getElem?_eq_getElem hkl) 2 (by omega)
    rcases and_one ts[k].acc with hp | hp
    · refine (sees_pub g ts.length cap (ts.map TyV.name) frm s W (by simp) hcap hm' hc' k hk ts[k].acc h2 hp).mono fun e w' hq => ⟨hq.1.trans ?_, hq.2⟩
      unfold seesB
      rw [hn, if_neg ha, hacc, if_pos hp]
    · refine (sees_priv g ts.length cap (ts.map TyV.name) frm s W (by simp) hcap hm' hc' k hk ts[k].acc h2 hp hf hs).mono fun e w' hq => ⟨hq.1.trans ?_, hq.2⟩
      unfold seesB
      rw [hn, if_neg ha, hacc, if_neg (by omega)]
end Go.Proofs.YtdbniocnjhfhdaaGreatDoor

set_option linter.unusedSimpArgs false
set_option linter.unusedVariables false
set_option maxRecDepth 100000
set_option maxHeartbeats 1000000
namespace Go.Proofs.YtdbniocnjhfhdaaGreatDoor
open Go Go.RowKit Lib Go.Maps
structure LdK (CE : ClassV → Int) (defs : List UInt8 → Option (List UInt8)) (dn : List (List UInt8)) : Prop where
  dom : ∀ s l, defs s = some l → s ∈ dn
  cnt : dn.length ≤ 64
  out : ∀ s l, defs s = some l → ∀ c, readP l = .ok c → ∀ p i f m ok W, ClassAt W ok c p i f m → Calls Tryz.prog 68 #[bookV c p i f m] W (OutPost c (CE c) W)
  small : ∀ s l c, defs s = some l → readP l = .ok c → (outT c).sup.size ≤ 1048576 ∧ (outT c).name.size ≤ 1048576 ∧ (outT c).ifs.length ≤ 64 ∧ ∀ i ∈ (outT c).ifs, i.size ≤ 1048576
def rdD (CE : ClassV → Int) (defs : List UInt8 → Option (List UInt8)) (s : ByteArray) : Except ByteArray (ClassV × TypV) := match defs s.data.toList with
  | none => .error noDefB
  | some l => readQ CE l s
def KsOk (dn ks : List (List UInt8)) : Prop := ∃ cs ls, ks = cs ++ ls ∧ 0 < cs.length ∧ cs.length ≤ 26 ∧ ls.Nodup ∧ ∀ x ∈ ls, x ∈ dn
theorem nodup_len {α : Type} [DecidableEq α] : ∀ (l m : List α), l.Nodup → (∀ x ∈ l, x ∈ m) → l.length ≤ m.length
  | [], m, _, _ => Nat.zero_le _
  | x :: l, m, hn, hs => by
    have hx := hs x (by simp)
    have h1 := nodup_len l (m.erase x) (List.nodup_cons.1 hn).2 (fun y hy => (List.mem_erase_of_ne (by
      intro e
      subst e
      exact (List.nodup_cons.1 hn).1 hy)).2 (hs y (by simp [hy])))
    have h2 := List.length_erase_of_mem hx
    have h3 : 0 < m.length := List.length_pos_of_mem hx
    simp only [List.length_cons]
    omega
theorem KsOk.len {dn ks : List (List UInt8)} (h : KsOk dn ks) (hd : dn.length ≤ 64) : 0 < ks.length ∧ ks.length ≤ 90 := by
  obtain ⟨cs, ls, rfl, h1, h2, h3, h4⟩ := h
  have := nodup_len ls dn h3 h4
  rw [List.length_append]
  omega
theorem KsOk.snoc {dn ks : List (List UInt8)} {s : List UInt8} (h : KsOk dn ks) (hs : s ∉ ks) (hd : s ∈ dn) : KsOk dn (ks ++ [s]) := by
  obtain ⟨cs, ls, rfl, h1, h2, h3, h4⟩ := h
  refine ⟨cs, ls ++ [s], by simp, h1, h2, ?_, ?_⟩
  · rw [List.nodup_append]
    refine ⟨h3, by simp, ?_⟩
    intro a ha b hb e
    obtain rfl : b = s := by simpa using hb
    subst e
    exact hs (by simp [ha])
  · intro x hx
    rcases List.mem_append.1 hx with hx | hx
    · exact h4 x hx
    · obtain rfl : x = s := by simpa using hx
      exact hd
def LPos.frp (L : LPos) (v : Value) (g : Nat) : Prop := g ≠ L.lb ∧ g ≠ L.bd ∧ g ≠ L.bf ∧ g ≠ L.bk ∧ g ≠ L.bg ∧ v.ownBlock ≠ some g
theorem LPos.frp_of {L : LPos} {v : Value} {g : Nat} (h : L.ro v g) : L.frp v g := ⟨h.1, h.2.1, h.2.2.1, h.2.2.2.1, h.2.2.2.2.1, h.2.2.2.2.2.1⟩
structure LFr (B : Nat) (L : LPos) (v : Value) (W : World) (v' : Value) (W' : World) : Prop where
  bel : Below B W W'
  blk : ∀ g, g < W.heap.size → L.frp v g → W'.heap[g]? = W.heap[g]?
  fr : ∀ g, g < W.heap.size → L.frp v g → L.frp v' g
theorem LFr.ro {B : Nat} {L : LPos} {v v' : Value} {W W' : World} (h : LFr B L v W v' W') (g : Nat) (hg : g < W.heap.size) (hr : L.ro v g) : L.ro v' g := by
  have := h.fr g hg (LPos.frp_of hr)
  exact ⟨this.1, this.2.1, this.2.2.1, this.2.2.2.1, this.2.2.2.2.1, this.2.2.2.2.2, hr.2.2.2.2.2.2⟩
theorem LFr.trans {B : Nat} {L : LPos} {v v1 v2 : Value} {W W1 W2 : World} (h : LFr B L v W v1 W1) (k : LFr B L v1 W1 v2 W2) : LFr B L v W v2 W2 :=
  ⟨h.bel.trans k.bel, fun g hg hr => (k.blk g (Nat.lt_of_lt_of_le hg h.bel.size) (h.fr g hg hr)).trans (h.blk g hg hr), fun g hg hr => k.fr g (Nat.lt_of_lt_of_le hg h.bel.size) (h.fr g hg hr)⟩
theorem LFr.of_below {B : Nat} {L : LPos} {v : Value} {W W' : World} (hB : B ≤ W.heap.size) (h : Below W.heap.size W W') : LFr B L v W v W' := ⟨h.mono hB, fun g hg _ => h.block g hg, fun _ _ h => h⟩
theorem LFr.of_map {B b : Nat} {L : LPos} {v : Value} {W W' : World} (hB : B ≤ W.heap.size) (hb : B ≤ b) (hr : ¬ L.frp v b) (h : W.grownBy W' (some b)) : LFr B L v W v W' :=
  ⟨(Below.refl B W).grown h hB fun k hk => by injection hk with hk; omega, fun g hg hrg => h.block g hg fun e => by injection e with e; subst e; exact hr hrg, fun _ _ h => h⟩
theorem LFr.kept {B : Nat} {L : LPos} {v v' : Value} {W W' : World} (h : LFr B L v W v' W') : Kept (L.ro v) W W' := ⟨h.bel.size, fun g hg hr o => World.cell?_of_block (w := W) (h.blk g hg (LPos.frp_of hr))⟩
def LoadPost (B : Nat) (L : LPos) (nd : Nat) (defs : List UInt8 → Option (List UInt8)) (dn going : List (List UInt8)) (v : Value) (W : World) (r : Option ByteArray × LT) (e : Ending) (W' : World) : Prop :=
  ∃ x ts' v', e = .returned x ∧ ErrIs r.1 x ∧ ts'.map TyV.key = r.2.ts ∧ LdG B L nd defs r.2.files (ts'.map TyV.name) going ts' v' W' ∧ KsOk dn (ts'.map TyV.name) ∧ LFr B L v W v' W'
def LoadC (CE : ClassV → Int) (defs : List UInt8 → Option (List UInt8)) (dn : List (List UInt8)) (n : Nat) : Prop := ∀ (B : Nat) (L : LPos) (nd : Nat) (files : List UInt8 → Option ClassV) (ts : List TyV) (v : Value) (W : World) (going : List (List UInt8)) (s : ByteArray),
  LdG B L nd defs files (ts.map TyV.name) going ts v W → KsOk dn (ts.map TyV.name) → s.size ≤ 9223372036854775807 → (dn.filter fun x => decide (x ∉ going)).length < n → going.length + n ≤ 1000 →
    Calls Tryz.prog 27 #[.pointer (some ⟨L.lb, 0, none⟩), .string s] W (LoadPost B L nd defs dn going v W (loadP (rdD CE defs) n going ⟨ts.map TyV.key, files⟩ s))
theorem LdG.lb_le {B : Nat} {L : LPos} {nd : Nat} {defs : List UInt8 → Option (List UInt8)} {files : List UInt8 → Option ClassV} {ks going : List (List UInt8)} {ts : List TyV} {v : Value} {W : World} (h : LdG B L nd defs files ks going ts v W) : B ≤ W.heap.size := by
  have := h.ord
  have := h.lt
  omega
theorem ErrV.iface {x : Value} {s : ByteArray} (h : ErrV x s) : ∃ T y, x = .iface T y := by
  cases h with
  | base s => exact ⟨_, _, rfl⟩
  | wrap v f s _ => exact ⟨_, _, rfl⟩
theorem above_any (CE : ClassV → Int) (defs : List UInt8 → Option (List UInt8)) (dn : List (List UInt8)) (hcnt : dn.length ≤ 64) (n : Nat) (hl : LoadC CE defs dn n) (B : Nat) (L : LPos) (nd : Nat) (files : List UInt8 → Option ClassV) (ts : List TyV) (v : Value) (W : World) (going : List (List UInt8)) (frm to : ByteArray) (face : Bool)
    (h : LdG B L nd defs files (ts.map TyV.name) going ts v W) (hk : KsOk dn (ts.map TyV.name)) (hf : frm.size ≤ 1048576) (hs : to.size ≤ 1048576) (hfu : (dn.filter fun x => decide (x ∉ going)).length < n) (hgo : going.length + n ≤ 1000) :
    Calls Tryz.prog 47 #[.pointer (some ⟨L.lb, 0, none⟩), .string frm, .string to, .bool face] W (LoadPost B L nd defs dn going v W (aboveW (loadP (rdD CE defs) n going) ⟨ts.map TyV.key, files⟩ frm to face)) := by
  have HC := Lib.hid (hl B L nd files ts v W going to h hk (by omega) hfu hgo)
  obtain ⟨q, hq⟩ : ∃ q, loadP (rdD CE defs) n going ⟨ts.map TyV.key, files⟩ to = q := ⟨_, rfl⟩
  have HQ := Lib.hid (show aboveW (loadP (rdD CE defs) n going) ⟨ts.map TyV.key, files⟩ frm to face = _ by unfold aboveW; rw [hq])
  obtain ⟨r, hr⟩ : ∃ r, aboveW (loadP (rdD CE defs) n going) ⟨ts.map TyV.key, files⟩ frm to face = r := ⟨_, rfl⟩
  rw [hr] at HQ ⊢
  rw [hq] at HC
  clear hl h hk hfu hgo hq hr
  go_enter Tryz.func47, Tryz.ntmps47
  go_wp2_with (go_at_call 27; refine stop_here ?_)
  refine go_on ?_
  refine HC.out.mono ?_
  rintro e W1 ⟨x, ts1, v1, rfl, hx, hts, hg, hk, hb⟩
  obtain ⟨q1, σ1⟩ := q
  cases q1 with
  | some er =>
    have HR := Lib.hid (show r = (some er, σ1) from HQ.out)
    have hx' : ErrV x er := hx
    obtain ⟨T, y, rfl⟩ := hx'.iface
    have HX := Lib.hid hx'
    have HTS := Lib.hid hts
    have HG := Lib.hid hg
    have HK := Lib.hid hk
    have HB := Lib.hid hb
    clear hx hx' hts hg hk hb HC HQ
    go_wp2_with fail
    go_ret
    rw [HR.out]
    exact ⟨_, ts1, v1, rfl, ErrV.wrap _ _ _ HX.out, HTS.out, HG.out, HK.out, HB.out⟩
  | none =>
    obtain rfl : x = .nilIface := hx
    obtain ⟨ts1', fl1⟩ := σ1
    simp only at hts hg
    subst hts
    have HQ1 := Lib.hid (show r = if seesB (ts1.map TyV.key) frm to = false then (some illeB, ⟨ts1.map TyV.key, fl1⟩) else if faceB (ts1.map TyV.key) to ≠ face then (some incoB, ⟨ts1.map TyV.key, fl1⟩) else (none, ⟨ts1.map TyV.key, fl1⟩) from HQ.out)
    have hkl := hk.len hcnt
    simp only [List.length_map] at hkl
    obtain ⟨g, cap, rfl, hcap, hgl, hrows⟩ := hg.rows hkl.1
    have c4 := hg.c4
    have HS := Lib.hid (fun W2 hw => sees_all (ts := ts1) (g := g) (cap := cap) frm to W2 hcap (by omega) hw hf hs)
    have HRW := Lib.hid hrows
    have HG := Lib.hid hg
    have HK := Lib.hid hk
    have HB := Lib.hid hb
    clear hg hk hb HC HQ hrows
    obtain ⟨sb, hsb⟩ : ∃ sb, seesB (ts1.map TyV.key) frm to = sb := ⟨_, rfl⟩
    rw [hsb] at HS HQ1
    have HSB := Lib.hid hsb
    clear hsb
    cases sb with
    | false =>
      have HR := Lib.hid (show r = (some illeB, ⟨ts1.map TyV.key, fl1⟩) by rw [HQ1.out]; rfl)
      clear HQ1
      go_wp2_with (first
        | (go_at_call 69; refine (HS.out _ HRW.out).mono ?_; rintro e w1 ⟨rfl, rfl⟩)
        | (go_at_call 45; refine (failed_any _ (by decide) _).mono ?_; rintro e w1 ⟨rfl, rfl⟩))
      go_ret
      rw [HR.out]
      exact ⟨_, ts1, _, rfl, ErrV.base illeB, rfl, HG.out, HK.out, HB.out⟩
    | true =>
      have hat : ¬ atOf (ts1.map TyV.name) to.toList < 0 := by
        intro ha
        have := HSB.out
        unfold seesB at this
        rw [show (ts1.map TyV.key).map (·.1) = ts1.map TyV.name by rw [List.map_map]; rfl, if_pos ha] at this
        cases this
      obtain ⟨k, hk⟩ : ∃ k : Nat, atOf (ts1.map TyV.name) to.toList = k := ⟨_, (Int.toNat_of_nonneg (by omega)).symm⟩
      have hkn := atOf_lt hk
      simp only [List.length_map] at hkn
      have hacc : faceB (ts1.map TyV.key) to = (bits .and .i64 ts1[k].acc 512 != 0) := by
        unfold faceB accAt
        rw [show (ts1.map TyV.key).map (·.1) = ts1.map TyV.name by rw [List.map_map]; rfl, hk, Int.toNat_natCast, List.getElem?_map, List.getElem?_eq_getElem hkn]
        rfl
      have h2 : W1.cell? ⟨g, k * 6 + 2, none⟩ = some (.int .i64 ts1[k].acc) := HRW.out k ts1[k] (List.getElem?_eq_getElem hkn) 2 (by omega)
      have HAT := Lib.hid (fun m : Nat => (at_any g ts1.length cap (ts1.map TyV.name) to (W1.drewN m) (by simp) hcap (by omega) (fun j t ht => by
        rw [List.getElem?_map] at ht
        obtain ⟨u, hu, rfl⟩ := Option.map_eq_some_iff.1 ht
        exact HRW.out j u hu 0 (by omega))).mono (R' := fun e w' => e = .returned (.int .i64 k) ∧ w' = W1.drewN m) fun e w' hq => ⟨hq.1.trans (by rw [hk]), hq.2.symm⟩)
      rw [hacc] at HQ1
      obtain ⟨ac, hac⟩ : ∃ ac, ts1[k].acc = ac := ⟨_, rfl⟩
      rw [hac] at HQ1 h2
      have hk0 : (0 : Int) ≤ (k : Int) := by omega
      have hk1 : (k : Int) < (ts1.length : Int) := by omega
      obtain ⟨fb, hfb⟩ : ∃ fb, (bits .and .i64 ac 512 != 0) = fb := ⟨_, rfl⟩
      rw [hfb] at HQ1
      have HB2 := Lib.hid (fun m => HB.out.trans (LFr.of_below HG.out.lb_le (below_drewN (Below.refl W1.heap.size W1) m)))
      have HG2 := Lib.hid (fun m => HG.out.below (below_drewN (Below.refl W1.heap.size W1) m))
      clear hk hat hacc hac HSB
      go_wp2_with (go_at_call 69; refine (HS.out _ HRW.out).mono ?_; rintro e w1 ⟨rfl, rfl⟩)
      go_quiet ((go_at_call 70; exact Calls.quiet_of_same (HAT.out _)))
      all_goals
        cases fb <;> cases face
        · have HR := Lib.hid (show r = (none, ⟨ts1.map TyV.key, fl1⟩) by rw [HQ1.out]; rfl)
          clear HQ1
          go_wp2_with fail
          go_ret
          rw [HR.out]
          exact ⟨_, ts1, _, rfl, rfl, rfl, HG2.out _, HK.out, HB2.out _⟩
        · have HR := Lib.hid (show r = (some incoB, ⟨ts1.map TyV.key, fl1⟩) by rw [HQ1.out]; rfl)
          clear HQ1
          go_wp2_with (go_at_call 45; refine (failed_any _ (by decide) _).mono ?_; rintro e w1 ⟨rfl, rfl⟩)
          go_ret
          rw [HR.out]
          exact ⟨_, ts1, _, rfl, ErrV.base incoB, rfl, HG2.out _, HK.out, HB2.out _⟩
        · have HR := Lib.hid (show r = (some incoB, ⟨ts1.map TyV.key, fl1⟩) by rw [HQ1.out]; rfl)
          clear HQ1
          go_wp2_with (go_at_call 45; refine (failed_any _ (by decide) _).mono ?_; rintro e w1 ⟨rfl, rfl⟩)
          go_ret
          rw [HR.out]
          exact ⟨_, ts1, _, rfl, ErrV.base incoB, rfl, HG2.out _, HK.out, HB2.out _⟩
        · have HR := Lib.hid (show r = (none, ⟨ts1.map TyV.key, fl1⟩) by rw [HQ1.out]; rfl)
          clear HQ1
          go_wp2_with fail
          go_ret
          rw [HR.out]
          exact ⟨_, ts1, _, rfl, rfl, rfl, HG2.out _, HK.out, HB2.out _⟩
end Go.Proofs.YtdbniocnjhfhdaaGreatDoor
