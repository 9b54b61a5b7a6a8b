/-
  No cell of these rows narrows 'for every input' (looked for: loops, veiled, ifaces, maps, wideKeys, modest, calm, conditions, laid).
  DERIVED. THE GIVEN ROWS OF THIS SEAT. 6 by the template 'for every input the law returns true; each argument reads behind the call as it read before'; 0 by the template 'total and deterministic' (their statements: YtgicbgeblgfnfaaTotals.lean).
  GIVEN WITH THE SEED: the statements are not yours to turn. If you find one false, say at which input.
  Laid BY PROGRAM, IN A SANDBOX (cutbox-rows.mjs): the forced cells as the released guide's own fill.sh prints them over the translation 7ddfa1728f3b944c… (all of the seat's roots in one cut). By AI agents, Wed Nov 11 2026. No macro, syntax, notation, axiom, sorry.
-/
import Derived.Test.YtgicbgeblgfnfaaChecked
import GoSem.Claim
import GoSem.ClaimJoined
import GoSem.ClaimMapViews
import Derived.JoinedTies
import Derived.KernelRfl
namespace Go.Proofs.Ytgicbgeblgfnfaa
/- THE CELL 'sum', in the pinned program and in every row, IS THE sha256 OF THE DUMP (.gsa) THAT YtgicbgeblgfnfaaProg.lean LOADS. Nothing in Lean hashes anything: it is a label: what it is worth is what the hold of that sum in a sandbox is worth. -/
noncomputable def Try.pinned : Pinned := { name := "ytgicbgeblgfnfaa", sum := "7ddfa1728f3b944c92c68bb2f95b48f50b84c55e66ba4fca0c0ca487bd1475fb", checked := Try.checked }
namespace Rows
def none {H : Type} : Left H := { results := [], args := [] }

/-- 'turnstilelaw6.OpsDecodes': WHATEVER THE INPUT: true; the input reads as it did. -/
def opsDecodesSpec : ChangeSpec := { name := "opsDecodes", fn := fun _ => fun
  | [d1, d2] => { results := [.lit (.bool true)], args := [d1, d2] }
  | _ => none }
def opsDecodesRow : OpenClaim := { program := "ytgicbgeblgfnfaa", sum := "7ddfa1728f3b944c92c68bb2f95b48f50b84c55e66ba4fca0c0ca487bd1475fb", func := "turnstile/turnstilelaw6.OpsDecodes", spec := "opsDecodes", apart := false }
def OpsDecodesSaid : Prop := opsDecodesRow.holds Try.pinned (OpenSpec.ofChange opsDecodesSpec)

/-- ITS FALSE NEIGHBOUR: 'it returns false'. Refute it at one input. -/
def opsDecodesWrong : ChangeSpec := { name := "opsDecodes", fn := fun _ => fun
  | [d1, d2] => { results := [.lit (.bool false)], args := [d1, d2] }
  | _ => none }
def OpsDecodesWrongFalsely : Prop := opsDecodesRow.holds Try.pinned (OpenSpec.ofChange opsDecodesWrong)

/-- 'turnstilelaw6.OpsForms': WHATEVER THE INPUT: true; the input reads as it did. -/
def opsFormsSpec : ChangeSpec := { name := "opsForms", fn := fun _ => fun
  | [d1, d2] => { results := [.lit (.bool true)], args := [d1, d2] }
  | _ => none }
def opsFormsRow : OpenClaim := { program := "ytgicbgeblgfnfaa", sum := "7ddfa1728f3b944c92c68bb2f95b48f50b84c55e66ba4fca0c0ca487bd1475fb", func := "turnstile/turnstilelaw6.OpsForms", spec := "opsForms", apart := false }
def OpsFormsSaid : Prop := opsFormsRow.holds Try.pinned (OpenSpec.ofChange opsFormsSpec)

/-- ITS FALSE NEIGHBOUR: 'it returns false'. Refute it at one input. -/
def opsFormsWrong : ChangeSpec := { name := "opsForms", fn := fun _ => fun
  | [d1, d2] => { results := [.lit (.bool false)], args := [d1, d2] }
  | _ => none }
def OpsFormsWrongFalsely : Prop := opsFormsRow.holds Try.pinned (OpenSpec.ofChange opsFormsWrong)

/-- 'turnstilelaw6.OpsAll': WHATEVER THE INPUT: true; the input reads as it did. -/
def opsAllSpec : ChangeSpec := { name := "opsAll", fn := fun _ => fun
  | [d1, d2] => { results := [.lit (.bool true)], args := [d1, d2] }
  | _ => none }
def opsAllRow : OpenClaim := { program := "ytgicbgeblgfnfaa", sum := "7ddfa1728f3b944c92c68bb2f95b48f50b84c55e66ba4fca0c0ca487bd1475fb", func := "turnstile/turnstilelaw6.OpsAll", spec := "opsAll", apart := false }
def OpsAllSaid : Prop := opsAllRow.holds Try.pinned (OpenSpec.ofChange opsAllSpec)

/-- ITS FALSE NEIGHBOUR: 'it returns false'. Refute it at one input. -/
def opsAllWrong : ChangeSpec := { name := "opsAll", fn := fun _ => fun
  | [d1, d2] => { results := [.lit (.bool false)], args := [d1, d2] }
  | _ => none }
def OpsAllWrongFalsely : Prop := opsAllRow.holds Try.pinned (OpenSpec.ofChange opsAllWrong)

/-- 'turnstilelaw6.OpsEncodes': WHATEVER THE INPUT: true; the input reads as it did. -/
def opsEncodesSpec : ChangeSpec := { name := "opsEncodes", fn := fun _ => fun
  | [d1, d2] => { results := [.lit (.bool true)], args := [d1, d2] }
  | _ => none }
def opsEncodesRow : OpenClaim := { program := "ytgicbgeblgfnfaa", sum := "7ddfa1728f3b944c92c68bb2f95b48f50b84c55e66ba4fca0c0ca487bd1475fb", func := "turnstile/turnstilelaw6.OpsEncodes", spec := "opsEncodes", apart := false }
def OpsEncodesSaid : Prop := opsEncodesRow.holds Try.pinned (OpenSpec.ofChange opsEncodesSpec)

/-- ITS FALSE NEIGHBOUR: 'it returns false'. Refute it at one input. -/
def opsEncodesWrong : ChangeSpec := { name := "opsEncodes", fn := fun _ => fun
  | [d1, d2] => { results := [.lit (.bool false)], args := [d1, d2] }
  | _ => none }
def OpsEncodesWrongFalsely : Prop := opsEncodesRow.holds Try.pinned (OpenSpec.ofChange opsEncodesWrong)

/-- 'turnstilelaw6.OpsBack': WHATEVER THE INPUT: true; the input reads as it did. -/
def opsBackSpec : ChangeSpec := { name := "opsBack", fn := fun _ => fun
  | [d1, d2, d3] => { results := [.lit (.bool true)], args := [d1, d2, d3] }
  | _ => none }
def opsBackRow : OpenClaim := { program := "ytgicbgeblgfnfaa", sum := "7ddfa1728f3b944c92c68bb2f95b48f50b84c55e66ba4fca0c0ca487bd1475fb", func := "turnstile/turnstilelaw6.OpsBack", spec := "opsBack", apart := false }
def OpsBackSaid : Prop := opsBackRow.holds Try.pinned (OpenSpec.ofChange opsBackSpec)

/-- ITS FALSE NEIGHBOUR: 'it returns false'. Refute it at one input. -/
def opsBackWrong : ChangeSpec := { name := "opsBack", fn := fun _ => fun
  | [d1, d2, d3] => { results := [.lit (.bool false)], args := [d1, d2, d3] }
  | _ => none }
def OpsBackWrongFalsely : Prop := opsBackRow.holds Try.pinned (OpenSpec.ofChange opsBackWrong)

/-- 'turnstilelaw6.OpsRows': WHATEVER THE INPUT: true; the input reads as it did. -/
def opsRowsSpec : ChangeSpec := { name := "opsRows", fn := fun _ => fun
  | [d] => { results := [.lit (.bool true)], args := [d] }
  | _ => none }
def opsRowsRow : OpenClaim := { program := "ytgicbgeblgfnfaa", sum := "7ddfa1728f3b944c92c68bb2f95b48f50b84c55e66ba4fca0c0ca487bd1475fb", func := "turnstile/turnstilelaw6.OpsRows", spec := "opsRows", apart := false }
def OpsRowsSaid : Prop := opsRowsRow.holds Try.pinned (OpenSpec.ofChange opsRowsSpec)

/-- ITS FALSE NEIGHBOUR: 'it returns false'. Refute it at one input. -/
def opsRowsWrong : ChangeSpec := { name := "opsRows", fn := fun _ => fun
  | [d] => { results := [.lit (.bool false)], args := [d] }
  | _ => none }
def OpsRowsWrongFalsely : Prop := opsRowsRow.holds Try.pinned (OpenSpec.ofChange opsRowsWrong)

/- THE SECOND FORM. 'bulk': how many values and letters a reading holds, each counted each time it is reached (what is shared counts as often as it is met; a slice's spare places count too). A statement '..UptoSaid' is the law's where the arguments, and the package variables that the reading takes, are together of bulk at most 1048576: NARROWER than '..Said'. Prove '..Said' where nothing that the law and all that it calls make is longer than what came in: it says more and counts as full. Else prove '..UptoSaid'. A law counts once. -/
mutual
def uptoBulk {H : Type} : DataW H → Nat
  | .lit (.string bytes) => bytes.length + 1
  | .lit _ => 1
  | .nil => 1
  | .ptr d => uptoBulk d + 1
  | .slice elems spare => uptoBulkAll elems + uptoBulkAll spare + 1
  | .agg parts => uptoBulkAll parts + 1
  | .iface _ d => uptoBulk d + 1
  | .map entries => uptoBulkEntries entries + 1
  | .held _ => 1
def uptoBulkAll {H : Type} : List (DataW H) → Nat
  | [] => 0
  | d :: r => uptoBulk d + uptoBulkAll r
def uptoBulkEntries {H : Type} : List (Lit × DataW H) → Nat
  | [] => 0
  | x :: r => uptoBulkEntry x + uptoBulkEntries r
def uptoBulkEntry {H : Type} : Lit × DataW H → Nat
  | (.string bytes, d) => bytes.length + uptoBulk d + 1
  | (_, d) => uptoBulk d + 1
 end
def uptoSmall : (H : Type) → List (DataW H) → Bool := fun _ ds => decide (uptoBulkAll ds ≤ 1048576)
def OpenSpec.upto (s : _root_.Go.ChangeSpec) : _root_.Go.OpenSpec := { _root_.Go.OpenSpec.ofChange s with cond := some uptoSmall }

/-- 'turnstilelaw6.OpsDecodes', WHERE WHAT IT READS IS OF BULK AT MOST 1048576: true; the input reads as it did. -/
def opsDecodesUptoRow : OpenClaim := { program := "ytgicbgeblgfnfaa", sum := "7ddfa1728f3b944c92c68bb2f95b48f50b84c55e66ba4fca0c0ca487bd1475fb", func := "turnstile/turnstilelaw6.OpsDecodes", spec := "opsDecodes", apart := false, narrowed := true }
def OpsDecodesUptoSaid : Prop := opsDecodesUptoRow.holds Try.pinned (OpenSpec.upto opsDecodesSpec)

/-- 'turnstilelaw6.OpsForms', WHERE WHAT IT READS IS OF BULK AT MOST 1048576: true; the input reads as it did. -/
def opsFormsUptoRow : OpenClaim := { program := "ytgicbgeblgfnfaa", sum := "7ddfa1728f3b944c92c68bb2f95b48f50b84c55e66ba4fca0c0ca487bd1475fb", func := "turnstile/turnstilelaw6.OpsForms", spec := "opsForms", apart := false, narrowed := true }
def OpsFormsUptoSaid : Prop := opsFormsUptoRow.holds Try.pinned (OpenSpec.upto opsFormsSpec)

/-- 'turnstilelaw6.OpsAll', WHERE WHAT IT READS IS OF BULK AT MOST 1048576: true; the input reads as it did. -/
def opsAllUptoRow : OpenClaim := { program := "ytgicbgeblgfnfaa", sum := "7ddfa1728f3b944c92c68bb2f95b48f50b84c55e66ba4fca0c0ca487bd1475fb", func := "turnstile/turnstilelaw6.OpsAll", spec := "opsAll", apart := false, narrowed := true }
def OpsAllUptoSaid : Prop := opsAllUptoRow.holds Try.pinned (OpenSpec.upto opsAllSpec)

/-- 'turnstilelaw6.OpsEncodes', WHERE WHAT IT READS IS OF BULK AT MOST 1048576: true; the input reads as it did. -/
def opsEncodesUptoRow : OpenClaim := { program := "ytgicbgeblgfnfaa", sum := "7ddfa1728f3b944c92c68bb2f95b48f50b84c55e66ba4fca0c0ca487bd1475fb", func := "turnstile/turnstilelaw6.OpsEncodes", spec := "opsEncodes", apart := false, narrowed := true }
def OpsEncodesUptoSaid : Prop := opsEncodesUptoRow.holds Try.pinned (OpenSpec.upto opsEncodesSpec)

/-- 'turnstilelaw6.OpsBack', WHERE WHAT IT READS IS OF BULK AT MOST 1048576: true; the input reads as it did. -/
def opsBackUptoRow : OpenClaim := { program := "ytgicbgeblgfnfaa", sum := "7ddfa1728f3b944c92c68bb2f95b48f50b84c55e66ba4fca0c0ca487bd1475fb", func := "turnstile/turnstilelaw6.OpsBack", spec := "opsBack", apart := false, narrowed := true }
def OpsBackUptoSaid : Prop := opsBackUptoRow.holds Try.pinned (OpenSpec.upto opsBackSpec)

/-- 'turnstilelaw6.OpsRows', WHERE WHAT IT READS IS OF BULK AT MOST 1048576: true; the input reads as it did. -/
def opsRowsUptoRow : OpenClaim := { program := "ytgicbgeblgfnfaa", sum := "7ddfa1728f3b944c92c68bb2f95b48f50b84c55e66ba4fca0c0ca487bd1475fb", func := "turnstile/turnstilelaw6.OpsRows", spec := "opsRows", apart := false, narrowed := true }
def OpsRowsUptoSaid : Prop := opsRowsUptoRow.holds Try.pinned (OpenSpec.upto opsRowsSpec)

end Rows
end Go.Proofs.Ytgicbgeblgfnfaa
