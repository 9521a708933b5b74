/-
  No cell of these rows narrows 'for every input' (looked for: loops, veiled, ifaces, maps, wideKeys, modest, calm, conditions, laid).
  DERIVED. THE GIVEN ROWS OF THIS SEAT. 6 by the template 'for every input the law returns true; each argument reads behind the call as it read before'; 0 by the template 'total and deterministic' (their statements: YtklljkfnlakdaaaTotals.lean).
  GIVEN WITH THE SEED: the statements are not yours to turn. If you find one false, say at which input.
  Laid BY PROGRAM, IN A SANDBOX (cutbox-rows.mjs): the forced cells as the released guide's own fill.sh prints them over the translation f020c71540c93256… (all of the seat's roots in one cut). By AI agents, Wed Nov 11 2026. No macro, syntax, notation, axiom, sorry.
-/
import Derived.Test.YtklljkfnlakdaaaChecked
import GoSem.Claim
import GoSem.ClaimJoined
import GoSem.ClaimMapViews
import Derived.JoinedTies
import Derived.KernelRfl
namespace Go.Proofs.Ytklljkfnlakdaaa
/- THE CELL 'sum', in the pinned program and in every row, IS THE sha256 OF THE DUMP (.gsa) THAT YtklljkfnlakdaaaProg.lean LOADS. Nothing in Lean hashes anything: it is a label: what it is worth is what the hold of that sum in a sandbox is worth. -/
noncomputable def Try.pinned : Pinned := { name := "ytklljkfnlakdaaa", sum := "f020c71540c932569e7f585c20155a342cd279280d6d7e4c1fe5262b167e5003", checked := Try.checked }
namespace Rows
def none {H : Type} : Left H := { results := [], args := [] }

/-- 'tollhouselaw03.MillSums': WHATEVER THE INPUT: true; the input reads as it did. -/
def millSumsSpec : ChangeSpec := { name := "millSums", fn := fun _ => fun
  | [d] => { results := [.lit (.bool true)], args := [d] }
  | _ => none }
def millSumsRow : OpenClaim := { program := "ytklljkfnlakdaaa", sum := "f020c71540c932569e7f585c20155a342cd279280d6d7e4c1fe5262b167e5003", func := "tollhouse/tollhouselaw03.MillSums", spec := "millSums", apart := false }
def MillSumsSaid : Prop := millSumsRow.holds Try.pinned (OpenSpec.ofChange millSumsSpec)

/-- ITS FALSE NEIGHBOUR: 'it returns false'. Refute it at one input. -/
def millSumsWrong : ChangeSpec := { name := "millSums", fn := fun _ => fun
  | [d] => { results := [.lit (.bool false)], args := [d] }
  | _ => none }
def MillSumsWrongFalsely : Prop := millSumsRow.holds Try.pinned (OpenSpec.ofChange millSumsWrong)

/-- 'tollhouselaw03.MillParts': WHATEVER THE INPUT: true; the input reads as it did. -/
def millPartsSpec : ChangeSpec := { name := "millParts", fn := fun _ => fun
  | [d] => { results := [.lit (.bool true)], args := [d] }
  | _ => none }
def millPartsRow : OpenClaim := { program := "ytklljkfnlakdaaa", sum := "f020c71540c932569e7f585c20155a342cd279280d6d7e4c1fe5262b167e5003", func := "tollhouse/tollhouselaw03.MillParts", spec := "millParts", apart := false }
def MillPartsSaid : Prop := millPartsRow.holds Try.pinned (OpenSpec.ofChange millPartsSpec)

/-- ITS FALSE NEIGHBOUR: 'it returns false'. Refute it at one input. -/
def millPartsWrong : ChangeSpec := { name := "millParts", fn := fun _ => fun
  | [d] => { results := [.lit (.bool false)], args := [d] }
  | _ => none }
def MillPartsWrongFalsely : Prop := millPartsRow.holds Try.pinned (OpenSpec.ofChange millPartsWrong)

/-- 'tollhouselaw03.MillApart': WHATEVER THE INPUT: true; the input reads as it did. -/
def millApartSpec : ChangeSpec := { name := "millApart", fn := fun _ => fun
  | [d1, d2, d3, d4] => { results := [.lit (.bool true)], args := [d1, d2, d3, d4] }
  | _ => none }
def millApartRow : OpenClaim := { program := "ytklljkfnlakdaaa", sum := "f020c71540c932569e7f585c20155a342cd279280d6d7e4c1fe5262b167e5003", func := "tollhouse/tollhouselaw03.MillApart", spec := "millApart", apart := false }
def MillApartSaid : Prop := millApartRow.holds Try.pinned (OpenSpec.ofChange millApartSpec)

/-- ITS FALSE NEIGHBOUR: 'it returns false'. Refute it at one input. -/
def millApartWrong : ChangeSpec := { name := "millApart", fn := fun _ => fun
  | [d1, d2, d3, d4] => { results := [.lit (.bool false)], args := [d1, d2, d3, d4] }
  | _ => none }
def MillApartWrongFalsely : Prop := millApartRow.holds Try.pinned (OpenSpec.ofChange millApartWrong)

/-- 'tollhouselaw03.MillFor': WHATEVER THE INPUT: true; the input reads as it did. -/
def millForSpec : ChangeSpec := { name := "millFor", fn := fun _ => fun
  | [d1, d2, d3] => { results := [.lit (.bool true)], args := [d1, d2, d3] }
  | _ => none }
def millForRow : OpenClaim := { program := "ytklljkfnlakdaaa", sum := "f020c71540c932569e7f585c20155a342cd279280d6d7e4c1fe5262b167e5003", func := "tollhouse/tollhouselaw03.MillFor", spec := "millFor", apart := false }
def MillForSaid : Prop := millForRow.holds Try.pinned (OpenSpec.ofChange millForSpec)

/-- ITS FALSE NEIGHBOUR: 'it returns false'. Refute it at one input. -/
def millForWrong : ChangeSpec := { name := "millFor", fn := fun _ => fun
  | [d1, d2, d3] => { results := [.lit (.bool false)], args := [d1, d2, d3] }
  | _ => none }
def MillForWrongFalsely : Prop := millForRow.holds Try.pinned (OpenSpec.ofChange millForWrong)

/-- 'tollhouselaw03.MillLogs': WHATEVER THE INPUT: true; the input reads as it did. -/
def millLogsSpec : ChangeSpec := { name := "millLogs", fn := fun _ => fun
  | [d1, d2] => { results := [.lit (.bool true)], args := [d1, d2] }
  | _ => none }
def millLogsRow : OpenClaim := { program := "ytklljkfnlakdaaa", sum := "f020c71540c932569e7f585c20155a342cd279280d6d7e4c1fe5262b167e5003", func := "tollhouse/tollhouselaw03.MillLogs", spec := "millLogs", apart := false }
def MillLogsSaid : Prop := millLogsRow.holds Try.pinned (OpenSpec.ofChange millLogsSpec)

/-- ITS FALSE NEIGHBOUR: 'it returns false'. Refute it at one input. -/
def millLogsWrong : ChangeSpec := { name := "millLogs", fn := fun _ => fun
  | [d1, d2] => { results := [.lit (.bool false)], args := [d1, d2] }
  | _ => none }
def MillLogsWrongFalsely : Prop := millLogsRow.holds Try.pinned (OpenSpec.ofChange millLogsWrong)

/-- 'tollhouselaw03.MillGoes': WHATEVER THE INPUT: true; the input reads as it did. -/
def millGoesSpec : ChangeSpec := { name := "millGoes", fn := fun _ => fun
  | [d] => { results := [.lit (.bool true)], args := [d] }
  | _ => none }
def millGoesRow : OpenClaim := { program := "ytklljkfnlakdaaa", sum := "f020c71540c932569e7f585c20155a342cd279280d6d7e4c1fe5262b167e5003", func := "tollhouse/tollhouselaw03.MillGoes", spec := "millGoes", apart := false }
def MillGoesSaid : Prop := millGoesRow.holds Try.pinned (OpenSpec.ofChange millGoesSpec)

/-- ITS FALSE NEIGHBOUR: 'it returns false'. Refute it at one input. -/
def millGoesWrong : ChangeSpec := { name := "millGoes", fn := fun _ => fun
  | [d] => { results := [.lit (.bool false)], args := [d] }
  | _ => none }
def MillGoesWrongFalsely : Prop := millGoesRow.holds Try.pinned (OpenSpec.ofChange millGoesWrong)

/- THE SECOND FORM. 'bulk': how many values and letters a reading holds, each counted each time it is reached (what is shared counts as often as it is met; a slice's spare places count too). A statement '..UptoSaid' is the law's where the arguments, and the package variables that the reading takes, are together of bulk at most 1048576: NARROWER than '..Said'. Prove '..Said' where nothing that the law and all that it calls make is longer than what came in: it says more and counts as full. Else prove '..UptoSaid'. A law counts once. -/
mutual
def uptoBulk {H : Type} : DataW H → Nat
  | .lit (.string bytes) => bytes.length + 1
  | .lit _ => 1
  | .nil => 1
  | .ptr d => uptoBulk d + 1
  | .slice elems spare => uptoBulkAll elems + uptoBulkAll spare + 1
  | .agg parts => uptoBulkAll parts + 1
  | .iface _ d => uptoBulk d + 1
  | .map entries => uptoBulkEntries entries + 1
  | .held _ => 1
def uptoBulkAll {H : Type} : List (DataW H) → Nat
  | [] => 0
  | d :: r => uptoBulk d + uptoBulkAll r
def uptoBulkEntries {H : Type} : List (Lit × DataW H) → Nat
  | [] => 0
  | x :: r => uptoBulkEntry x + uptoBulkEntries r
def uptoBulkEntry {H : Type} : Lit × DataW H → Nat
  | (.string bytes, d) => bytes.length + uptoBulk d + 1
  | (_, d) => uptoBulk d + 1
 end
def uptoSmall : (H : Type) → List (DataW H) → Bool := fun _ ds => decide (uptoBulkAll ds ≤ 1048576)
def OpenSpec.upto (s : _root_.Go.ChangeSpec) : _root_.Go.OpenSpec := { _root_.Go.OpenSpec.ofChange s with cond := some uptoSmall }

/-- 'tollhouselaw03.MillSums', WHERE WHAT IT READS IS OF BULK AT MOST 1048576: true; the input reads as it did. -/
def millSumsUptoRow : OpenClaim := { program := "ytklljkfnlakdaaa", sum := "f020c71540c932569e7f585c20155a342cd279280d6d7e4c1fe5262b167e5003", func := "tollhouse/tollhouselaw03.MillSums", spec := "millSums", apart := false, narrowed := true }
def MillSumsUptoSaid : Prop := millSumsUptoRow.holds Try.pinned (OpenSpec.upto millSumsSpec)

/-- 'tollhouselaw03.MillParts', WHERE WHAT IT READS IS OF BULK AT MOST 1048576: true; the input reads as it did. -/
def millPartsUptoRow : OpenClaim := { program := "ytklljkfnlakdaaa", sum := "f020c71540c932569e7f585c20155a342cd279280d6d7e4c1fe5262b167e5003", func := "tollhouse/tollhouselaw03.MillParts", spec := "millParts", apart := false, narrowed := true }
def MillPartsUptoSaid : Prop := millPartsUptoRow.holds Try.pinned (OpenSpec.upto millPartsSpec)

/-- 'tollhouselaw03.MillApart', WHERE WHAT IT READS IS OF BULK AT MOST 1048576: true; the input reads as it did. -/
def millApartUptoRow : OpenClaim := { program := "ytklljkfnlakdaaa", sum := "f020c71540c932569e7f585c20155a342cd279280d6d7e4c1fe5262b167e5003", func := "tollhouse/tollhouselaw03.MillApart", spec := "millApart", apart := false, narrowed := true }
def MillApartUptoSaid : Prop := millApartUptoRow.holds Try.pinned (OpenSpec.upto millApartSpec)

/-- 'tollhouselaw03.MillFor', WHERE WHAT IT READS IS OF BULK AT MOST 1048576: true; the input reads as it did. -/
def millForUptoRow : OpenClaim := { program := "ytklljkfnlakdaaa", sum := "f020c71540c932569e7f585c20155a342cd279280d6d7e4c1fe5262b167e5003", func := "tollhouse/tollhouselaw03.MillFor", spec := "millFor", apart := false, narrowed := true }
def MillForUptoSaid : Prop := millForUptoRow.holds Try.pinned (OpenSpec.upto millForSpec)

/-- 'tollhouselaw03.MillLogs', WHERE WHAT IT READS IS OF BULK AT MOST 1048576: true; the input reads as it did. -/
def millLogsUptoRow : OpenClaim := { program := "ytklljkfnlakdaaa", sum := "f020c71540c932569e7f585c20155a342cd279280d6d7e4c1fe5262b167e5003", func := "tollhouse/tollhouselaw03.MillLogs", spec := "millLogs", apart := false, narrowed := true }
def MillLogsUptoSaid : Prop := millLogsUptoRow.holds Try.pinned (OpenSpec.upto millLogsSpec)

/-- 'tollhouselaw03.MillGoes', WHERE WHAT IT READS IS OF BULK AT MOST 1048576: true; the input reads as it did. -/
def millGoesUptoRow : OpenClaim := { program := "ytklljkfnlakdaaa", sum := "f020c71540c932569e7f585c20155a342cd279280d6d7e4c1fe5262b167e5003", func := "tollhouse/tollhouselaw03.MillGoes", spec := "millGoes", apart := false, narrowed := true }
def MillGoesUptoSaid : Prop := millGoesUptoRow.holds Try.pinned (OpenSpec.upto millGoesSpec)

end Rows
end Go.Proofs.Ytklljkfnlakdaaa
