/-
  No cell of these rows narrows 'for every input' (looked for: loops, veiled, ifaces, maps, wideKeys, modest, calm, conditions, laid).
  DERIVED. THE GIVEN ROWS OF THIS SEAT. 2 by the template 'for every input the law returns true; each argument reads behind the call as it read before'; 0 by the template 'total and deterministic' (their statements: YtmicjaiiinaipaaTotals.lean).
  GIVEN WITH THE SEED: the statements are not yours to turn. If you find one false, say at which input.
  Laid BY PROGRAM, IN A SANDBOX (cutbox-rows.mjs): the forced cells as the released guide's own fill.sh prints them over the translation fae5e2d772ba5fcb… (all of the seat's roots in one cut). By AI agents, Wed Nov 11 2026. No macro, syntax, notation, axiom, sorry.
-/
import Derived.Test.YtmicjaiiinaipaaChecked
import GoSem.Claim
import GoSem.ClaimJoined
import GoSem.ClaimMapViews
import Derived.JoinedTies
import Derived.KernelRfl
namespace Go.Proofs.Ytmicjaiiinaipaa
/- THE CELL 'sum', in the pinned program and in every row, IS THE sha256 OF THE DUMP (.gsa) THAT YtmicjaiiinaipaaProg.lean LOADS. Nothing in Lean hashes anything: it is a label: what it is worth is what the hold of that sum in a sandbox is worth. -/
noncomputable def Try.pinned : Pinned := { name := "ytmicjaiiinaipaa", sum := "fae5e2d772ba5fcb9f4927ee4330bb23eea290c1672a084fe233b2acc871bb21", checked := Try.checked }
namespace Rows
def none {H : Type} : Left H := { results := [], args := [] }

/-- 'tollhouselaw13.DeedBytes': WHATEVER THE INPUT: true; the input reads as it did. -/
def deedBytesSpec : ChangeSpec := { name := "deedBytes", fn := fun _ => fun
  | [d1, d2] => { results := [.lit (.bool true)], args := [d1, d2] }
  | _ => none }
def deedBytesRow : OpenClaim := { program := "ytmicjaiiinaipaa", sum := "fae5e2d772ba5fcb9f4927ee4330bb23eea290c1672a084fe233b2acc871bb21", func := "tollhouse/tollhouselaw13.DeedBytes", spec := "deedBytes", apart := false }
def DeedBytesSaid : Prop := deedBytesRow.holds Try.pinned (OpenSpec.ofChange deedBytesSpec)

/-- ITS FALSE NEIGHBOUR: 'it returns false'. Refute it at one input. -/
def deedBytesWrong : ChangeSpec := { name := "deedBytes", fn := fun _ => fun
  | [d1, d2] => { results := [.lit (.bool false)], args := [d1, d2] }
  | _ => none }
def DeedBytesWrongFalsely : Prop := deedBytesRow.holds Try.pinned (OpenSpec.ofChange deedBytesWrong)

/-- 'tollhouselaw13.DeedSigns': WHATEVER THE INPUT: true; the input reads as it did. -/
def deedSignsSpec : ChangeSpec := { name := "deedSigns", fn := fun _ => fun
  | [d1, d2, d3, d4] => { results := [.lit (.bool true)], args := [d1, d2, d3, d4] }
  | _ => none }
def deedSignsRow : OpenClaim := { program := "ytmicjaiiinaipaa", sum := "fae5e2d772ba5fcb9f4927ee4330bb23eea290c1672a084fe233b2acc871bb21", func := "tollhouse/tollhouselaw13.DeedSigns", spec := "deedSigns", apart := false }
def DeedSignsSaid : Prop := deedSignsRow.holds Try.pinned (OpenSpec.ofChange deedSignsSpec)

/-- ITS FALSE NEIGHBOUR: 'it returns false'. Refute it at one input. -/
def deedSignsWrong : ChangeSpec := { name := "deedSigns", fn := fun _ => fun
  | [d1, d2, d3, d4] => { results := [.lit (.bool false)], args := [d1, d2, d3, d4] }
  | _ => none }
def DeedSignsWrongFalsely : Prop := deedSignsRow.holds Try.pinned (OpenSpec.ofChange deedSignsWrong)

/- THE SECOND FORM. 'bulk': how many values and letters a reading holds, each counted each time it is reached (what is shared counts as often as it is met; a slice's spare places count too). A statement '..UptoSaid' is the law's where the arguments, and the package variables that the reading takes, are together of bulk at most 1048576: NARROWER than '..Said'. Prove '..Said' where nothing that the law and all that it calls make is longer than what came in: it says more and counts as full. Else prove '..UptoSaid'. A law counts once. -/
mutual
def uptoBulk {H : Type} : DataW H → Nat
  | .lit (.string bytes) => bytes.length + 1
  | .lit _ => 1
  | .nil => 1
  | .ptr d => uptoBulk d + 1
  | .slice elems spare => uptoBulkAll elems + uptoBulkAll spare + 1
  | .agg parts => uptoBulkAll parts + 1
  | .iface _ d => uptoBulk d + 1
  | .map entries => uptoBulkEntries entries + 1
  | .held _ => 1
def uptoBulkAll {H : Type} : List (DataW H) → Nat
  | [] => 0
  | d :: r => uptoBulk d + uptoBulkAll r
def uptoBulkEntries {H : Type} : List (Lit × DataW H) → Nat
  | [] => 0
  | x :: r => uptoBulkEntry x + uptoBulkEntries r
def uptoBulkEntry {H : Type} : Lit × DataW H → Nat
  | (.string bytes, d) => bytes.length + uptoBulk d + 1
  | (_, d) => uptoBulk d + 1
 end
def uptoSmall : (H : Type) → List (DataW H) → Bool := fun _ ds => decide (uptoBulkAll ds ≤ 1048576)
def OpenSpec.upto (s : _root_.Go.ChangeSpec) : _root_.Go.OpenSpec := { _root_.Go.OpenSpec.ofChange s with cond := some uptoSmall }

/-- 'tollhouselaw13.DeedBytes', WHERE WHAT IT READS IS OF BULK AT MOST 1048576: true; the input reads as it did. -/
def deedBytesUptoRow : OpenClaim := { program := "ytmicjaiiinaipaa", sum := "fae5e2d772ba5fcb9f4927ee4330bb23eea290c1672a084fe233b2acc871bb21", func := "tollhouse/tollhouselaw13.DeedBytes", spec := "deedBytes", apart := false, narrowed := true }
def DeedBytesUptoSaid : Prop := deedBytesUptoRow.holds Try.pinned (OpenSpec.upto deedBytesSpec)

/-- 'tollhouselaw13.DeedSigns', WHERE WHAT IT READS IS OF BULK AT MOST 1048576: true; the input reads as it did. -/
def deedSignsUptoRow : OpenClaim := { program := "ytmicjaiiinaipaa", sum := "fae5e2d772ba5fcb9f4927ee4330bb23eea290c1672a084fe233b2acc871bb21", func := "tollhouse/tollhouselaw13.DeedSigns", spec := "deedSigns", apart := false, narrowed := true }
def DeedSignsUptoSaid : Prop := deedSignsUptoRow.holds Try.pinned (OpenSpec.upto deedSignsSpec)

end Rows
end Go.Proofs.Ytmicjaiiinaipaa
