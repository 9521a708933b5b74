/-
  No cell of these rows narrows 'for every input' (looked for: loops, veiled, ifaces, maps, wideKeys, modest, calm, conditions, laid).
  DERIVED. THE GIVEN ROWS OF THIS SEAT. 6 by the template 'for every input the law returns true; each argument reads behind the call as it read before'; 0 by the template 'total and deterministic' (their statements: YtnpolfihbfdggaaTotals.lean).
  GIVEN WITH THE SEED: the statements are not yours to turn. If you find one false, say at which input.
  Laid BY PROGRAM, IN A SANDBOX (cutbox-rows.mjs): the forced cells as the released guide's own fill.sh prints them over the translation 7a99bd0fc5208592… (all of the seat's roots in one cut). By AI agents, Wed Nov 11 2026. No macro, syntax, notation, axiom, sorry.
-/
import Derived.Test.YtnpolfihbfdggaaChecked
import GoSem.Claim
import GoSem.ClaimJoined
import GoSem.ClaimMapViews
import Derived.JoinedTies
import Derived.KernelRfl
namespace Go.Proofs.Ytnpolfihbfdggaa
/- THE CELL 'sum', in the pinned program and in every row, IS THE sha256 OF THE DUMP (.gsa) THAT YtnpolfihbfdggaaProg.lean LOADS. Nothing in Lean hashes anything: it is a label: what it is worth is what the hold of that sum in a sandbox is worth. -/
noncomputable def Try.pinned : Pinned := { name := "ytnpolfihbfdggaa", sum := "7a99bd0fc52085926f419df9aab586478374437e4025abe98aabd08d7b4b64a1", checked := Try.checked }
namespace Rows
def none {H : Type} : Left H := { results := [], args := [] }

/-- 'tollhouselaw12.PactNext': WHATEVER THE INPUT: true; the input reads as it did. -/
def pactNextSpec : ChangeSpec := { name := "pactNext", fn := fun _ => fun
  | [d1, d2, d3, d4] => { results := [.lit (.bool true)], args := [d1, d2, d3, d4] }
  | _ => none }
def pactNextRow : OpenClaim := { program := "ytnpolfihbfdggaa", sum := "7a99bd0fc52085926f419df9aab586478374437e4025abe98aabd08d7b4b64a1", func := "tollhouse/tollhouselaw12.PactNext", spec := "pactNext", inPlace := ["math/bits.Add64"], unfollowed := true, recurses := true, apart := false }
def PactNextSaid : Prop := pactNextRow.holds Try.pinned (OpenSpec.ofChange pactNextSpec)

/-- ITS FALSE NEIGHBOUR: 'it returns false'. Refute it at one input. -/
def pactNextWrong : ChangeSpec := { name := "pactNext", fn := fun _ => fun
  | [d1, d2, d3, d4] => { results := [.lit (.bool false)], args := [d1, d2, d3, d4] }
  | _ => none }
def PactNextWrongFalsely : Prop := pactNextRow.holds Try.pinned (OpenSpec.ofChange pactNextWrong)

/-- 'tollhouselaw12.PactKeeps': WHATEVER THE INPUT: true; the input reads as it did. -/
def pactKeepsSpec : ChangeSpec := { name := "pactKeeps", fn := fun _ => fun
  | [d1, d2] => { results := [.lit (.bool true)], args := [d1, d2] }
  | _ => none }
def pactKeepsRow : OpenClaim := { program := "ytnpolfihbfdggaa", sum := "7a99bd0fc52085926f419df9aab586478374437e4025abe98aabd08d7b4b64a1", func := "tollhouse/tollhouselaw12.PactKeeps", spec := "pactKeeps", inPlace := ["math/bits.Add64"], unfollowed := true, recurses := true, apart := false }
def PactKeepsSaid : Prop := pactKeepsRow.holds Try.pinned (OpenSpec.ofChange pactKeepsSpec)

/-- ITS FALSE NEIGHBOUR: 'it returns false'. Refute it at one input. -/
def pactKeepsWrong : ChangeSpec := { name := "pactKeeps", fn := fun _ => fun
  | [d1, d2] => { results := [.lit (.bool false)], args := [d1, d2] }
  | _ => none }
def PactKeepsWrongFalsely : Prop := pactKeepsRow.holds Try.pinned (OpenSpec.ofChange pactKeepsWrong)

/-- 'tollhouselaw12.PactTurns': WHATEVER THE INPUT: true; the input reads as it did. -/
def pactTurnsSpec : ChangeSpec := { name := "pactTurns", fn := fun _ => fun
  | [d1, d2, d3] => { results := [.lit (.bool true)], args := [d1, d2, d3] }
  | _ => none }
def pactTurnsRow : OpenClaim := { program := "ytnpolfihbfdggaa", sum := "7a99bd0fc52085926f419df9aab586478374437e4025abe98aabd08d7b4b64a1", func := "tollhouse/tollhouselaw12.PactTurns", spec := "pactTurns", inPlace := ["math/bits.Add64"], unfollowed := true, recurses := true, apart := false }
def PactTurnsSaid : Prop := pactTurnsRow.holds Try.pinned (OpenSpec.ofChange pactTurnsSpec)

/-- ITS FALSE NEIGHBOUR: 'it returns false'. Refute it at one input. -/
def pactTurnsWrong : ChangeSpec := { name := "pactTurns", fn := fun _ => fun
  | [d1, d2, d3] => { results := [.lit (.bool false)], args := [d1, d2, d3] }
  | _ => none }
def PactTurnsWrongFalsely : Prop := pactTurnsRow.holds Try.pinned (OpenSpec.ofChange pactTurnsWrong)

/-- 'tollhouselaw12.PactTells': WHATEVER THE INPUT: true; the input reads as it did. -/
def pactTellsSpec : ChangeSpec := { name := "pactTells", fn := fun _ => fun
  | [d1, d2, d3, d4, d5] => { results := [.lit (.bool true)], args := [d1, d2, d3, d4, d5] }
  | _ => none }
def pactTellsRow : OpenClaim := { program := "ytnpolfihbfdggaa", sum := "7a99bd0fc52085926f419df9aab586478374437e4025abe98aabd08d7b4b64a1", func := "tollhouse/tollhouselaw12.PactTells", spec := "pactTells", inPlace := ["math/bits.Add64"], unfollowed := true, recurses := true, apart := false }
def PactTellsSaid : Prop := pactTellsRow.holds Try.pinned (OpenSpec.ofChange pactTellsSpec)

/-- ITS FALSE NEIGHBOUR: 'it returns false'. Refute it at one input. -/
def pactTellsWrong : ChangeSpec := { name := "pactTells", fn := fun _ => fun
  | [d1, d2, d3, d4, d5] => { results := [.lit (.bool false)], args := [d1, d2, d3, d4, d5] }
  | _ => none }
def PactTellsWrongFalsely : Prop := pactTellsRow.holds Try.pinned (OpenSpec.ofChange pactTellsWrong)

/-- 'tollhouselaw12.PactLocks': WHATEVER THE INPUT: true; the input reads as it did. -/
def pactLocksSpec : ChangeSpec := { name := "pactLocks", fn := fun _ => fun
  | [d1, d2, d3] => { results := [.lit (.bool true)], args := [d1, d2, d3] }
  | _ => none }
def pactLocksRow : OpenClaim := { program := "ytnpolfihbfdggaa", sum := "7a99bd0fc52085926f419df9aab586478374437e4025abe98aabd08d7b4b64a1", func := "tollhouse/tollhouselaw12.PactLocks", spec := "pactLocks", inPlace := ["math/bits.Add64"], unfollowed := true, recurses := true, apart := false }
def PactLocksSaid : Prop := pactLocksRow.holds Try.pinned (OpenSpec.ofChange pactLocksSpec)

/-- ITS FALSE NEIGHBOUR: 'it returns false'. Refute it at one input. -/
def pactLocksWrong : ChangeSpec := { name := "pactLocks", fn := fun _ => fun
  | [d1, d2, d3] => { results := [.lit (.bool false)], args := [d1, d2, d3] }
  | _ => none }
def PactLocksWrongFalsely : Prop := pactLocksRow.holds Try.pinned (OpenSpec.ofChange pactLocksWrong)

/-- 'tollhouselaw12.PactWhole': WHATEVER THE INPUT: true; the input reads as it did. -/
def pactWholeSpec : ChangeSpec := { name := "pactWhole", fn := fun _ => fun
  | [d1, d2, d3, d4] => { results := [.lit (.bool true)], args := [d1, d2, d3, d4] }
  | _ => none }
def pactWholeRow : OpenClaim := { program := "ytnpolfihbfdggaa", sum := "7a99bd0fc52085926f419df9aab586478374437e4025abe98aabd08d7b4b64a1", func := "tollhouse/tollhouselaw12.PactWhole", spec := "pactWhole", inPlace := ["math/bits.Add64"], unfollowed := true, recurses := true, apart := false }
def PactWholeSaid : Prop := pactWholeRow.holds Try.pinned (OpenSpec.ofChange pactWholeSpec)

/-- ITS FALSE NEIGHBOUR: 'it returns false'. Refute it at one input. -/
def pactWholeWrong : ChangeSpec := { name := "pactWhole", fn := fun _ => fun
  | [d1, d2, d3, d4] => { results := [.lit (.bool false)], args := [d1, d2, d3, d4] }
  | _ => none }
def PactWholeWrongFalsely : Prop := pactWholeRow.holds Try.pinned (OpenSpec.ofChange pactWholeWrong)

/- THE SECOND FORM. 'bulk': how many values and letters a reading holds, each counted each time it is reached (what is shared counts as often as it is met; a slice's spare places count too). A statement '..UptoSaid' is the law's where the arguments, and the package variables that the reading takes, are together of bulk at most 1048576: NARROWER than '..Said'. Prove '..Said' where nothing that the law and all that it calls make is longer than what came in: it says more and counts as full. Else prove '..UptoSaid'. A law counts once. -/
mutual
def uptoBulk {H : Type} : DataW H → Nat
  | .lit (.string bytes) => bytes.length + 1
  | .lit _ => 1
  | .nil => 1
  | .ptr d => uptoBulk d + 1
  | .slice elems spare => uptoBulkAll elems + uptoBulkAll spare + 1
  | .agg parts => uptoBulkAll parts + 1
  | .iface _ d => uptoBulk d + 1
  | .map entries => uptoBulkEntries entries + 1
  | .held _ => 1
def uptoBulkAll {H : Type} : List (DataW H) → Nat
  | [] => 0
  | d :: r => uptoBulk d + uptoBulkAll r
def uptoBulkEntries {H : Type} : List (Lit × DataW H) → Nat
  | [] => 0
  | x :: r => uptoBulkEntry x + uptoBulkEntries r
def uptoBulkEntry {H : Type} : Lit × DataW H → Nat
  | (.string bytes, d) => bytes.length + uptoBulk d + 1
  | (_, d) => uptoBulk d + 1
 end
def uptoSmall : (H : Type) → List (DataW H) → Bool := fun _ ds => decide (uptoBulkAll ds ≤ 1048576)
def OpenSpec.upto (s : _root_.Go.ChangeSpec) : _root_.Go.OpenSpec := { _root_.Go.OpenSpec.ofChange s with cond := some uptoSmall }

/-- 'tollhouselaw12.PactNext', WHERE WHAT IT READS IS OF BULK AT MOST 1048576: true; the input reads as it did. -/
def pactNextUptoRow : OpenClaim := { program := "ytnpolfihbfdggaa", sum := "7a99bd0fc52085926f419df9aab586478374437e4025abe98aabd08d7b4b64a1", func := "tollhouse/tollhouselaw12.PactNext", spec := "pactNext", inPlace := ["math/bits.Add64"], unfollowed := true, recurses := true, apart := false, narrowed := true }
def PactNextUptoSaid : Prop := pactNextUptoRow.holds Try.pinned (OpenSpec.upto pactNextSpec)

/-- 'tollhouselaw12.PactKeeps', WHERE WHAT IT READS IS OF BULK AT MOST 1048576: true; the input reads as it did. -/
def pactKeepsUptoRow : OpenClaim := { program := "ytnpolfihbfdggaa", sum := "7a99bd0fc52085926f419df9aab586478374437e4025abe98aabd08d7b4b64a1", func := "tollhouse/tollhouselaw12.PactKeeps", spec := "pactKeeps", inPlace := ["math/bits.Add64"], unfollowed := true, recurses := true, apart := false, narrowed := true }
def PactKeepsUptoSaid : Prop := pactKeepsUptoRow.holds Try.pinned (OpenSpec.upto pactKeepsSpec)

/-- 'tollhouselaw12.PactTurns', WHERE WHAT IT READS IS OF BULK AT MOST 1048576: true; the input reads as it did. -/
def pactTurnsUptoRow : OpenClaim := { program := "ytnpolfihbfdggaa", sum := "7a99bd0fc52085926f419df9aab586478374437e4025abe98aabd08d7b4b64a1", func := "tollhouse/tollhouselaw12.PactTurns", spec := "pactTurns", inPlace := ["math/bits.Add64"], unfollowed := true, recurses := true, apart := false, narrowed := true }
def PactTurnsUptoSaid : Prop := pactTurnsUptoRow.holds Try.pinned (OpenSpec.upto pactTurnsSpec)

/-- 'tollhouselaw12.PactTells', WHERE WHAT IT READS IS OF BULK AT MOST 1048576: true; the input reads as it did. -/
def pactTellsUptoRow : OpenClaim := { program := "ytnpolfihbfdggaa", sum := "7a99bd0fc52085926f419df9aab586478374437e4025abe98aabd08d7b4b64a1", func := "tollhouse/tollhouselaw12.PactTells", spec := "pactTells", inPlace := ["math/bits.Add64"], unfollowed := true, recurses := true, apart := false, narrowed := true }
def PactTellsUptoSaid : Prop := pactTellsUptoRow.holds Try.pinned (OpenSpec.upto pactTellsSpec)

/-- 'tollhouselaw12.PactLocks', WHERE WHAT IT READS IS OF BULK AT MOST 1048576: true; the input reads as it did. -/
def pactLocksUptoRow : OpenClaim := { program := "ytnpolfihbfdggaa", sum := "7a99bd0fc52085926f419df9aab586478374437e4025abe98aabd08d7b4b64a1", func := "tollhouse/tollhouselaw12.PactLocks", spec := "pactLocks", inPlace := ["math/bits.Add64"], unfollowed := true, recurses := true, apart := false, narrowed := true }
def PactLocksUptoSaid : Prop := pactLocksUptoRow.holds Try.pinned (OpenSpec.upto pactLocksSpec)

/-- 'tollhouselaw12.PactWhole', WHERE WHAT IT READS IS OF BULK AT MOST 1048576: true; the input reads as it did. -/
def pactWholeUptoRow : OpenClaim := { program := "ytnpolfihbfdggaa", sum := "7a99bd0fc52085926f419df9aab586478374437e4025abe98aabd08d7b4b64a1", func := "tollhouse/tollhouselaw12.PactWhole", spec := "pactWhole", inPlace := ["math/bits.Add64"], unfollowed := true, recurses := true, apart := false, narrowed := true }
def PactWholeUptoSaid : Prop := pactWholeUptoRow.holds Try.pinned (OpenSpec.upto pactWholeSpec)

end Rows
end Go.Proofs.Ytnpolfihbfdggaa
