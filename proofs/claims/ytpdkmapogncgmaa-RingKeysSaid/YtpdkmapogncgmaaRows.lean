/-
  No cell of these rows narrows 'for every input' (looked for: loops, veiled, ifaces, maps, wideKeys, modest, calm, conditions, laid).
  DERIVED. THE GIVEN ROWS OF THIS SEAT. 6 by the template 'for every input the law returns true; each argument reads behind the call as it read before'; 0 by the template 'total and deterministic' (their statements: YtpdkmapogncgmaaTotals.lean).
  GIVEN WITH THE SEED: the statements are not yours to turn. If you find one false, say at which input.
  Laid BY PROGRAM, IN A SANDBOX (cutbox-rows.mjs): the forced cells as the released guide's own fill.sh prints them over the translation 676221938f35be59… (all of the seat's roots in one cut). By AI agents, Wed Nov 11 2026. No macro, syntax, notation, axiom, sorry.
-/
import Derived.Test.YtpdkmapogncgmaaChecked
import GoSem.Claim
import GoSem.ClaimJoined
import GoSem.ClaimMapViews
import Derived.JoinedTies
import Derived.KernelRfl
namespace Go.Proofs.Ytpdkmapogncgmaa
/- THE CELL 'sum', in the pinned program and in every row, IS THE sha256 OF THE DUMP (.gsa) THAT YtpdkmapogncgmaaProg.lean LOADS. Nothing in Lean hashes anything: it is a label: what it is worth is what the hold of that sum in a sandbox is worth. -/
noncomputable def Try.pinned : Pinned := { name := "ytpdkmapogncgmaa", sum := "676221938f35be59567a6168d6721d47e1ae3970d6da7bff9f08f4526b68725a", checked := Try.checked }
namespace Rows
def none {H : Type} : Left H := { results := [], args := [] }

/-- 'tollhouselaw05.RingRights': WHATEVER THE INPUT: true; the input reads as it did. -/
def ringRightsSpec : ChangeSpec := { name := "ringRights", fn := fun _ => fun
  | [d1, d2, d3, d4, d5] => { results := [.lit (.bool true)], args := [d1, d2, d3, d4, d5] }
  | _ => none }
def ringRightsRow : OpenClaim := { program := "ytpdkmapogncgmaa", sum := "676221938f35be59567a6168d6721d47e1ae3970d6da7bff9f08f4526b68725a", func := "tollhouse/tollhouselaw05.RingRights", spec := "ringRights", apart := false }
def RingRightsSaid : Prop := ringRightsRow.holds Try.pinned (OpenSpec.ofChange ringRightsSpec)

/-- ITS FALSE NEIGHBOUR: 'it returns false'. Refute it at one input. -/
def ringRightsWrong : ChangeSpec := { name := "ringRights", fn := fun _ => fun
  | [d1, d2, d3, d4, d5] => { results := [.lit (.bool false)], args := [d1, d2, d3, d4, d5] }
  | _ => none }
def RingRightsWrongFalsely : Prop := ringRightsRow.holds Try.pinned (OpenSpec.ofChange ringRightsWrong)

/-- 'tollhouselaw05.RingSigns': WHATEVER THE INPUT: true; the input reads as it did. -/
def ringSignsSpec : ChangeSpec := { name := "ringSigns", fn := fun _ => fun
  | [d1, d2, d3, d4] => { results := [.lit (.bool true)], args := [d1, d2, d3, d4] }
  | _ => none }
def ringSignsRow : OpenClaim := { program := "ytpdkmapogncgmaa", sum := "676221938f35be59567a6168d6721d47e1ae3970d6da7bff9f08f4526b68725a", func := "tollhouse/tollhouselaw05.RingSigns", spec := "ringSigns", apart := false }
def RingSignsSaid : Prop := ringSignsRow.holds Try.pinned (OpenSpec.ofChange ringSignsSpec)

/-- ITS FALSE NEIGHBOUR: 'it returns false'. Refute it at one input. -/
def ringSignsWrong : ChangeSpec := { name := "ringSigns", fn := fun _ => fun
  | [d1, d2, d3, d4] => { results := [.lit (.bool false)], args := [d1, d2, d3, d4] }
  | _ => none }
def RingSignsWrongFalsely : Prop := ringSignsRow.holds Try.pinned (OpenSpec.ofChange ringSignsWrong)

/-- 'tollhouselaw05.RingSpends': WHATEVER THE INPUT: true; the input reads as it did. -/
def ringSpendsSpec : ChangeSpec := { name := "ringSpends", fn := fun _ => fun
  | [d1, d2, d3, d4, d5] => { results := [.lit (.bool true)], args := [d1, d2, d3, d4, d5] }
  | _ => none }
def ringSpendsRow : OpenClaim := { program := "ytpdkmapogncgmaa", sum := "676221938f35be59567a6168d6721d47e1ae3970d6da7bff9f08f4526b68725a", func := "tollhouse/tollhouselaw05.RingSpends", spec := "ringSpends", apart := false }
def RingSpendsSaid : Prop := ringSpendsRow.holds Try.pinned (OpenSpec.ofChange ringSpendsSpec)

/-- ITS FALSE NEIGHBOUR: 'it returns false'. Refute it at one input. -/
def ringSpendsWrong : ChangeSpec := { name := "ringSpends", fn := fun _ => fun
  | [d1, d2, d3, d4, d5] => { results := [.lit (.bool false)], args := [d1, d2, d3, d4, d5] }
  | _ => none }
def RingSpendsWrongFalsely : Prop := ringSpendsRow.holds Try.pinned (OpenSpec.ofChange ringSpendsWrong)

/-- 'tollhouselaw05.RingKeys': WHATEVER THE INPUT: true; the input reads as it did. -/
def ringKeysSpec : ChangeSpec := { name := "ringKeys", fn := fun _ => fun
  | [d1, d2, d3, d4, d5] => { results := [.lit (.bool true)], args := [d1, d2, d3, d4, d5] }
  | _ => none }
def ringKeysRow : OpenClaim := { program := "ytpdkmapogncgmaa", sum := "676221938f35be59567a6168d6721d47e1ae3970d6da7bff9f08f4526b68725a", func := "tollhouse/tollhouselaw05.RingKeys", spec := "ringKeys", apart := false }
def RingKeysSaid : Prop := ringKeysRow.holds Try.pinned (OpenSpec.ofChange ringKeysSpec)

/-- ITS FALSE NEIGHBOUR: 'it returns false'. Refute it at one input. -/
def ringKeysWrong : ChangeSpec := { name := "ringKeys", fn := fun _ => fun
  | [d1, d2, d3, d4, d5] => { results := [.lit (.bool false)], args := [d1, d2, d3, d4, d5] }
  | _ => none }
def RingKeysWrongFalsely : Prop := ringKeysRow.holds Try.pinned (OpenSpec.ofChange ringKeysWrong)

/-- 'tollhouselaw05.RingNil': WHATEVER THE INPUT: true; the input reads as it did. -/
def ringNilSpec : ChangeSpec := { name := "ringNil", fn := fun _ => fun
  | [d1, d2] => { results := [.lit (.bool true)], args := [d1, d2] }
  | _ => none }
def ringNilRow : OpenClaim := { program := "ytpdkmapogncgmaa", sum := "676221938f35be59567a6168d6721d47e1ae3970d6da7bff9f08f4526b68725a", func := "tollhouse/tollhouselaw05.RingNil", spec := "ringNil", apart := false }
def RingNilSaid : Prop := ringNilRow.holds Try.pinned (OpenSpec.ofChange ringNilSpec)

/-- ITS FALSE NEIGHBOUR: 'it returns false'. Refute it at one input. -/
def ringNilWrong : ChangeSpec := { name := "ringNil", fn := fun _ => fun
  | [d1, d2] => { results := [.lit (.bool false)], args := [d1, d2] }
  | _ => none }
def RingNilWrongFalsely : Prop := ringNilRow.holds Try.pinned (OpenSpec.ofChange ringNilWrong)

/-- 'tollhouselaw05.RingBytes': WHATEVER THE INPUT: true; the input reads as it did. -/
def ringBytesSpec : ChangeSpec := { name := "ringBytes", fn := fun _ => fun
  | [d1, d2] => { results := [.lit (.bool true)], args := [d1, d2] }
  | _ => none }
def ringBytesRow : OpenClaim := { program := "ytpdkmapogncgmaa", sum := "676221938f35be59567a6168d6721d47e1ae3970d6da7bff9f08f4526b68725a", func := "tollhouse/tollhouselaw05.RingBytes", spec := "ringBytes", apart := false }
def RingBytesSaid : Prop := ringBytesRow.holds Try.pinned (OpenSpec.ofChange ringBytesSpec)

/-- ITS FALSE NEIGHBOUR: 'it returns false'. Refute it at one input. -/
def ringBytesWrong : ChangeSpec := { name := "ringBytes", fn := fun _ => fun
  | [d1, d2] => { results := [.lit (.bool false)], args := [d1, d2] }
  | _ => none }
def RingBytesWrongFalsely : Prop := ringBytesRow.holds Try.pinned (OpenSpec.ofChange ringBytesWrong)

/- THE SECOND FORM. 'bulk': how many values and letters a reading holds, each counted each time it is reached (what is shared counts as often as it is met; a slice's spare places count too). A statement '..UptoSaid' is the law's where the arguments, and the package variables that the reading takes, are together of bulk at most 1048576: NARROWER than '..Said'. Prove '..Said' where nothing that the law and all that it calls make is longer than what came in: it says more and counts as full. Else prove '..UptoSaid'. A law counts once. -/
mutual
def uptoBulk {H : Type} : DataW H → Nat
  | .lit (.string bytes) => bytes.length + 1
  | .lit _ => 1
  | .nil => 1
  | .ptr d => uptoBulk d + 1
  | .slice elems spare => uptoBulkAll elems + uptoBulkAll spare + 1
  | .agg parts => uptoBulkAll parts + 1
  | .iface _ d => uptoBulk d + 1
  | .map entries => uptoBulkEntries entries + 1
  | .held _ => 1
def uptoBulkAll {H : Type} : List (DataW H) → Nat
  | [] => 0
  | d :: r => uptoBulk d + uptoBulkAll r
def uptoBulkEntries {H : Type} : List (Lit × DataW H) → Nat
  | [] => 0
  | x :: r => uptoBulkEntry x + uptoBulkEntries r
def uptoBulkEntry {H : Type} : Lit × DataW H → Nat
  | (.string bytes, d) => bytes.length + uptoBulk d + 1
  | (_, d) => uptoBulk d + 1
 end
def uptoSmall : (H : Type) → List (DataW H) → Bool := fun _ ds => decide (uptoBulkAll ds ≤ 1048576)
def OpenSpec.upto (s : _root_.Go.ChangeSpec) : _root_.Go.OpenSpec := { _root_.Go.OpenSpec.ofChange s with cond := some uptoSmall }

/-- 'tollhouselaw05.RingRights', WHERE WHAT IT READS IS OF BULK AT MOST 1048576: true; the input reads as it did. -/
def ringRightsUptoRow : OpenClaim := { program := "ytpdkmapogncgmaa", sum := "676221938f35be59567a6168d6721d47e1ae3970d6da7bff9f08f4526b68725a", func := "tollhouse/tollhouselaw05.RingRights", spec := "ringRights", apart := false, narrowed := true }
def RingRightsUptoSaid : Prop := ringRightsUptoRow.holds Try.pinned (OpenSpec.upto ringRightsSpec)

/-- 'tollhouselaw05.RingSigns', WHERE WHAT IT READS IS OF BULK AT MOST 1048576: true; the input reads as it did. -/
def ringSignsUptoRow : OpenClaim := { program := "ytpdkmapogncgmaa", sum := "676221938f35be59567a6168d6721d47e1ae3970d6da7bff9f08f4526b68725a", func := "tollhouse/tollhouselaw05.RingSigns", spec := "ringSigns", apart := false, narrowed := true }
def RingSignsUptoSaid : Prop := ringSignsUptoRow.holds Try.pinned (OpenSpec.upto ringSignsSpec)

/-- 'tollhouselaw05.RingSpends', WHERE WHAT IT READS IS OF BULK AT MOST 1048576: true; the input reads as it did. -/
def ringSpendsUptoRow : OpenClaim := { program := "ytpdkmapogncgmaa", sum := "676221938f35be59567a6168d6721d47e1ae3970d6da7bff9f08f4526b68725a", func := "tollhouse/tollhouselaw05.RingSpends", spec := "ringSpends", apart := false, narrowed := true }
def RingSpendsUptoSaid : Prop := ringSpendsUptoRow.holds Try.pinned (OpenSpec.upto ringSpendsSpec)

/-- 'tollhouselaw05.RingKeys', WHERE WHAT IT READS IS OF BULK AT MOST 1048576: true; the input reads as it did. -/
def ringKeysUptoRow : OpenClaim := { program := "ytpdkmapogncgmaa", sum := "676221938f35be59567a6168d6721d47e1ae3970d6da7bff9f08f4526b68725a", func := "tollhouse/tollhouselaw05.RingKeys", spec := "ringKeys", apart := false, narrowed := true }
def RingKeysUptoSaid : Prop := ringKeysUptoRow.holds Try.pinned (OpenSpec.upto ringKeysSpec)

/-- 'tollhouselaw05.RingNil', WHERE WHAT IT READS IS OF BULK AT MOST 1048576: true; the input reads as it did. -/
def ringNilUptoRow : OpenClaim := { program := "ytpdkmapogncgmaa", sum := "676221938f35be59567a6168d6721d47e1ae3970d6da7bff9f08f4526b68725a", func := "tollhouse/tollhouselaw05.RingNil", spec := "ringNil", apart := false, narrowed := true }
def RingNilUptoSaid : Prop := ringNilUptoRow.holds Try.pinned (OpenSpec.upto ringNilSpec)

/-- 'tollhouselaw05.RingBytes', WHERE WHAT IT READS IS OF BULK AT MOST 1048576: true; the input reads as it did. -/
def ringBytesUptoRow : OpenClaim := { program := "ytpdkmapogncgmaa", sum := "676221938f35be59567a6168d6721d47e1ae3970d6da7bff9f08f4526b68725a", func := "tollhouse/tollhouselaw05.RingBytes", spec := "ringBytes", apart := false, narrowed := true }
def RingBytesUptoSaid : Prop := ringBytesUptoRow.holds Try.pinned (OpenSpec.upto ringBytesSpec)

end Rows
end Go.Proofs.Ytpdkmapogncgmaa
