/-
  No cell of these rows narrows 'for every input' (looked for: loops, veiled, ifaces, maps, wideKeys, modest, calm, conditions, laid).
  DERIVED. THE GIVEN ROWS OF THIS SEAT. 4 by the template 'for every input the law returns true; each argument reads behind the call as it read before'; 0 by the template 'total and deterministic' (their statements: YtihbalobgalpmaaTotals.lean).
  GIVEN WITH THE SEED: the statements are not yours to turn. If you find one false, say at which input.
  Laid BY PROGRAM, IN A SANDBOX (cutbox-rows.mjs): the forced cells as the released guide's own fill.sh prints them over the translation 6439b9658cb1056b… (all of the seat's roots in one cut). By AI agents, Wed Nov 11 2026. No macro, syntax, notation, axiom, sorry.
-/
import Derived.Test.YtihbalobgalpmaaChecked
import GoSem.Claim
import GoSem.ClaimJoined
import GoSem.ClaimMapViews
import Derived.JoinedTies
import Derived.KernelRfl
namespace Go.Proofs.Ytihbalobgalpmaa
/- THE CELL 'sum', in the pinned program and in every row, IS THE sha256 OF THE DUMP (.gsa) THAT YtihbalobgalpmaaProg.lean LOADS. Nothing in Lean hashes anything: it is a label: what it is worth is what the hold of that sum in a sandbox is worth. -/
noncomputable def Try.pinned : Pinned := { name := "ytihbalobgalpmaa", sum := "6439b9658cb1056b9f51d64a0c37c16318593bd03a90e02a6188f9525eec66df", checked := Try.checked }
namespace Rows
def none {H : Type} : Left H := { results := [], args := [] }

/-- 'tollhouselaw01.OctetLays': WHATEVER THE INPUT: true; the input reads as it did. -/
def octetLaysSpec : ChangeSpec := { name := "octetLays", fn := fun _ => fun
  | [d1, d2] => { results := [.lit (.bool true)], args := [d1, d2] }
  | _ => none }
def octetLaysRow : OpenClaim := { program := "ytihbalobgalpmaa", sum := "6439b9658cb1056b9f51d64a0c37c16318593bd03a90e02a6188f9525eec66df", func := "tollhouse/tollhouselaw01.OctetLays", spec := "octetLays", apart := false }
def OctetLaysSaid : Prop := octetLaysRow.holds Try.pinned (OpenSpec.ofChange octetLaysSpec)

/-- ITS FALSE NEIGHBOUR: 'it returns false'. Refute it at one input. -/
def octetLaysWrong : ChangeSpec := { name := "octetLays", fn := fun _ => fun
  | [d1, d2] => { results := [.lit (.bool false)], args := [d1, d2] }
  | _ => none }
def OctetLaysWrongFalsely : Prop := octetLaysRow.holds Try.pinned (OpenSpec.ofChange octetLaysWrong)

/-- 'tollhouselaw01.OctetOnes': WHATEVER THE INPUT: true; the input reads as it did. -/
def octetOnesSpec : ChangeSpec := { name := "octetOnes", fn := fun _ => fun
  | [d1, d2, d3, d4] => { results := [.lit (.bool true)], args := [d1, d2, d3, d4] }
  | _ => none }
def octetOnesRow : OpenClaim := { program := "ytihbalobgalpmaa", sum := "6439b9658cb1056b9f51d64a0c37c16318593bd03a90e02a6188f9525eec66df", func := "tollhouse/tollhouselaw01.OctetOnes", spec := "octetOnes", apart := false }
def OctetOnesSaid : Prop := octetOnesRow.holds Try.pinned (OpenSpec.ofChange octetOnesSpec)

/-- ITS FALSE NEIGHBOUR: 'it returns false'. Refute it at one input. -/
def octetOnesWrong : ChangeSpec := { name := "octetOnes", fn := fun _ => fun
  | [d1, d2, d3, d4] => { results := [.lit (.bool false)], args := [d1, d2, d3, d4] }
  | _ => none }
def OctetOnesWrongFalsely : Prop := octetOnesRow.holds Try.pinned (OpenSpec.ofChange octetOnesWrong)

/-- 'tollhouselaw01.OctetNil': WHATEVER THE INPUT: true; the input reads as it did. -/
def octetNilSpec : ChangeSpec := { name := "octetNil", fn := fun _ => fun
  | [d] => { results := [.lit (.bool true)], args := [d] }
  | _ => none }
def octetNilRow : OpenClaim := { program := "ytihbalobgalpmaa", sum := "6439b9658cb1056b9f51d64a0c37c16318593bd03a90e02a6188f9525eec66df", func := "tollhouse/tollhouselaw01.OctetNil", spec := "octetNil", apart := false }
def OctetNilSaid : Prop := octetNilRow.holds Try.pinned (OpenSpec.ofChange octetNilSpec)

/-- ITS FALSE NEIGHBOUR: 'it returns false'. Refute it at one input. -/
def octetNilWrong : ChangeSpec := { name := "octetNil", fn := fun _ => fun
  | [d] => { results := [.lit (.bool false)], args := [d] }
  | _ => none }
def OctetNilWrongFalsely : Prop := octetNilRow.holds Try.pinned (OpenSpec.ofChange octetNilWrong)

/-- 'tollhouselaw01.OctetBack': WHATEVER THE INPUT: true; the input reads as it did. -/
def octetBackSpec : ChangeSpec := { name := "octetBack", fn := fun _ => fun
  | [d] => { results := [.lit (.bool true)], args := [d] }
  | _ => none }
def octetBackRow : OpenClaim := { program := "ytihbalobgalpmaa", sum := "6439b9658cb1056b9f51d64a0c37c16318593bd03a90e02a6188f9525eec66df", func := "tollhouse/tollhouselaw01.OctetBack", spec := "octetBack", apart := false }
def OctetBackSaid : Prop := octetBackRow.holds Try.pinned (OpenSpec.ofChange octetBackSpec)

/-- ITS FALSE NEIGHBOUR: 'it returns false'. Refute it at one input. -/
def octetBackWrong : ChangeSpec := { name := "octetBack", fn := fun _ => fun
  | [d] => { results := [.lit (.bool false)], args := [d] }
  | _ => none }
def OctetBackWrongFalsely : Prop := octetBackRow.holds Try.pinned (OpenSpec.ofChange octetBackWrong)

/- THE SECOND FORM. 'bulk': how many values and letters a reading holds, each counted each time it is reached (what is shared counts as often as it is met; a slice's spare places count too). A statement '..UptoSaid' is the law's where the arguments, and the package variables that the reading takes, are together of bulk at most 1048576: NARROWER than '..Said'. Prove '..Said' where nothing that the law and all that it calls make is longer than what came in: it says more and counts as full. Else prove '..UptoSaid'. A law counts once. -/
mutual
def uptoBulk {H : Type} : DataW H → Nat
  | .lit (.string bytes) => bytes.length + 1
  | .lit _ => 1
  | .nil => 1
  | .ptr d => uptoBulk d + 1
  | .slice elems spare => uptoBulkAll elems + uptoBulkAll spare + 1
  | .agg parts => uptoBulkAll parts + 1
  | .iface _ d => uptoBulk d + 1
  | .map entries => uptoBulkEntries entries + 1
  | .held _ => 1
def uptoBulkAll {H : Type} : List (DataW H) → Nat
  | [] => 0
  | d :: r => uptoBulk d + uptoBulkAll r
def uptoBulkEntries {H : Type} : List (Lit × DataW H) → Nat
  | [] => 0
  | x :: r => uptoBulkEntry x + uptoBulkEntries r
def uptoBulkEntry {H : Type} : Lit × DataW H → Nat
  | (.string bytes, d) => bytes.length + uptoBulk d + 1
  | (_, d) => uptoBulk d + 1
 end
def uptoSmall : (H : Type) → List (DataW H) → Bool := fun _ ds => decide (uptoBulkAll ds ≤ 1048576)
def OpenSpec.upto (s : _root_.Go.ChangeSpec) : _root_.Go.OpenSpec := { _root_.Go.OpenSpec.ofChange s with cond := some uptoSmall }

/-- 'tollhouselaw01.OctetLays', WHERE WHAT IT READS IS OF BULK AT MOST 1048576: true; the input reads as it did. -/
def octetLaysUptoRow : OpenClaim := { program := "ytihbalobgalpmaa", sum := "6439b9658cb1056b9f51d64a0c37c16318593bd03a90e02a6188f9525eec66df", func := "tollhouse/tollhouselaw01.OctetLays", spec := "octetLays", apart := false, narrowed := true }
def OctetLaysUptoSaid : Prop := octetLaysUptoRow.holds Try.pinned (OpenSpec.upto octetLaysSpec)

/-- 'tollhouselaw01.OctetOnes', WHERE WHAT IT READS IS OF BULK AT MOST 1048576: true; the input reads as it did. -/
def octetOnesUptoRow : OpenClaim := { program := "ytihbalobgalpmaa", sum := "6439b9658cb1056b9f51d64a0c37c16318593bd03a90e02a6188f9525eec66df", func := "tollhouse/tollhouselaw01.OctetOnes", spec := "octetOnes", apart := false, narrowed := true }
def OctetOnesUptoSaid : Prop := octetOnesUptoRow.holds Try.pinned (OpenSpec.upto octetOnesSpec)

/-- 'tollhouselaw01.OctetNil', WHERE WHAT IT READS IS OF BULK AT MOST 1048576: true; the input reads as it did. -/
def octetNilUptoRow : OpenClaim := { program := "ytihbalobgalpmaa", sum := "6439b9658cb1056b9f51d64a0c37c16318593bd03a90e02a6188f9525eec66df", func := "tollhouse/tollhouselaw01.OctetNil", spec := "octetNil", apart := false, narrowed := true }
def OctetNilUptoSaid : Prop := octetNilUptoRow.holds Try.pinned (OpenSpec.upto octetNilSpec)

/-- 'tollhouselaw01.OctetBack', WHERE WHAT IT READS IS OF BULK AT MOST 1048576: true; the input reads as it did. -/
def octetBackUptoRow : OpenClaim := { program := "ytihbalobgalpmaa", sum := "6439b9658cb1056b9f51d64a0c37c16318593bd03a90e02a6188f9525eec66df", func := "tollhouse/tollhouselaw01.OctetBack", spec := "octetBack", apart := false, narrowed := true }
def OctetBackUptoSaid : Prop := octetBackUptoRow.holds Try.pinned (OpenSpec.upto octetBackSpec)

end Rows
end Go.Proofs.Ytihbalobgalpmaa
