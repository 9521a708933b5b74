/-
  NARROWER THAN 'FOR EVERY INPUT', by the rows' own cells (each row's printed sentence says how): RequestWrites: laid · RequestBack: laid.
  DERIVED. THE GIVEN ROWS OF THIS SEAT. 2 by the template 'for every input the law returns true; each argument reads behind the call as it read before'; 0 by the template 'total and deterministic' (their statements: YtchnjcghbbacoaaDoorTotals.lean).
  GIVEN WITH THE SEED: the statements are not yours to turn. If you find one false, say at which input.
  Laid BY PROGRAM, IN A SANDBOX (cutbox-rows.mjs): the forced cells as the released guide's own fill.sh prints them over the translation 556712257648ee2a… (all of the seat's roots in one cut). By AI agents, Wed Nov 11 2026. No macro, syntax, notation, axiom, sorry.
-/
import Derived.Test.YtchnjcghbbacoaaDoorChecked
import GoSem.Claim
import GoSem.ClaimJoined
import GoSem.ClaimMapViews
import Derived.JoinedTies
import Derived.KernelRfl
namespace Go.Proofs.YtchnjcghbbacoaaDoor
/- THE CELL 'sum', in the pinned program and in every row, IS THE sha256 OF THE DUMP (.gsa) THAT YtchnjcghbbacoaaDoorProg.lean LOADS. Nothing in Lean hashes anything: it is a label: what it is worth is what the hold of that sum in a sandbox is worth. -/
noncomputable def Tryd.pinned : Pinned := { name := "ytchnjcghbbacoaadoor", sum := "556712257648ee2a8ac944d249560b16ad80127bc1e5479310de10ce7bc42409", checked := Tryd.checked }
namespace Rows
def none {H : Type} : Left H := { results := [], args := [] }

/- WHAT THE LISTED PACKAGE-LEVEL VARIABLES READ AS WHEN THE CALL BEGINS. Each datum BY PROGRAM (the guide's laid-datum.mjs) off the statement by which the dump's own 'gosem.cut.vars' lays the variable. In a bare row this is a premise. The card (YtchnjcghbbacoaaDoorCards.lean) ties it to the program's text. -/
def laid_tollhouse_request_turns {H : Type} : DataW H := .agg [.lit (.int .u32 996825010), .lit (.int .u32 642813549), .lit (.int .u32 513874426), .lit (.int .u32 1027748829), .lit (.int .u32 705979059)]

/-- 'tollhouselaw25.RequestWrites': WHATEVER THE INPUT: true; the input reads as it did. -/
def requestWritesSpec : ChangeSpec := { name := "requestWrites", fn := fun _ => fun
  | [d] => { results := [.lit (.bool true)], args := [d] }
  | _ => none }
def requestWritesRow : OpenClaim := { program := "ytchnjcghbbacoaadoor", sum := "556712257648ee2a8ac944d249560b16ad80127bc1e5479310de10ce7bc42409", func := "tollhouse/tollhouselaw25.RequestWrites", spec := "requestWrites", inPlace := ["internal/bytealg.IndexByteString", "internal/abi.NoEscape"], named := ["tollhouse/request.turns"], apart := false, laid := [("tollhouse/request.turns", laid_tollhouse_request_turns)] }
def RequestWritesSaid : Prop := requestWritesRow.holds Tryd.pinned (OpenSpec.ofChange requestWritesSpec)

/-- ITS FALSE NEIGHBOUR: 'it returns false'. Refute it at one input. -/
def requestWritesWrong : ChangeSpec := { name := "requestWrites", fn := fun _ => fun
  | [d] => { results := [.lit (.bool false)], args := [d] }
  | _ => none }
def RequestWritesWrongFalsely : Prop := requestWritesRow.holds Tryd.pinned (OpenSpec.ofChange requestWritesWrong)

/-- 'tollhouselaw25.RequestBack': WHATEVER THE INPUT: true; the input reads as it did. -/
def requestBackSpec : ChangeSpec := { name := "requestBack", fn := fun _ => fun
  | [d1, d2, d3, d4] => { results := [.lit (.bool true)], args := [d1, d2, d3, d4] }
  | _ => none }
def requestBackRow : OpenClaim := { program := "ytchnjcghbbacoaadoor", sum := "556712257648ee2a8ac944d249560b16ad80127bc1e5479310de10ce7bc42409", func := "tollhouse/tollhouselaw25.RequestBack", spec := "requestBack", inPlace := ["internal/bytealg.IndexByteString", "internal/abi.NoEscape"], named := ["tollhouse/request.turns"], apart := false, laid := [("tollhouse/request.turns", laid_tollhouse_request_turns)] }
def RequestBackSaid : Prop := requestBackRow.holds Tryd.pinned (OpenSpec.ofChange requestBackSpec)

/-- ITS FALSE NEIGHBOUR: 'it returns false'. Refute it at one input. -/
def requestBackWrong : ChangeSpec := { name := "requestBack", fn := fun _ => fun
  | [d1, d2, d3, d4] => { results := [.lit (.bool false)], args := [d1, d2, d3, d4] }
  | _ => none }
def RequestBackWrongFalsely : Prop := requestBackRow.holds Tryd.pinned (OpenSpec.ofChange requestBackWrong)

/- THE SECOND FORM. 'bulk': how many values and letters a reading holds, each counted each time it is reached (what is shared counts as often as it is met; a slice's spare places count too). A statement '..UptoSaid' is the law's where the arguments, and the package variables that the reading takes, are together of bulk at most 1048576: NARROWER than '..Said'. Prove '..Said' where nothing that the law and all that it calls make is longer than what came in: it says more and counts as full. Else prove '..UptoSaid'. A law counts once. -/
mutual
def uptoBulk {H : Type} : DataW H → Nat
  | .lit (.string bytes) => bytes.length + 1
  | .lit _ => 1
  | .nil => 1
  | .ptr d => uptoBulk d + 1
  | .slice elems spare => uptoBulkAll elems + uptoBulkAll spare + 1
  | .agg parts => uptoBulkAll parts + 1
  | .iface _ d => uptoBulk d + 1
  | .map entries => uptoBulkEntries entries + 1
  | .held _ => 1
def uptoBulkAll {H : Type} : List (DataW H) → Nat
  | [] => 0
  | d :: r => uptoBulk d + uptoBulkAll r
def uptoBulkEntries {H : Type} : List (Lit × DataW H) → Nat
  | [] => 0
  | x :: r => uptoBulkEntry x + uptoBulkEntries r
def uptoBulkEntry {H : Type} : Lit × DataW H → Nat
  | (.string bytes, d) => bytes.length + uptoBulk d + 1
  | (_, d) => uptoBulk d + 1
 end
def uptoSmall : (H : Type) → List (DataW H) → Bool := fun _ ds => decide (uptoBulkAll ds ≤ 1048576)
def OpenSpec.upto (s : _root_.Go.ChangeSpec) : _root_.Go.OpenSpec := { _root_.Go.OpenSpec.ofChange s with cond := some uptoSmall }

/-- 'tollhouselaw25.RequestWrites', WHERE WHAT IT READS IS OF BULK AT MOST 1048576: true; the input reads as it did. -/
def requestWritesUptoRow : OpenClaim := { program := "ytchnjcghbbacoaadoor", sum := "556712257648ee2a8ac944d249560b16ad80127bc1e5479310de10ce7bc42409", func := "tollhouse/tollhouselaw25.RequestWrites", spec := "requestWrites", inPlace := ["internal/bytealg.IndexByteString", "internal/abi.NoEscape"], named := ["tollhouse/request.turns"], apart := false, laid := [("tollhouse/request.turns", laid_tollhouse_request_turns)], narrowed := true }
def RequestWritesUptoSaid : Prop := requestWritesUptoRow.holds Tryd.pinned (OpenSpec.upto requestWritesSpec)

/-- 'tollhouselaw25.RequestBack', WHERE WHAT IT READS IS OF BULK AT MOST 1048576: true; the input reads as it did. -/
def requestBackUptoRow : OpenClaim := { program := "ytchnjcghbbacoaadoor", sum := "556712257648ee2a8ac944d249560b16ad80127bc1e5479310de10ce7bc42409", func := "tollhouse/tollhouselaw25.RequestBack", spec := "requestBack", inPlace := ["internal/bytealg.IndexByteString", "internal/abi.NoEscape"], named := ["tollhouse/request.turns"], apart := false, laid := [("tollhouse/request.turns", laid_tollhouse_request_turns)], narrowed := true }
def RequestBackUptoSaid : Prop := requestBackUptoRow.holds Tryd.pinned (OpenSpec.upto requestBackSpec)

end Rows
end Go.Proofs.YtchnjcghbbacoaaDoor
