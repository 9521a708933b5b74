/-
  DERIVED. GIVEN WITH THE SEED: THE CARDS: each row of YtchnjcghbbacoaaDoorRows.lean that lists a variable, with what it lists TIED to the program's text (the seventh form; the later family's looks); each row that meets fmt, with fmt's text TOLD by the authors' own Lean function (tested against real Go, not proved from fmt's source: count such statements apart). THE CARD IS WHAT COUNTS. Prove the row's statement (the work); the ties are given (YtchnjcghbbacoaaDoorTie.lean); close each card by the builder's one call (the guide's Derived/Test/ToyasCard.lean, 'card_holds'). Laid BY PROGRAM, IN A SANDBOX (cutbox-door.mjs). By AI agents, Wed Nov 11 2026. No macro, syntax, notation, axiom, sorry.
-/
import Derived.Test.YtchnjcghbbacoaaDoorRows
import GoSem.ClaimSeven
namespace Go.Proofs.YtchnjcghbbacoaaDoor
namespace Rows

/-- THE TIED CARD OF 'tollhouselaw25.RequestWrites'. -/
def requestWritesCard : Claim7 := { stood := { row := requestWritesRow, standIns := [], harness := (true, "70b04f80b8c7f2f5a72ec3c73dc2ed54f03720ed8d377e0f989647ddf58087b6"), looks := false }, kinds := [], alts := [], laidByText := true, laidKinds := [.data], laidTests := true, laidLooks := .later }
def RequestWritesCardSaid : Prop := Claim7.holds Tryd.pinned (.plain (OpenSpec.ofChange requestWritesSpec)) requestWritesCard

/-- THE TIED CARD OF 'tollhouselaw25.RequestBack'. -/
def requestBackCard : Claim7 := { stood := { row := requestBackRow, standIns := [], harness := (true, "70b04f80b8c7f2f5a72ec3c73dc2ed54f03720ed8d377e0f989647ddf58087b6"), looks := false }, kinds := [], alts := [], laidByText := true, laidKinds := [.data], laidTests := true, laidLooks := .later }
def RequestBackCardSaid : Prop := Claim7.holds Tryd.pinned (.plain (OpenSpec.ofChange requestBackSpec)) requestBackCard

/-- THE SECOND FORM's CARD OF 'tollhouselaw25.RequestWrites'. -/
def requestWritesUptoCard : Claim7 := { stood := { row := requestWritesUptoRow, standIns := [], harness := (true, "70b04f80b8c7f2f5a72ec3c73dc2ed54f03720ed8d377e0f989647ddf58087b6"), looks := false }, kinds := [], alts := [], laidByText := true, laidKinds := [.data], laidTests := true, laidLooks := .later }
def RequestWritesUptoCardSaid : Prop := Claim7.holds Tryd.pinned (.plain (OpenSpec.upto requestWritesSpec)) requestWritesUptoCard

/-- THE SECOND FORM's CARD OF 'tollhouselaw25.RequestBack'. -/
def requestBackUptoCard : Claim7 := { stood := { row := requestBackUptoRow, standIns := [], harness := (true, "70b04f80b8c7f2f5a72ec3c73dc2ed54f03720ed8d377e0f989647ddf58087b6"), looks := false }, kinds := [], alts := [], laidByText := true, laidKinds := [.data], laidTests := true, laidLooks := .later }
def RequestBackUptoCardSaid : Prop := Claim7.holds Tryd.pinned (.plain (OpenSpec.upto requestBackSpec)) requestBackUptoCard
end Rows
end Go.Proofs.YtchnjcghbbacoaaDoor
