/-
  No cell of these rows narrows 'for every input' (looked for: loops, veiled, ifaces, maps, wideKeys, modest, calm, conditions, laid).
  DERIVED. THE GIVEN ROWS OF THIS SEAT. 5 by the template 'for every input the law returns true; each argument reads behind the call as it read before'; 0 by the template 'total and deterministic' (their statements: YtfoomnibfibfnaaTotals.lean).
  GIVEN WITH THE SEED: the statements are not yours to turn. If you find one false, say at which input.
  Laid BY PROGRAM, IN A SANDBOX (cutbox-rows.mjs): the forced cells as the released guide's own fill.sh prints them over the translation 7c5f174bdfaac024… (all of the seat's roots in one cut). By AI agents, Wed Nov 11 2026. No macro, syntax, notation, axiom, sorry.
-/
import Derived.Test.YtfoomnibfibfnaaChecked
import GoSem.Claim
import GoSem.ClaimJoined
import GoSem.ClaimMapViews
import Derived.JoinedTies
import Derived.KernelRfl
namespace Go.Proofs.Ytfoomnibfibfnaa
/- THE CELL 'sum', in the pinned program and in every row, IS THE sha256 OF THE DUMP (.gsa) THAT YtfoomnibfibfnaaProg.lean LOADS. Nothing in Lean hashes anything: it is a label: what it is worth is what the hold of that sum in a sandbox is worth. -/
noncomputable def Try.pinned : Pinned := { name := "ytfoomnibfibfnaa", sum := "7c5f174bdfaac02482aed8873845c97d38aa7bff7f8da19c10dfa27972b2b2e7", checked := Try.checked }
namespace Rows
def none {H : Type} : Left H := { results := [], args := [] }

/-- 'tollhouselaw04.LampSigns': WHATEVER THE INPUT: true; the input reads as it did. -/
def lampSignsSpec : ChangeSpec := { name := "lampSigns", fn := fun _ => fun
  | [d1, d2, d3] => { results := [.lit (.bool true)], args := [d1, d2, d3] }
  | _ => none }
def lampSignsRow : OpenClaim := { program := "ytfoomnibfibfnaa", sum := "7c5f174bdfaac02482aed8873845c97d38aa7bff7f8da19c10dfa27972b2b2e7", func := "tollhouse/tollhouselaw04.LampSigns", spec := "lampSigns", plainKeys := false, apart := false }
def LampSignsSaid : Prop := lampSignsRow.holds Try.pinned (OpenSpec.ofChange lampSignsSpec)

/-- ITS FALSE NEIGHBOUR: 'it returns false'. Refute it at one input. -/
def lampSignsWrong : ChangeSpec := { name := "lampSigns", fn := fun _ => fun
  | [d1, d2, d3] => { results := [.lit (.bool false)], args := [d1, d2, d3] }
  | _ => none }
def LampSignsWrongFalsely : Prop := lampSignsRow.holds Try.pinned (OpenSpec.ofChange lampSignsWrong)

/-- 'tollhouselaw04.LampFroms': WHATEVER THE INPUT: true; the input reads as it did. -/
def lampFromsSpec : ChangeSpec := { name := "lampFroms", fn := fun _ => fun
  | [d1, d2] => { results := [.lit (.bool true)], args := [d1, d2] }
  | _ => none }
def lampFromsRow : OpenClaim := { program := "ytfoomnibfibfnaa", sum := "7c5f174bdfaac02482aed8873845c97d38aa7bff7f8da19c10dfa27972b2b2e7", func := "tollhouse/tollhouselaw04.LampFroms", spec := "lampFroms", plainKeys := false, apart := false }
def LampFromsSaid : Prop := lampFromsRow.holds Try.pinned (OpenSpec.ofChange lampFromsSpec)

/-- ITS FALSE NEIGHBOUR: 'it returns false'. Refute it at one input. -/
def lampFromsWrong : ChangeSpec := { name := "lampFroms", fn := fun _ => fun
  | [d1, d2] => { results := [.lit (.bool false)], args := [d1, d2] }
  | _ => none }
def LampFromsWrongFalsely : Prop := lampFromsRow.holds Try.pinned (OpenSpec.ofChange lampFromsWrong)

/-- 'tollhouselaw04.LampSound': WHATEVER THE INPUT: true; the input reads as it did. -/
def lampSoundSpec : ChangeSpec := { name := "lampSound", fn := fun _ => fun
  | [d1, d2, d3, d4, d5, d6] => { results := [.lit (.bool true)], args := [d1, d2, d3, d4, d5, d6] }
  | _ => none }
def lampSoundRow : OpenClaim := { program := "ytfoomnibfibfnaa", sum := "7c5f174bdfaac02482aed8873845c97d38aa7bff7f8da19c10dfa27972b2b2e7", func := "tollhouse/tollhouselaw04.LampSound", spec := "lampSound", plainKeys := false, apart := false }
def LampSoundSaid : Prop := lampSoundRow.holds Try.pinned (OpenSpec.ofChange lampSoundSpec)

/-- ITS FALSE NEIGHBOUR: 'it returns false'. Refute it at one input. -/
def lampSoundWrong : ChangeSpec := { name := "lampSound", fn := fun _ => fun
  | [d1, d2, d3, d4, d5, d6] => { results := [.lit (.bool false)], args := [d1, d2, d3, d4, d5, d6] }
  | _ => none }
def LampSoundWrongFalsely : Prop := lampSoundRow.holds Try.pinned (OpenSpec.ofChange lampSoundWrong)

/-- 'tollhouselaw04.LampLong': WHATEVER THE INPUT: true; the input reads as it did. -/
def lampLongSpec : ChangeSpec := { name := "lampLong", fn := fun _ => fun
  | [d1, d2] => { results := [.lit (.bool true)], args := [d1, d2] }
  | _ => none }
def lampLongRow : OpenClaim := { program := "ytfoomnibfibfnaa", sum := "7c5f174bdfaac02482aed8873845c97d38aa7bff7f8da19c10dfa27972b2b2e7", func := "tollhouse/tollhouselaw04.LampLong", spec := "lampLong", plainKeys := false, apart := false }
def LampLongSaid : Prop := lampLongRow.holds Try.pinned (OpenSpec.ofChange lampLongSpec)

/-- ITS FALSE NEIGHBOUR: 'it returns false'. Refute it at one input. -/
def lampLongWrong : ChangeSpec := { name := "lampLong", fn := fun _ => fun
  | [d1, d2] => { results := [.lit (.bool false)], args := [d1, d2] }
  | _ => none }
def LampLongWrongFalsely : Prop := lampLongRow.holds Try.pinned (OpenSpec.ofChange lampLongWrong)

/-- 'tollhouselaw04.LampBytes': WHATEVER THE INPUT: true; the input reads as it did. -/
def lampBytesSpec : ChangeSpec := { name := "lampBytes", fn := fun _ => fun
  | [d1, d2] => { results := [.lit (.bool true)], args := [d1, d2] }
  | _ => none }
def lampBytesRow : OpenClaim := { program := "ytfoomnibfibfnaa", sum := "7c5f174bdfaac02482aed8873845c97d38aa7bff7f8da19c10dfa27972b2b2e7", func := "tollhouse/tollhouselaw04.LampBytes", spec := "lampBytes", plainKeys := false, apart := false }
def LampBytesSaid : Prop := lampBytesRow.holds Try.pinned (OpenSpec.ofChange lampBytesSpec)

/-- ITS FALSE NEIGHBOUR: 'it returns false'. Refute it at one input. -/
def lampBytesWrong : ChangeSpec := { name := "lampBytes", fn := fun _ => fun
  | [d1, d2] => { results := [.lit (.bool false)], args := [d1, d2] }
  | _ => none }
def LampBytesWrongFalsely : Prop := lampBytesRow.holds Try.pinned (OpenSpec.ofChange lampBytesWrong)

/- THE SECOND FORM. 'bulk': how many values and letters a reading holds, each counted each time it is reached (what is shared counts as often as it is met; a slice's spare places count too). A statement '..UptoSaid' is the law's where the arguments, and the package variables that the reading takes, are together of bulk at most 1048576: NARROWER than '..Said'. Prove '..Said' where nothing that the law and all that it calls make is longer than what came in: it says more and counts as full. Else prove '..UptoSaid'. A law counts once. -/
mutual
def uptoBulk {H : Type} : DataW H → Nat
  | .lit (.string bytes) => bytes.length + 1
  | .lit _ => 1
  | .nil => 1
  | .ptr d => uptoBulk d + 1
  | .slice elems spare => uptoBulkAll elems + uptoBulkAll spare + 1
  | .agg parts => uptoBulkAll parts + 1
  | .iface _ d => uptoBulk d + 1
  | .map entries => uptoBulkEntries entries + 1
  | .held _ => 1
def uptoBulkAll {H : Type} : List (DataW H) → Nat
  | [] => 0
  | d :: r => uptoBulk d + uptoBulkAll r
def uptoBulkEntries {H : Type} : List (Lit × DataW H) → Nat
  | [] => 0
  | x :: r => uptoBulkEntry x + uptoBulkEntries r
def uptoBulkEntry {H : Type} : Lit × DataW H → Nat
  | (.string bytes, d) => bytes.length + uptoBulk d + 1
  | (_, d) => uptoBulk d + 1
 end
def uptoSmall : (H : Type) → List (DataW H) → Bool := fun _ ds => decide (uptoBulkAll ds ≤ 1048576)
def OpenSpec.upto (s : _root_.Go.ChangeSpec) : _root_.Go.OpenSpec := { _root_.Go.OpenSpec.ofChange s with cond := some uptoSmall }

/-- 'tollhouselaw04.LampSigns', WHERE WHAT IT READS IS OF BULK AT MOST 1048576: true; the input reads as it did. -/
def lampSignsUptoRow : OpenClaim := { program := "ytfoomnibfibfnaa", sum := "7c5f174bdfaac02482aed8873845c97d38aa7bff7f8da19c10dfa27972b2b2e7", func := "tollhouse/tollhouselaw04.LampSigns", spec := "lampSigns", plainKeys := false, apart := false, narrowed := true }
def LampSignsUptoSaid : Prop := lampSignsUptoRow.holds Try.pinned (OpenSpec.upto lampSignsSpec)

/-- 'tollhouselaw04.LampFroms', WHERE WHAT IT READS IS OF BULK AT MOST 1048576: true; the input reads as it did. -/
def lampFromsUptoRow : OpenClaim := { program := "ytfoomnibfibfnaa", sum := "7c5f174bdfaac02482aed8873845c97d38aa7bff7f8da19c10dfa27972b2b2e7", func := "tollhouse/tollhouselaw04.LampFroms", spec := "lampFroms", plainKeys := false, apart := false, narrowed := true }
def LampFromsUptoSaid : Prop := lampFromsUptoRow.holds Try.pinned (OpenSpec.upto lampFromsSpec)

/-- 'tollhouselaw04.LampSound', WHERE WHAT IT READS IS OF BULK AT MOST 1048576: true; the input reads as it did. -/
def lampSoundUptoRow : OpenClaim := { program := "ytfoomnibfibfnaa", sum := "7c5f174bdfaac02482aed8873845c97d38aa7bff7f8da19c10dfa27972b2b2e7", func := "tollhouse/tollhouselaw04.LampSound", spec := "lampSound", plainKeys := false, apart := false, narrowed := true }
def LampSoundUptoSaid : Prop := lampSoundUptoRow.holds Try.pinned (OpenSpec.upto lampSoundSpec)

/-- 'tollhouselaw04.LampLong', WHERE WHAT IT READS IS OF BULK AT MOST 1048576: true; the input reads as it did. -/
def lampLongUptoRow : OpenClaim := { program := "ytfoomnibfibfnaa", sum := "7c5f174bdfaac02482aed8873845c97d38aa7bff7f8da19c10dfa27972b2b2e7", func := "tollhouse/tollhouselaw04.LampLong", spec := "lampLong", plainKeys := false, apart := false, narrowed := true }
def LampLongUptoSaid : Prop := lampLongUptoRow.holds Try.pinned (OpenSpec.upto lampLongSpec)

/-- 'tollhouselaw04.LampBytes', WHERE WHAT IT READS IS OF BULK AT MOST 1048576: true; the input reads as it did. -/
def lampBytesUptoRow : OpenClaim := { program := "ytfoomnibfibfnaa", sum := "7c5f174bdfaac02482aed8873845c97d38aa7bff7f8da19c10dfa27972b2b2e7", func := "tollhouse/tollhouselaw04.LampBytes", spec := "lampBytes", plainKeys := false, apart := false, narrowed := true }
def LampBytesUptoSaid : Prop := lampBytesUptoRow.holds Try.pinned (OpenSpec.upto lampBytesSpec)

end Rows
end Go.Proofs.Ytfoomnibfibfnaa
