/- The reference's tables. No condition. -/
import Derived.Test.YtfoomnibfibfnaaRof
set_option linter.unusedVariables false
set_option linter.unusedSimpArgs false
set_option linter.unnecessarySimpa false
namespace Go.Proofs.Ytfoomnibfibfnaa
open Go.RowKit

/-- The standard's first words, and what each round adds, in base sixteen. -/
def tabFirst : ByteArray := { data := #[54, 97, 48, 57, 101, 54, 54, 55, 98, 98, 54, 55, 97, 101, 56, 53, 51, 99, 54, 101, 102, 51, 55, 50, 97, 53, 52, 102, 102, 53, 51, 97, 53, 49, 48, 101, 53, 50, 55, 102, 57, 98, 48, 53, 54, 56, 56, 99, 49, 102, 56, 51, 100, 57, 97, 98, 53, 98, 101, 48, 99, 100, 49, 57] }
def tabRounds : ByteArray := { data := ((([52, 50, 56, 97, 50, 102, 57, 56, 55, 49, 51, 55, 52, 52, 57, 49, 98, 53, 99, 48, 102, 98, 99, 102, 101, 57, 98, 53, 100, 98, 97, 53, 51, 57, 53, 54, 99, 50, 53, 98, 53, 57, 102, 49, 49, 49, 102, 49, 57, 50, 51, 102, 56, 50, 97, 52, 97, 98, 49, 99, 53, 101, 100, 53].append [100, 56, 48, 55, 97, 97, 57, 56, 49, 50, 56, 51, 53, 98, 48, 49, 50, 52, 51, 49, 56, 53, 98, 101, 53, 53, 48, 99, 55, 100, 99, 51, 55, 50, 98, 101, 53, 100, 55, 52, 56, 48, 100, 101, 98, 49, 102, 101, 57, 98, 100, 99, 48, 54, 97, 55, 99, 49, 57, 98, 102, 49, 55, 52]).append ([101, 52, 57, 98, 54, 57, 99, 49, 101, 102, 98, 101, 52, 55, 56, 54, 48, 102, 99, 49, 57, 100, 99, 54, 50, 52, 48, 99, 97, 49, 99, 99, 50, 100, 101, 57, 50, 99, 54, 102, 52, 97, 55, 52, 56, 52, 97, 97, 53, 99, 98, 48, 97, 57, 100, 99, 55, 54, 102, 57, 56, 56, 100, 97].append [57, 56, 51, 101, 53, 49, 53, 50, 97, 56, 51, 49, 99, 54, 54, 100, 98, 48, 48, 51, 50, 55, 99, 56, 98, 102, 53, 57, 55, 102, 99, 55, 99, 54, 101, 48, 48, 98, 102, 51, 100, 53, 97, 55, 57, 49, 52, 55, 48, 54, 99, 97, 54, 51, 53, 49, 49, 52, 50, 57, 50, 57, 54, 55])).append (([50, 55, 98, 55, 48, 97, 56, 53, 50, 101, 49, 98, 50, 49, 51, 56, 52, 100, 50, 99, 54, 100, 102, 99, 53, 51, 51, 56, 48, 100, 49, 51, 54, 53, 48, 97, 55, 51, 53, 52, 55, 54, 54, 97, 48, 97, 98, 98, 56, 49, 99, 50, 99, 57, 50, 101, 57, 50, 55, 50, 50, 99, 56, 53].append [97, 50, 98, 102, 101, 56, 97, 49, 97, 56, 49, 97, 54, 54, 52, 98, 99, 50, 52, 98, 56, 98, 55, 48, 99, 55, 54, 99, 53, 49, 97, 51, 100, 49, 57, 50, 101, 56, 49, 57, 100, 54, 57, 57, 48, 54, 50, 52, 102, 52, 48, 101, 51, 53, 56, 53, 49, 48, 54, 97, 97, 48, 55, 48]).append ([49, 57, 97, 52, 99, 49, 49, 54, 49, 101, 51, 55, 54, 99, 48, 56, 50, 55, 52, 56, 55, 55, 52, 99, 51, 52, 98, 48, 98, 99, 98, 53, 51, 57, 49, 99, 48, 99, 98, 51, 52, 101, 100, 56, 97, 97, 52, 97, 53, 98, 57, 99, 99, 97, 52, 102, 54, 56, 50, 101, 54, 102, 102, 51].append [55, 52, 56, 102, 56, 50, 101, 101, 55, 56, 97, 53, 54, 51, 54, 102, 56, 52, 99, 56, 55, 56, 49, 52, 56, 99, 99, 55, 48, 50, 48, 56, 57, 48, 98, 101, 102, 102, 102, 97, 97, 52, 53, 48, 54, 99, 101, 98, 98, 101, 102, 57, 97, 51, 102, 55, 99, 54, 55, 49, 55, 56, 102, 50]))).toArray }
theorem tab_first : HexTab tabFirst firstK := ⟨by decide +kernel, by decide +kernel, by decide +kernel⟩
theorem tab_rounds : HexTab tabRounds stirK := ⟨by decide +kernel, by decide +kernel, by decide +kernel⟩
theorem tables_zero : (Try.prog.info? 25).bind (fun i => i.zero.map (·.cells)) = some [Value.string ⟨#[]⟩, Value.string ⟨#[]⟩].toArray := by kernel_rfl

set_option maxRecDepth 100000 in
set_option maxHeartbeats 1000000 in
theorem Ref_Make (w : World) : Calls Try.prog 8 #[] w fun e w' => e = .returned (.agg #[.string tabFirst, .string tabRounds]) ∧ Ext w w' := by
  go_enter Try.func8, Try.ntmps8
  go_wp2_with (first
    | (refine wpList_alloc _ rfl 25 rfl _ tables_zero ?_)
    | (refine wpList_build (.inl rfl) 25 _ rfl (.agg [Value.string tabFirst, Value.string tabRounds].toArray) (by kernel_rfl) ?_)
    | (refine wpList_store_new _ rfl 25 (.tmp 0) (.tmp 1) rfl rfl [Value.string ⟨#[]⟩, Value.string ⟨#[]⟩] [Value.string tabFirst, Value.string tabRounds] _ rfl (by kernel_rfl) rfl (by intro u hu; simp at hu; rcases hu with rfl | rfl <;> rfl) ?_)
    | fail)
  have hc : Cells (w.alloc (.cells [Value.string tabFirst, Value.string tabRounds].toArray 25)) ⟨w.heap.size, 0, none⟩ [Value.string tabFirst, Value.string tabRounds] := by have := Cells.of_block (heap_alloc_new w (.cells [Value.string tabFirst, Value.string tabRounds].toArray 25)); simpa using this
  (try simp only [Exit.inBlock, Exit.then])
  refine bodyPost_ret (results_agg rfl _ _ _ _ _ rfl Try.underlying25 rfl (by kernel_rfl) hc) rfl ?_
  exact ⟨rfl, (Ext.refl w).alloc _⟩
end Go.Proofs.Ytfoomnibfibfnaa
