/- A slice of one struct or array, made inside a drawn region. No condition but what each names. -/
import Derived.Test.YtemladlnpaaefaaLaws
set_option linter.unusedVariables false
set_option linter.unusedSimpArgs false
set_option linter.unnecessarySimpa false
namespace Go.Proofs.Ytemladlnpaaefaa
open Go.RowKit

section
variable {P : Program} (w : World)
/-- '[]T{x}' where x is a struct or an array. -/
theorem wp_one {o : Oper} {a : Act} {K : Act → World → Prop} {Q : Exit → Act → World → Prop} (t : TypeId) (x : Operand) (ho : o.op = .buildSlice t 1 #[(0, x)])
    (e : TypeId) (cs : List Value) (ht : P.underlying t = some (.slice e)) (hx : a.eval x = .agg cs.toArray) (hi : (P.info? e).map (·.size) = some cs.length) (hz : ((P.info? e).bind (·.zero)).isSome = true) (hl : cs.length ≤ 16777216) (hn : 0 < cs.length)
    (h : K (a.put o.dst (.slice (some ⟨w.heap.size, 0, none⟩) 1 1)) (w.alloc (.cells cs.toArray e))) : o.wp P a w K Q := by
    obtain ⟨i, hi', hs⟩ := Option.map_eq_some_iff.1 hi
    rw [hi', Option.bind_some] at hz
    obtain ⟨z, hz⟩ := Option.isSome_iff_exists.1 hz
    have hfill : ∀ (c : Array Value), c.size = cs.length → Instr.fill (fun i => some (i * cs.length, cs.length)) c [(0, .agg cs.toArray)] = some cs.toArray := by
      intro c hc
      rw [fill_list _ c 0 (.agg cs.toArray) cs 0 [] rfl (by simp) (by omega)]
      simp only [Instr.fill, List.take_zero, List.nil_append, Nat.zero_add]
      rw [List.drop_eq_nil_of_le (by rw [Array.length_toList]; omega), List.append_nil]
    unfold Oper.wp execOp
    have hrun : (Instr.buildSlice t 1 #[(0, .agg cs.toArray)]).run P w = .ok (.slice (some ⟨w.heap.size, 0, none⟩) 1 1) (w.alloc (.cells cs.toArray e)) := by
      unfold Instr.buildSlice
      simp only [Sem.run_bind, run_underlying ht, Result.andThen_ok, sizeOf, typeInfo, run_program, hi', Sem.run_pure, hs, Nat.one_mul]
      rw [if_neg (by omega)]
      have h0 : ¬ cs.length = 0 := by omega
      simp only [h0, if_false, Sem.run_bind, Sem.run_pure, Result.andThen_ok, zeroValue, typeInfo, run_program, hi', hz]
      have := hfill ((Array.range cs.length).map fun x => z.cells[x % z.cells.size]!) (by simp)
      simp only [this]
      simp [newRow]
    simp only [ho, List.map_toArray, List.map_cons, List.map_nil, hx, Sem.run_bind, hrun, Result.andThen_ok, Sem.run_pure]
    exact h
end
end Go.Proofs.Ytemladlnpaaefaa
