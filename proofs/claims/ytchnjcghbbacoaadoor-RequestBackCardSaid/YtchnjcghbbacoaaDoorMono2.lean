/- A drawn region in which an 'alloc' may come at any time beside the calls: branch by branch, one common end. No condition but what each names. -/
import Derived.Test.YtchnjcghbbacoaaDoorMono
set_option linter.unusedVariables false
set_option linter.unusedSimpArgs false
set_option linter.unnecessarySimpa false
namespace Go.Proofs.YtchnjcghbbacoaaDoor
open Go.RowKit

section
variable {P : Program} {md : Region.Mode} {ops : Array Oper} {Q : Exit → Act → World → Prop} {R : World → World → Prop}
/-- Two may come up. -/
theorem bothM (i k : Nat) {oi ok : Oper} {fuel : Nat} {listed : Array Bool} {a : Act} {w : World} (hi : (ops.toList.drop i).head? = some oi) (hk : (ops.toList.drop k).head? = some ok)
    (hr : Region.ready md ops listed = [i, k]) (hw : Region.wanted oi (yielded ops a.tmps) = true) (hw2 : Region.wanted ok (yielded ops a.tmps) = true)
    (h1 : ∀ K : Act → World → Prop, (∀ a' w', R w w' → wpAnyM P md ops Q R fuel (listed.setIfInBounds i true) a' w' → K a' w') → oi.wp P a w K Q)
    (h2 : ∀ K : Act → World → Prop, (∀ a' w', R w w' → wpAnyM P md ops Q R fuel (listed.setIfInBounds k true) a' w' → K a' w') → ok.wp P a w K Q) : wpAnyM P md ops Q R (fuel + 1) listed a w := by
  refine ⟨fun h0 => (by rw [hr] at h0; cases h0), fun j hj => ?_⟩
  rw [hr] at hj
  rcases List.mem_cons.1 hj with rfl | hj
  · refine wpOp_step (op_at hi) (fun K' hK => ?_)
    rw [if_pos hw]
    exact h1 K' (fun a' w' h1 h2 => hK _ _ ⟨h1, h2⟩)
  · obtain rfl : j = k := by simpa using hj
    refine wpOp_step (op_at hk) (fun K' hK => ?_)
    rw [if_pos hw2]
    exact h2 K' (fun a' w' h1 h2 => hK _ _ ⟨h1, h2⟩)
theorem relist {fuel : Nat} {L L' : Array Bool} {a : Act} {w : World} (h : L = L') (hw : wpAnyM P md ops Q R fuel L' a w) : wpAnyM P md ops Q R fuel L a w := h ▸ hw
theorem wp_alloc_agg {w : World} {o : Oper} {a : Act} {K : Act → World → Prop} (ty : TypeId) (ho : o.op = .alloc ty) (z : List Value)
    (hz : (P.info? ty).bind (fun i => i.zero.map (·.cells)) = some z.toArray)
    (h : K (a.put o.dst (.pointer (some ⟨w.heap.size, 0, none⟩))) (w.alloc (.cells z.toArray ty))) : o.wp P a w K Q := by
  obtain ⟨i, hi, hzz⟩ := Option.bind_eq_some_iff.1 hz
  obtain ⟨zv, hzv, hzc⟩ := Option.map_eq_some_iff.1 hzz
  unfold Oper.wp execOp
  simp only [ho, Instr.alloc, zeroValue, typeInfo, Sem.run_bind, run_program, Result.andThen_ok, hi, Sem.run_pure, hzv, newVar, newRow, hzc, run_newObj, World.alloc_eq]
  exact h
end
/-- One end for several ways. -/
theorem shared2 {Q : Prop} {A : Nat → Value → World → Prop} (J : Nat → Value → World → Prop) (h1 : (∀ g u w, J g u w → A g u w) → Q) (h2 : ∀ g u w, J g u w → A g u w) : Q := h1 h2
theorem shared3 {Q : Prop} {A : Nat → Value → Value → World → Prop} (J : Nat → Value → Value → World → Prop) (h1 : (∀ g u v w, J g u v w → A g u v w) → Q) (h2 : ∀ g u v w, J g u v w → A g u v w) : Q := h1 h2
theorem shared4 {Q : Prop} {A : Nat → Value → Value → Value → World → Prop} (J : Nat → Value → Value → Value → World → Prop) (h1 : (∀ g u v x w, J g u v x w → A g u v x w) → Q) (h2 : ∀ g u v x w, J g u v x w → A g u v x w) : Q := h1 h2
end Go.Proofs.YtchnjcghbbacoaaDoor
