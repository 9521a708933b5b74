/- The walk of a request's Right. Conditions: the request's numbers are in their bounds. -/
import Derived.Test.YtchnjcghbbacoaaDoorQModel
import Derived.Test.YtchnjcghbbacoaaDoorDst
set_option linter.unusedVariables false
set_option linter.unusedSimpArgs false
set_option linter.unnecessarySimpa false
namespace Go.Proofs.YtchnjcghbbacoaaDoor
open Go.RowKit

set_option maxRecDepth 100000 in
set_option maxHeartbeats 1000000 in
theorem QRight (r : Rq) (w : World) (hok : RqOk r) :
    Calls Tryd.prog 9 #[.agg (rqC r).toArray] w fun e w' => e = .returned (.bool (rightR r)) ∧ Ext w w' := by
  have hb0 : Blk (w.alloc (.cells (rqC r).toArray 31)) w.heap.size 31 (rqC r) := Blk.new _ _ _
  have hx0 : Ext w (w.alloc (.cells (rqC r).toArray 31)) := (Ext.refl w).alloc _
  have c1 : (rqC r)[1]? = some (.int .u64 (r.2.1 : Int)) := rfl
  have c35 := rqC_note hok
  have hn := hok.note
  unfold rightR
  generalize rqC r = CC at *
  have h1 := (hb0.cell 1).trans c1
  have h35 := (hb0.cell 35).trans c35
  generalize r.2.2.2.2 = note at *
  generalize r.2.1 = am at *
  have HX := Lib.hid hx0
  clear hx0 hb0 c1 c35 hok
  go_enter Tryd.func9, Tryd.ntmps9
  by_cases ha : 0 < am
  · by_cases hs : note.size ≤ 100
    · go_wp2
      go_ret
      exact ⟨by simp [ha, hs]; omega, HX.out⟩
    · go_wp2
      go_ret
      exact ⟨by simp [ha, hs]; omega, HX.out⟩
  · go_wp2
    go_ret
    exact ⟨by simp [ha], HX.out⟩
end Go.Proofs.YtchnjcghbbacoaaDoor
