/- MillSums: for every input the law returns true. -/
import Derived.Test.YtklljkfnlakdaaaRmake
import Derived.Test.YtklljkfnlakdaaaMAwake
set_option linter.unusedVariables false
set_option linter.unusedSimpArgs false
set_option linter.unnecessarySimpa false
namespace Go.Proofs.Ytklljkfnlakdaaa
open Go.RowKit

set_option maxRecDepth 100000 in
set_option maxHeartbeats 1000000 in
theorem sums_walk (v : Value) (p : List UInt8) (w : World) (F : Fp) (hp : (Ty.sl .u8).holds w F [v] p) (hF : ∀ b, F b → b < w.heap.size) :
    Calls Try.prog 3 #[v] w fun e w' => e = .returned (.bool true) ∧ Ext w w' := by
  have hp0 := hp
  obtain ⟨A, c, xs, hv, hlc, hc, hA, hcell, hall⟩ := hp
  cases hv
  unfold maxLen at hc
  clear hA hcell hall
  by_cases hb : 5000 < p.length
  · go_enter Try.func3, Try.ntmps3
    go_wp2_with fail
    refine (awake_true _).mono ?_
    rintro e w1 ⟨rfl, hx1⟩
    go_wp2
    go_ret
    exact ⟨rfl, hx1⟩
  · have hgt : Try.prog.eqGuardType Try.prog.depth 25 = false := by kernel_rfl
    have hu8 : (Try.prog.info? 5).map (·.size) = some 1 := by kernel_rfl
    have hsl : (sha p).length = 32 := sha_length _
    have HP := Lib.hid hp0
    clear hp0
    go_enter Try.func3, Try.ntmps3
    go_wp2_with fail
    refine (awake_true _).mono ?_
    rintro e w1 ⟨rfl, hx1⟩
    have hx2 : Ext w (w1.alloc (.cells #[Value.slice A p.length c] 22)) := hx1.alloc _
    have hv := parts_new (w := w1) (G := w1.heap.size) (n := 1) (T := 22) rfl rfl (by simp [maxLen]) (AllH.one (R := (Ty.sl .u8).holds _ _) (hx1.holds hF HP.out)) (fun b hb => Nat.lt_of_lt_of_le (hF b hb) hx1.size)
    have hO := Of _ [p] _ _ hv (by rintro b (hb | rfl); · have := hF b hb; have := hx1.size; simp; omega
                                   · simp) (by simpa using (by omega : p.length < 576460752303423488))
    rw [show [p].flatMap id = p by simp] at hO
    have HO := Lib.hid hO
    have HX1 := Lib.hid hx1
    have HX2 := Lib.hid hx2
    clear hO hv hx1 hx2
    go_wp2_with fail
    refine HO.out.mono ?_
    rintro e w2 ⟨rfl, hx2'⟩
    have hx3 := HX2.out.trans hx2'
    clear hx2'
    go_wp2_with fail
    refine (Ref_Make _).mono ?_
    rintro e w3 ⟨rfl, hx4⟩
    have hx5 := hx3.trans hx4
    clear hx3 hx4
    go_wp2_with fail
    refine (Ref_Of tabFirst tabRounds _ p _ F tab_first tab_rounds (hx5.holds hF HP.out) (fun b hb => Nat.lt_of_lt_of_le (hF b hb) hx5.size) (by omega)).mono ?_
    rintro e w4 ⟨rfl, hx6⟩
    have hx7 := hx5.trans hx6
    clear hx5 hx6
    generalize sha p = D at *
    go_wp2_with (first
      | (refine wpList_eqD _ (.inr rfl) 25 _ (.tmp 11) (.tmp 14) rfl 5 32 Try.underlying25 Try.underlying5 hu8 hgt D D rfl rfl hsl hsl ?_)
      | fail)
    go_ret
    exact ⟨rfl, hx7⟩
end Go.Proofs.Ytklljkfnlakdaaa
