/- OctetNil: for every input the law returns true. -/
import Derived.Test.YtihbalobgalpmaaInNil
import Derived.Test.YtihbalobgalpmaaLaw1
namespace Go.Proofs.Ytihbalobgalpmaa
open Go.RowKit

set_option maxHeartbeats 1000000 in
theorem nil_walk (most : Int) (hm : (Lit.int .i64 most).wf = true) (w : World) :
    Calls Try.prog 5 #[.int .i64 most] w fun e w' => e = .returned (.bool true) ∧ Ext w w' := by
  have hb := bounds_i64 hm
  have hu8 : (Try.prog.info? 5).map (·.size) = some 1 := by kernel_rfl
  have hgt : Try.prog.eqGuardType Try.prog.depth 49 = false := by kernel_rfl
  have hcases : 0 ≤ most ∨ most < 0 := by omega
  go_enter Try.func5, Try.ntmps5
  go_wp2_with fail
  refine (Nil_Fail _ _).mono ?_
  rintro e w1 ⟨rfl, rfl⟩
  go_wp2_with fail
  refine (awake_true _).mono ?_
  rintro e w1 ⟨rfl, hx1⟩
  go_wp2_with fail
  refine (Nil_One _).mono ?_
  rintro e w2 ⟨rfl, rfl⟩
  go_wp2_with fail
  refine (Nil_Eight _).mono ?_
  rintro e w2 ⟨rfl, rfl⟩
  go_wp2_with fail
  refine (Nil_Sum _).mono ?_
  rintro e w2 ⟨rfl, hx2⟩
  go_wp2_with (first
    | (refine wpList_eqD _ (.inr rfl) 49 _ (.tmp 19) (.tmp 20) rfl 5 32 Try.underlying49 Try.underlying5 hu8 hgt (List.replicate 32 0) (List.replicate 32 0) rfl rfl rfl rfl ?_)
    | fail)
  refine (Nil_Blob _ _ hm).mono ?_
  rintro e w3 ⟨A, c, rfl, hx3⟩
  rcases hcases with k1 | k1
  all_goals
    go_wp2_with fail
    refine (Nil_Many _ _ (by omega)).mono ?_
    rintro e w4 ⟨rfl, rfl⟩
    go_wp2_with fail
    refine (Nil_Left _).mono ?_
    rintro e w4 ⟨rfl, rfl⟩
    go_wp2_with fail
    refine (Nil_Bad _).mono ?_
    rintro e w4 ⟨rfl, rfl⟩
    go_wp2_with fail
    refine (Nil_End _).mono ?_
    rintro e w4 ⟨rfl, rfl⟩
    go_wp2
    go_ret
    exact ⟨rfl, Ext.trans (Ext.trans hx1 hx2) hx3⟩
end Go.Proofs.Ytihbalobgalpmaa
