/- The walk of the mill's Write. Condition: fewer than 2^60 bytes in all. -/
import Derived.Test.YtklljkfnlakdaaaPut
set_option linter.unusedVariables false
set_option linter.unusedSimpArgs false
set_option linter.unnecessarySimpa false
namespace Go.Proofs.Ytklljkfnlakdaaa
open Go.RowKit

set_option maxHeartbeats 400000 in
theorem Write_nil (v : Value) (w : World) : Calls Try.prog 14 #[.pointer none, v] w fun e w' => e = .returned (.tuple #[]) ∧ w = w' := by
  go_enter Try.func14, Try.ntmps14
  go_wp2
  exact bodyPost_ret (results_none rfl _ _ _) rfl ⟨rfl, rfl⟩
theorem flat_take_len {α β : Type} (f : α → List β) (l : List α) (k : Nat) : ((l.take k).flatMap f).length ≤ (l.flatMap f).length := by
  have e : l.flatMap f = (l.take k).flatMap f ++ (l.drop k).flatMap f := by rw [← List.flatMap_append, List.take_append_drop]
  rw [e, List.length_append]
  omega
set_option maxHeartbeats 400000 in
theorem Write (g : Nat) (v : Value) (B : List UInt8) (ps : List (List UInt8)) (w : World) (F : Fp) (hm : MillAt w g B) (hp : (Ty.sl (.sl .u8)).holds w F [v] ps) (hF : ∀ b, F b → b < w.heap.size ∧ b ≠ g) (hb : B.length + (ps.flatMap id).length < 1152921504606846976) :
    Calls Try.prog 14 #[.pointer (some ⟨g, 0, none⟩), v] w fun e w' => e = .returned (.tuple #[]) ∧ MillAt w' g (B ++ ps.flatMap id) ∧ w.grownBy w' (some g) := by
  obtain ⟨A, c, xs, hv, hlc, hc, hA, hcell, hall⟩ := hp
  cases hv
  unfold maxLen at hc
  go_enter Try.func14, Try.ntmps14
  go_wp2
  go_loopw [10] (fun i wr => ∃ k : Nat, k ≤ ps.length ∧ i = .int .i64 k ∧ MillAt wr g (B ++ (ps.take k).flatMap id) ∧ w.grownBy wr (some g)) (fun i _ => ps.length - (intOf i).toNat)
  case atStart => exact ⟨0, by omega, rfl, by simpa using hm, World.grownBy.refl _ _⟩
  case round =>
    obtain ⟨k, hk, rfl, hmr, hgr⟩ := hrel
    by_cases hlt : k < ps.length
    · obtain ⟨ad, rfl, hf, hcells⟩ := hcell (by rintro rfl; simp at hlt)
      obtain ⟨y, hy, hyh⟩ := AllH.sl_at hall hlt
      have hsame : ∀ b, F b → wr.heap[b]? = w.heap[b]? := fun b hb => hgr.block b (hF b hb).1 (by simpa using (hF b hb).2)
      have hcx := (hcells.keep (hsame _ hf)) k _ hy
      have hyr := Ty.keep (t := (Ty.sl .u8)) hsame (fun _ h => h) hyh
      have hst := flat_len_step id ps k hlt
      obtain ⟨A1, c1, xs1, hv1, hlc1, hc1, hA1, hcell1, hall1⟩ := hyh
      cases hv1
      go_wp2_with fail
      refine (Put g _ _ (B ++ (ps.take k).flatMap id) ps[k] F hmr hyr (fun b hb => ⟨Nat.lt_of_lt_of_le (hF b hb).1 hgr.size, (hF b hb).2⟩) (by rw [List.length_append]; simp only [id] at hst; omega)).mono ?_
      rintro e w1 ⟨rfl, hm1, hg1⟩
      go_wp2
      go_roundw
      case rel => exact ⟨k + 1, by omega, by go_num, by rw [flat_step _ _ _ hlt, ← List.append_assoc]; exact hm1, hgr.trans hg1⟩
      case measure => simp [intOf]; omega
    · obtain rfl : k = ps.length := by omega
      rw [List.take_length] at hmr
      go_wp2
      go_end0
      exact ⟨rfl, hmr, hgr⟩
end Go.Proofs.Ytklljkfnlakdaaa
