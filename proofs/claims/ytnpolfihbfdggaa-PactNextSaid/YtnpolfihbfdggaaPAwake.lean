/- The law's example. No condition. -/
import Derived.Test.YtnpolfihbfdggaaPTo
set_option linter.unusedVariables false
set_option linter.unusedSimpArgs false
set_option linter.unnecessarySimpa false
namespace Go.Proofs.Ytnpolfihbfdggaa
open Go.RowKit

def wPay : Wish := ⟨1, 4, (0, 0, 0, List.replicate 32 0, 0, ()), 0⟩
def s3 : St := { St.zero with chan := 3 }
def s31 : St := { St.zero with chan := 3, round := 1, m0 := 4 }
theorem next_pay : nextM s3 10 0 0 wPay = (s31, 0) := by kernel_rfl
theorem pay_ok : CondOk wPay.c := ⟨by decide, by decide, by decide, by decide, by decide⟩
theorem s3_ok : StOk s3 := ⟨by decide, by decide, by decide, by decide, by decide, by decide⟩
theorem s31_ok : StOk s31 := ⟨by decide, by decide, by decide, by decide, by decide, by decide⟩
theorem conds_nil (w : World) (F : Fp) : Conds w F (.slice none 0 0) [] := ⟨none, 0, [], rfl, Nat.le_refl _, by decide, fun _ => rfl, fun h => absurd rfl h, rfl⟩
theorem s31_free0 : freeM s31 10 0 0 = (6, 0) := by kernel_rfl
theorem s31_free1 : freeM s31 10 0 1 = (4, 0) := by kernel_rfl
set_option maxRecDepth 100000 in
set_option maxHeartbeats 1000000 in
theorem Awake (w : World) : Calls Try.prog 9 #[] w fun e w' => e = .returned (.bool true) ∧ Ext w w' := by
  have hz := state_zero
  have hzl : zst.length = 7 := rfl
  generalize zst = Z at hz hzl
  have HZL := Lib.hid hzl
  have hnx : ∀ W, Calls Try.prog 11 #[stv s3 (.slice none 0 0), .agg #[.int .u64 10, .int .u64 0], .int .i64 0, .agg (wishCells wPay).toArray] W fun e w' => ∃ v', e = .returned (.tuple #[.agg (stc s31 v').toArray, .int .i64 0]) ∧ OwnC w' v' [] ∧ Ext W w' := fun W => by
    refine (Next s3 (.slice none 0 0) 10 0 0 wPay W (fun _ => False) s3_ok (by decide) (by decide) pay_ok (by decide) (conds_nil _ _) (fun _ h => h.elim) (by decide)).mono ?_
    rintro e w' ⟨v', rfl, ho, hx, hb⟩
    rw [next_pay] at ho ⊢
    exact ⟨v', rfl, ho, hx⟩
  have hfr : ∀ (W : World) (v : Value), OwnC W v [] → ∀ sd r, freeM s31 10 0 sd = (r, 0) → Calls Try.prog 23 #[.agg (stc s31 v).toArray, .agg #[.int .u64 10, .int .u64 0], .int .i64 sd] W fun e w' => e = .returned (.tuple #[.int .u64 (r : Int), .int .i64 0]) ∧ Ext W w' := fun W v ho sd r hr => by
    refine (Free s31 v 10 0 sd W _ s31_ok (by decide) (by decide) ho.holds ho.lt (by decide)).mono ?_
    rintro e w' ⟨rfl, hx⟩
    rw [hr]
    exact ⟨rfl, hx⟩
  have HNX := Lib.hid hnx
  have HFR := Lib.hid hfr
  clear hzl hnx hfr
  go_enter Try.func9, Try.ntmps9
  go_wp2_with (first
    | (go_at_call 16; refine (New 3 _ (by decide)).mono ?_; rintro e w1 ⟨rfl, hx1⟩)
    | (refine wpList_build (.inl rfl) 46 _ rfl (.agg (wishCells wPay).toArray) (by kernel_rfl) ?_)
    | (go_at_call 11; refine (HNX.out _).mono ?_; rintro e w2 ⟨v, rfl, ho2, hx2⟩)
    | (refine wpList_alloc _ rfl 36 rfl _ hz ?_)
    | (refine wpList_store_new _ rfl 36 (.tmp 1) (.tmp 12) rfl rfl Z (stc s31 v) _ rfl (state_size rfl) (by rw [HZL.out]; rfl) (by obtain ⟨A, c, h⟩ := ho2.form; rw [h]; exact stc_one _ _ _ _) ?_)
    | (refine wpList_load_agg _ rfl 36 (.tmp 1) rfl _ rfl (stc s31 v) _ Try.underlying36 rfl (state_size rfl) (Blk.new w2 _ (stc s31 v)).cells ?_)
    | fail)
  have hb3 : Blk (w2.alloc (.cells (stc s31 v).toArray 36)) w2.heap.size 36 (stc s31 v) := Blk.new _ _ _
  have hx3 : Ext w (w2.alloc (.cells (stc s31 v).toArray 36)) := (hx1.trans hx2).alloc _
  have ho3 := ho2.ext ((Ext.refl w2).alloc (.cells (stc s31 v).toArray 36))
  generalize w2.alloc (.cells (stc s31 v).toArray 36) = w3 at *
  refine (HFR.out w3 v ho3 0 6 s31_free0).mono ?_
  rintro e w4 ⟨rfl, hx4⟩
  have hb4 := hb3.keep hx4 (by simp)
  have hc4 := hb4.cells
  go_wp2_with (first
    | (refine wpList_load_agg _ rfl 36 (.tmp 1) rfl _ rfl (stc s31 v) _ Try.underlying36 rfl (state_size rfl) hc4 ?_)
    | fail)
  refine (HFR.out w4 v (ho3.ext hx4) 1 4 s31_free1).mono ?_
  rintro e w5 ⟨rfl, hx5⟩
  have hc5 : w5.cell? ⟨w2.heap.size, 0, none⟩ = some (.int .u32 3) := ((hb4.keep hx5 (by simp)).cell 0).trans rfl
  go_wp2
  go_ret
  exact ⟨rfl, hx3.trans (hx4.trans hx5)⟩
end Go.Proofs.Ytnpolfihbfdggaa
