/- The walk of the law LampLong. Conditions: the signature has its length, the number is in its bounds. -/
import Derived.Test.YtfoomnibfibfnaaLTake
import Derived.Test.YtfoomnibfibfnaaLampLay
import Derived.Test.YtfoomnibfibfnaaLAwake
set_option linter.unusedVariables false
set_option linter.unusedSimpArgs false
set_option linter.unnecessarySimpa false
namespace Go.Proofs.Ytfoomnibfibfnaa
open Go.RowKit

theorem stT_ok (B : List UInt8) : ∀ k, stT (B, 0) k = if 32 * k ≤ B.length then (B.drop (32 * k), 0) else ([], 9)
  | 0 => by simp [stT]
  | k + 1 => by
    show (sumM (stT (B, 0) k)).2 = _
    rw [stT_ok B k]
    by_cases h1 : 32 * k ≤ B.length
    · rw [if_pos h1]
      show (cutM 32 (B.drop (32 * k), 0)).2 = _
      unfold cutM
      rw [if_neg (by simp)]
      by_cases h2 : 32 * (k + 1) ≤ B.length
      · rw [if_pos h2, if_neg (by show ¬ (B.drop (32 * k)).length < 32; rw [List.length_drop]; omega)]
        show ((B.drop (32 * k)).drop 32, (0 : Int)) = _
        rw [List.drop_drop, Nat.mul_succ]
      · rw [if_neg h2, if_pos (by show (B.drop (32 * k)).length < 32; rw [List.length_drop]; omega)]
    · rw [if_neg h1, if_neg (by omega)]
      rfl
theorem stT_short {B : List UInt8} (h : B.length < 1024) : stT (B, 0) 32 = ([], 9) := by rw [stT_ok, if_neg (by omega)]
theorem lrsig_size {n : Nat} (h : n = 1024) : (Try.prog.info? 38).map (·.size) = some n := by subst h; kernel_rfl
set_option maxRecDepth 100000 in
set_option maxHeartbeats 8000000 in
theorem Long (S : List UInt8) (hS : S.length = 1024) (cut : Nat) (hcut : (Lit.int .u16 (cut : Int)).wf = true) (w : World) :
    Calls Try.prog 6 #[.agg (bv S).toArray, .int .u16 (cut : Int)] w fun e w' => e = .returned (.bool true) ∧ Ext w w' := by
  have hc16 : cut < 65536 := by
    have h := hcut
    simp [Lit.wf, IntKind.bits, IntKind.signed, IntKind.min, IntKind.max] at h
    omega
  have hcl : (bv S).length = 1024 := by rw [bv_length]; exact hS
  have hto := fun W => To04 (bv S) W hcl (bv_one S)
  have hly := fun W => Lamp_Lay S (.slice none 0 0) [] W hS (Own.nil _ _ _) (by simp)
  have hll : (layS S 32).length = 1024 := layS_len hS 32 (Nat.le_refl _)
  generalize bv S = C at *
  have hb0 : Blk (w.alloc (.cells C.toArray 38)) w.heap.size 38 C := Blk.new _ _ _
  have hcs := hb0.cells
  have HX0 : Hid (Ext w (w.alloc (.cells C.toArray 38))) := Lib.hid ((Ext.refl w).alloc _)
  have HCL := Lib.hid hcl
  have HTO := Lib.hid hto
  have HLY := Lib.hid hly
  have HLL := Lib.hid hll
  clear hb0 hcl hto hly hll hcut
  generalize layS S 32 = L at *
  go_enter Try.func6, Try.ntmps6
  go_wp2_with (first
    | (refine wpList_load_agg _ rfl 38 (.tmp 2) rfl _ rfl C _ Try.underlying38 rfl (lrsig_size HCL.out) hcs ?_)
    | (go_at_call 16; refine (HTO.out _).mono ?_; rintro e w1 ⟨rfl, hx1⟩)
    | fail)
  refine (HLY.out _).mono ?_
  rintro e w2 ⟨v, rfl, ho, hm⟩
  rw [List.nil_append] at ho
  obtain ⟨A, c, hv⟩ := OwnB.form ho
  subst hv
  have hx2 : Ext w w2 := (HX0.out.trans hx1).trans hm.grown
  have hholds := ho.holds
  have hlt := OwnB.lt ho
  obtain ⟨A2, c2, xs, hv2, hlc, hcm, hA, hcell, hall⟩ := hholds
  cases hv2
  obtain ⟨t, ht, htl⟩ : ∃ t : Nat, (cut : Int) % 1024 = (t : Int) ∧ t < 1024 := ⟨cut % 1024, by omega, Nat.mod_lt _ (by decide)⟩
  have hsl : (Ty.sl .u8).holds w2 (fun b => Value.ownBlock (.slice A L.length c) = some b) [.slice A t c] (L.take t) := by
    have hlen : (L.take t).length = t := by rw [List.length_take, HLL.out]; omega
    refine ⟨A, c, xs.take t, by rw [hlen], by rw [hlen]; have := HLL.out; omega, hcm, hA, fun hne => ?_, ?_⟩
    · obtain ⟨ad, h1, h2, h3⟩ := hcell (by rintro e; rw [e] at hne; simp at hne)
      exact ⟨ad, h1, h2, h3.take t⟩
    · rw [AllH.bytes.1 hall]
      exact AllH.bytes.2 (by simp [bv, List.map_take])
  have hof := In_Of _ _ w2 _ hsl (by rw [List.length_take]; unfold maxLen at hcm; have := HLL.out; omega)
  have hsh : stT (L.take t, 0) 32 = ([], 9) := stT_short (by rw [List.length_take, HLL.out]; omega)
  have hlc2 : (1024 : Nat) ≤ c := by have := HLL.out; omega
  rw [HLL.out]
  have HOF := Lib.hid hof
  have HSH := Lib.hid hsh
  have HX2 := Lib.hid hx2
  have htl2 : t ≤ c := by omega
  clear ho hm hx1 hx2 hlt hlc hcm hA hcell hall hsl hof hsh hcs
  go_wp2_with fail
  refine (HOF.out).mono ?_
  rintro e w3 ⟨g, q, rfl, hin, hx3, hg3, hq3⟩
  have HX3 := Lib.hid (HX2.out.trans hx3)
  have HIN := Lib.hid hin
  have hgw : w.heap.size ≤ g := Nat.le_trans HX2.out.size hg3
  clear hin hx3 hg3 hq3
  go_wp2_with fail
  refine (Take w3 HIN.out).mono ?_
  rintro e w4 ⟨rfl, hin4, hg4⟩
  rw [HSH.out] at hin4
  have HX4 : Hid (Ext w w4) := Lib.hid (grown_then HX3.out hg4 (.inr (by rintro b ⟨⟩; exact hgw)))
  clear hg4
  go_wp2_with (first
    | (go_at_call 10; refine (LAwake _).mono ?_; rintro e w5 ⟨rfl, hx5⟩; have hin5 := hin4.ext hx5)
    | (go_at_call 24; refine (In_Bad (h := hin5)).mono ?_; rintro e w6 ⟨rfl, hx6⟩; subst hx6)
    | (go_at_call 25; refine (In_Left (h := hin5)).mono ?_; rintro e w7 ⟨rfl, hx7⟩; subst hx7)
    | fail)
  go_ret
  exact ⟨by simp, HX4.out.trans hx5⟩
end Go.Proofs.Ytfoomnibfibfnaa
