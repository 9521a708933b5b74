/- Walks of the reference's Num and Blob. -/
import Derived.Test.YtchnjcghbbacoaaDoorOut
set_option linter.unusedVariables false
set_option linter.unusedSimpArgs false
set_option linter.unnecessarySimpa false
namespace Go.Proofs.YtchnjcghbbacoaaDoor
open Go.RowKit

set_option maxHeartbeats 400000 in
set_option maxRecDepth 100000 in
theorem Ref_Num (vb : Value) (bs : List UInt8) (n size : Nat) (w : World) (F : Fp) (hb : (Ty.sl .u8).holds w F [vb] bs) (hF : ∀ b, F b → b < w.heap.size) (hn : n < 18446744073709551616) (hs : size ≤ 8) (hbb : bs.length + size ≤ 140737488355328) :
    Calls Tryd.prog 40 #[vb, .int .u64 n, .int .i64 size] w fun e w' => ∃ v', e = .returned v' ∧ OwnB w' v' (bs ++ be size n) ∧ Fresh w w' v' := by
  obtain ⟨i0, hi, hz0, hz1, hz2⟩ := info_parts u8_info
  obtain ⟨A, c, xs, hv, hlc, hc, hA, hcell, hall⟩ := hb
  cases hv
  go_enter Tryd.func40, Tryd.ntmps40
  go_wp2_with (at_make; refine wpList_make_full _ rfl _ _ _ rfl 0 _ i0 _ 1 Tryd.underlying40 hi hz0 hz1 .i64 .i64 size size size rfl rfl rfl rfl (by rw [hz2]; omega) (by unfold maxLen; omega) (Nat.zero_le _) ?_; intro w1 ho1 hg1)
  have hg1 : Ext w w1 := hg1
  have ho1 : Own w1 5 1 (.slice (some ⟨w.heap.size, 0, none⟩) size size) size (bv (beFill size size n)) := by
    have e : bv (beFill size size n) = (madeCells (Value.int .u8 0).cells (size * 1)).toList := by
      rw [show (Value.int .u8 0).cells = #[.int .u8 0] from rfl, toList_madeCells_one, Nat.mul_one]
      simp [beFill, bv, be_length]
    rw [e]; exact ho1
  go_loopw [1, 8] (fun nn i wr => ∃ j : Nat, j ≤ size ∧ i = .int .i64 ((j : Int) - 1) ∧ nn = .int .u64 ((n / 256 ^ (size - j) : Nat) : Int) ∧ Own wr 5 1 (.slice (some ⟨w.heap.size, 0, none⟩) size size) size (bv (beFill size j n)) ∧ Ext w wr) (fun _ i _ => (intOf i + 1).toNat)
  case atStart => exact ⟨size, by omega, rfl, by simp, ho1, hg1⟩
  case round =>
    obtain ⟨j, hj, rfl, rfl, hor, hxr⟩ := hrel
    by_cases hlt : 0 < j
    · have hcell0 := World.ownsRow.cellAt hor (j - 1) (by omega)
      obtain ⟨u0, hu0⟩ : ∃ u0, (bv (beFill size j n))[j - 1]? = some u0 := ⟨_, List.getElem?_eq_getElem (by rw [bv_length, beFill_length _ _ _ hj]; omega)⟩
      rw [hu0] at hcell0
      have hfr := World.ownsRow.frozenAt hor (j - 1)
      have hst := World.ownsRow.stored hor (j - 1) (.int .u8 ((UInt8.ofNat (n / 256 ^ (size - j))).toNat : Int))
      have hm : ((n / 256 ^ (size - j) : Nat) : Int) % 256 = ((UInt8.ofNat (n / 256 ^ (size - j))).toNat : Int) := by rw [UInt8.toNat_ofNat']; omega
      have hlow : n / 256 ^ (size - j) < 18446744073709551616 := Nat.lt_of_le_of_lt (Nat.div_le_self _ _) hn
      have hq := be_rest n size j hlt hj
      generalize hN : n / 256 ^ (size - j) = N at *
      have HM := Lib.hid hm
      have HQ := Lib.hid hq
      have HN := Lib.hid hN
      clear hm hq hN hu0
      go_wp2
      go_roundw
      case rel =>
        rw [HM.out]
        refine ⟨j - 1, by omega, by rw [show ((j - 1 : Nat) : Int) = (j : Int) - 1 by omega], by rw [← HQ.out, Int.natCast_ediv]; rfl, ?_, hxr.setCell (Nat.le_refl _) _⟩
        rw [← beFill_step size j n hlt hj, HN.out, bv_set]
        exact hst.1
      case measure => simp [intOf]; omega
    · obtain rfl : j = 0 := by omega
      have hb' : (Ty.sl .u8).holds wr F [.slice A bs.length c] bs := hxr.holds hF ⟨A, c, xs, rfl, hlc, hc, hA, hcell, hall⟩
      have hsrc := src_bytes hb'
      have hbe : beFill size 0 n = be size n := by simp [beFill]
      rw [hbe] at hor
      clear hbe
      go_wp2_with (first
        | (at_builtin; refine wpList_app _ rfl (.tmp 25) (.tmp 26) _ _ rfl _ _ i0 _ 1 1 Tryd.underlying40 Tryd.underlying40 hi hz0 hz1 hz2 rfl (by decide) _ _ _ rfl (own_empty rfl) _ _ _ (bv bs) rfl (by simp) (hsrc.alloc (bv_ne bs) _) (bv_one _) (by unfold maxLen; omega) (by omega) ?_; intro v2 w2 ho2 hm2; have hm3 : Fresh wr w2 v2 := (fresh_empty wr _).trans hm2; have hor2 := Own.ext hor hm3.ext)
        | (at_builtin; refine wpList_app _ rfl (.tmp 27) (.tmp 28) _ _ rfl _ _ i0 _ 1 1 Tryd.underlying40 Tryd.underlying40 hi hz0 hz1 hz2 rfl (by decide) _ _ _ rfl ho2 _ _ _ (bv (be size n)) rfl (by simp [be_length]) (own_src hor2) (bv_one _) (by unfold maxLen; omega) (by omega) ?_; intro v4 w4 ho4 hm4))
      go_ret
      refine ⟨_, rfl, ?_, Moved.pre hxr (hm3.trans hm4)⟩
      unfold OwnB
      rw [bv_append, List.length_append, be_length]
      simpa using ho4

set_option maxHeartbeats 400000 in
theorem Ref_Blob (vb vp : Value) (bs p : List UInt8) (w : World) (F : Fp) (hb : (Ty.sl .u8).holds w F [vb] bs) (hp : (Ty.sl .u8).holds w F [vp] p) (hF : ∀ b, F b → b < w.heap.size) (hbb : bs.length + 4 + p.length ≤ 140737488355328) :
    Calls Tryd.prog 41 #[vb, vp] w fun e w' => ∃ v', e = .returned v' ∧ OwnB w' v' (bs ++ blob p) ∧ Fresh w w' v' := by
  obtain ⟨i0, hi, hz0, hz1, hz2⟩ := info_parts u8_info
  have hp' := hp
  obtain ⟨A, c, xs, hv, hlc, hc, hA, hcell, hall⟩ := hp
  cases hv
  unfold maxLen at hc
  go_enter Tryd.func41, Tryd.ntmps41
  go_wp2_with fail
  refine (Ref_Num vb bs p.length 4 w F hb hF (by omega) (by omega) (by omega)).mono ?_
  rintro e w1 ⟨v1, rfl, ho1, hm1⟩
  have hsrc := src_bytes (hm1.ext.holds hF hp')
  have hl : (bs ++ be 4 p.length).length = bs.length + 4 := by simp [be_length]
  have HL := Lib.hid hl
  clear hl
  go_wp2_with (at_builtin; refine wpList_app _ rfl (.tmp 9) (.tmp 10) _ _ rfl _ _ i0 _ 1 1 Tryd.underlying40 Tryd.underlying40 hi hz0 hz1 hz2 rfl (by decide) _ _ _ rfl ho1 _ _ _ (bv p) rfl (by simp) hsrc (bv_one _) (by unfold maxLen; rw [HL.out]; omega) (by rw [HL.out]; omega) ?_; intro v2 w2 ho2 hm2)
  go_ret
  exact ⟨_, rfl, by have := OwnB.app ho2; rwa [List.append_assoc] at this, hm1.trans hm2⟩
end Go.Proofs.YtchnjcghbbacoaaDoor
