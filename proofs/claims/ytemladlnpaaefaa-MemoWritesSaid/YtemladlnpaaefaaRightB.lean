/- The walk of memo's Right: whether a memo has just what its kind has. Conditions: the parts have their sizes. -/
import Derived.Test.YtemladlnpaaefaaRightA
set_option linter.unusedVariables false
set_option linter.unusedSimpArgs false
set_option linter.unnecessarySimpa false
namespace Go.Proofs.Ytemladlnpaaefaa
open Go.RowKit
set_option maxRecDepth 100000 in
set_option maxHeartbeats 16000000 in
theorem RightAgree (M OC C : List Value) (kind : Int) (rd : Nat) (A : Option Addr) (n c : Nat) (key : Nat) (B : Option Addr) (m d : Nat) (ok sd : Int) (od : WishT18.Data) (sg : SigT.Data) (w : World) {W1 W2 : World} {F1 F2 : Fp} (hin : RightIn M OC C kind rd A n c key B m d ok sd) (hod : WishT18.holds W1 F1 OC od) (hsg : SigT.holds W2 F2 C sg) (hnl : n ≤ 140737488355328) (hml : m ≤ 140737488355328) (hkd : kind = 2) (hn0 : ((n : Int) == 0) = false) :
    Calls Try.prog 9 #[.agg M.toArray] w fun e w' => e = .returned (.bool (rightM kind rd (WishT18.eqv od (0, 0, (0, 0, 0, List.replicate 32 0, 0, ()), 0, ())) (SigT.eqv sg (zPieces, zPieces, ())) n key m ok sd)) ∧ Ext w w' := by
  obtain ⟨zo, hzo⟩ : ∃ zo, zo = WishT18.eqv od (0, 0, (0, 0, 0, List.replicate 32 0, 0, ()), 0, ()) := ⟨_, rfl⟩
  obtain ⟨zs, hzs⟩ : ∃ zs, zs = SigT.eqv sg (zPieces, zPieces, ()) := ⟨_, rfl⟩
  rw [← hzo, ← hzs]
  have HZO := Lib.hid hzo.symm
  have HZS := Lib.hid hzs.symm
  obtain ⟨ZO, hzoe⟩ : ∃ Z, Z = zop := ⟨_, rfl⟩
  obtain ⟨ZC, hzce⟩ : ∃ Z, Z = zC := ⟨_, rfl⟩
  obtain ⟨ZR, hzre⟩ : ∃ Z, Z = sigC zC 0 (.slice none 0 0) := ⟨_, rfl⟩
  have hzoh : WishT18.holds w (fun _ => False) ZO (0, 0, (0, 0, 0, List.replicate 32 0, 0, ()), 0, ()) := by rw [hzoe]; exact zOp_holds _ _
  have hzsh : SigT.holds w (fun _ => False) ZC (zPieces, zPieces, ()) := by rw [hzce]; exact zSig_holds _ _
  have hzrt : (ZR.drop 0).take 1024 = ZC := by rw [hzre, hzce]; exact sigC_take List.length_replicate 0 (.slice none 0 0)
  have HZOE := Lib.hid hzoe
  have HZRE := Lib.hid hzre
  clear hzoe hzce hzre
  have HML := Lib.hid hin.ml
  have HOL := Lib.hid hin.ol
  have HCL := Lib.hid hin.cl
  have hb0 : Blk (w.alloc (.cells M.toArray 60)) w.heap.size 60 M := Blk.new _ _ _
  have hx0 : Ext w (w.alloc (.cells M.toArray 60)) := (Ext.refl w).alloc _
  have c0 := (hb0.cell 0).trans hin.m0
  have c2 := (hb0.cell 2).trans hin.m2
  have c3 := (hb0.cell 3).trans hin.m3
  have c6 := (hb0.cell 6).trans hin.m6
  have c42 := (hb0.cell 42).trans hin.mt
  have c1067 := (hb0.cell 1067).trans hin.mkey
  have c1068 := (hb0.cell 1068).trans hin.mw
  have hco : Cells (w.alloc (.cells M.toArray 60)) ⟨w.heap.size, 3, none⟩ OC := by have h := (hb0.cells.drop 3).take 39; rw [hin.mo, addr_at] at h; exact h
  have hcs : Cells (w.alloc (.cells M.toArray 60)) ⟨w.heap.size, 43, none⟩ C := by have h := (hb0.cells.drop 43).take 1024; rw [hin.ms, addr_at] at h; exact h
  have HX0 := Lib.hid hx0
  clear hin hb0 hx0 hzo hzs
  subst hkd
  have hk : ((key : Int) == 0) = true ∨ ((key : Int) == 0) = false := by cases ((key : Int) == 0) <;> simp
  have hm : ((m : Int) == 0) = true ∨ ((m : Int) == 0) = false := by cases ((m : Int) == 0) <;> simp
  cases zo
  · rcases hk with hk0 | hk0
    · rcases hm with hm0 | hm0
      · skip
        go_enter Try.func9, Try.ntmps9
        go_wp2_with (first
          | (refine wpList_load_agg _ rfl 50 (.tmp 5) rfl _ rfl OC _ Try.underlying50 rfl (op_size HOL.out) hco ?_)
          | (refine wpList_build (.inl rfl) 50 _ rfl (.agg zop.toArray) (by kernel_rfl) ?_; rw [← HZOE.out])
          | (refine wpList_eqTy (.inl rfl) WishT18 50 _ (.tmp 6) (.tmp 7) rfl wish_fits deep_wish guard_wish val_wish OC ZO od _ rfl rfl hod hzoh _ HZO.out ?_)
          | (refine wpList_loadG (.inr (by kernel_rfl)) 55 (.tmp 28) rfl _ rfl C _ Try.underlying55 rfl (szLamp HCL.out) hcs ?_)
          | (refine wpList_build (.inr (by kernel_rfl)) 58 _ rfl (.agg (sigC zC 0 (.slice none 0 0)).toArray) (by kernel_rfl) ?_; rw [← HZRE.out])
          | (refine wpList_field (.inr (by kernel_rfl)) 58 (.tmp 30) 0 rfl 0 1024 ZR ZC ring_field rfl hzrt ?_)
          | (refine wpList_eqTy (.inr (by kernel_rfl)) SigT 55 _ (.tmp 29) (.tmp 31) rfl sig_fits deep_sig guard_sig val_sig C ZC sg _ rfl rfl hsg hzsh _ HZS.out ?_)
          | fail)
        go_ret
        exact ⟨by simp_all [rightM], HX0.out⟩
      · skip
        go_enter Try.func9, Try.ntmps9
        go_wp2_with (first
          | (refine wpList_load_agg _ rfl 50 (.tmp 5) rfl _ rfl OC _ Try.underlying50 rfl (op_size HOL.out) hco ?_)
          | (refine wpList_build (.inl rfl) 50 _ rfl (.agg zop.toArray) (by kernel_rfl) ?_; rw [← HZOE.out])
          | (refine wpList_eqTy (.inl rfl) WishT18 50 _ (.tmp 6) (.tmp 7) rfl wish_fits deep_wish guard_wish val_wish OC ZO od _ rfl rfl hod hzoh _ HZO.out ?_)
          | fail)
        go_ret
        exact ⟨by simp_all [rightM], HX0.out⟩
    · skip
      go_enter Try.func9, Try.ntmps9
      go_wp2_with (first
        | (refine wpList_load_agg _ rfl 50 (.tmp 5) rfl _ rfl OC _ Try.underlying50 rfl (op_size HOL.out) hco ?_)
        | (refine wpList_build (.inl rfl) 50 _ rfl (.agg zop.toArray) (by kernel_rfl) ?_; rw [← HZOE.out])
        | (refine wpList_eqTy (.inl rfl) WishT18 50 _ (.tmp 6) (.tmp 7) rfl wish_fits deep_wish guard_wish val_wish OC ZO od _ rfl rfl hod hzoh _ HZO.out ?_)
        | fail)
      go_ret
      exact ⟨by simp_all [rightM], HX0.out⟩
  · rcases hk with hk0 | hk0
    · rcases hm with hm0 | hm0
      · skip
        go_enter Try.func9, Try.ntmps9
        go_wp2_with (first
          | (refine wpList_load_agg _ rfl 50 (.tmp 5) rfl _ rfl OC _ Try.underlying50 rfl (op_size HOL.out) hco ?_)
          | (refine wpList_build (.inl rfl) 50 _ rfl (.agg zop.toArray) (by kernel_rfl) ?_; rw [← HZOE.out])
          | (refine wpList_eqTy (.inl rfl) WishT18 50 _ (.tmp 6) (.tmp 7) rfl wish_fits deep_wish guard_wish val_wish OC ZO od _ rfl rfl hod hzoh _ HZO.out ?_)
          | (refine wpList_loadG (.inr (by kernel_rfl)) 55 (.tmp 28) rfl _ rfl C _ Try.underlying55 rfl (szLamp HCL.out) hcs ?_)
          | (refine wpList_build (.inr (by kernel_rfl)) 58 _ rfl (.agg (sigC zC 0 (.slice none 0 0)).toArray) (by kernel_rfl) ?_; rw [← HZRE.out])
          | (refine wpList_field (.inr (by kernel_rfl)) 58 (.tmp 30) 0 rfl 0 1024 ZR ZC ring_field rfl hzrt ?_)
          | (refine wpList_eqTy (.inr (by kernel_rfl)) SigT 55 _ (.tmp 29) (.tmp 31) rfl sig_fits deep_sig guard_sig val_sig C ZC sg _ rfl rfl hsg hzsh _ HZS.out ?_)
          | fail)
        go_ret
        exact ⟨by simp_all [rightM], HX0.out⟩
      · skip
        go_enter Try.func9, Try.ntmps9
        go_wp2_with (first
          | (refine wpList_load_agg _ rfl 50 (.tmp 5) rfl _ rfl OC _ Try.underlying50 rfl (op_size HOL.out) hco ?_)
          | (refine wpList_build (.inl rfl) 50 _ rfl (.agg zop.toArray) (by kernel_rfl) ?_; rw [← HZOE.out])
          | (refine wpList_eqTy (.inl rfl) WishT18 50 _ (.tmp 6) (.tmp 7) rfl wish_fits deep_wish guard_wish val_wish OC ZO od _ rfl rfl hod hzoh _ HZO.out ?_)
          | fail)
        go_ret
        exact ⟨by simp_all [rightM], HX0.out⟩
    · skip
      go_enter Try.func9, Try.ntmps9
      go_wp2_with (first
        | (refine wpList_load_agg _ rfl 50 (.tmp 5) rfl _ rfl OC _ Try.underlying50 rfl (op_size HOL.out) hco ?_)
        | (refine wpList_build (.inl rfl) 50 _ rfl (.agg zop.toArray) (by kernel_rfl) ?_; rw [← HZOE.out])
        | (refine wpList_eqTy (.inl rfl) WishT18 50 _ (.tmp 6) (.tmp 7) rfl wish_fits deep_wish guard_wish val_wish OC ZO od _ rfl rfl hod hzoh _ HZO.out ?_)
        | fail)
      go_ret
      exact ⟨by simp_all [rightM], HX0.out⟩
end Go.Proofs.Ytemladlnpaaefaa
