/- The walk of the document's Right of layer 18, all but kind 1. Conditions: the parts have their sizes. -/
import Derived.Test.YtemladlnpaaefaaRightX
set_option linter.unusedVariables false
set_option linter.unusedSimpArgs false
set_option linter.unnecessarySimpa false
namespace Go.Proofs.Ytemladlnpaaefaa
open Go.RowKit

theorem szOpR {n : Nat} (h : n = 39) : (Try.prog.info? 28).map (·.size) = some n := by subst h; kernel_rfl
theorem szLampR {n : Nat} (h : n = 1024) : (Try.prog.info? 34).map (·.size) = some n := by subst h; kernel_rfl
theorem sigR_fits : (SigT.eqFits Try.prog).1 34 = true := by kernel_rfl
theorem wishR_fits : (WishT18.eqFits Try.prog).1 28 = true := by kernel_rfl
theorem guardR_sig : Try.prog.eqGuardType Try.prog.depth 34 = false := by kernel_rfl
theorem guardR_wish : Try.prog.eqGuardType Try.prog.depth 28 = false := by kernel_rfl
set_option maxRecDepth 100000 in
set_option maxHeartbeats 16000000 in
theorem RRightX (M OC C : List Value) (kind : Int) (rd : Nat) (A : Option Addr) (n c : Nat) (key : Nat) (B : Option Addr) (m d : Nat) (ok sd : Int) (od : WishT18.Data) (sg : SigT.Data) (w : World) {W1 W2 : World} {F1 F2 : Fp} (hin : RightIn M OC C kind rd A n c key B m d ok sd) (hod : WishT18.holds W1 F1 OC od) (hsg : SigT.holds W2 F2 C sg) (hnl : n ≤ 140737488355328) (hml : m ≤ 140737488355328) (hk0' : kind ≠ 0) (hk1' : kind ≠ 1) (hk2' : kind ≠ 2) :
    Calls Try.prog 11 #[.agg M.toArray] w fun e w' => e = .returned (.bool (rightM kind rd (WishT18.eqv od (0, 0, (0, 0, 0, List.replicate 32 0, 0, ()), 0, ())) (SigT.eqv sg (zPieces, zPieces, ())) n key m ok sd)) ∧ Ext w w' := by
  obtain ⟨zo, hzo⟩ : ∃ zo, zo = WishT18.eqv od (0, 0, (0, 0, 0, List.replicate 32 0, 0, ()), 0, ()) := ⟨_, rfl⟩
  obtain ⟨zs, hzs⟩ : ∃ zs, zs = SigT.eqv sg (zPieces, zPieces, ()) := ⟨_, rfl⟩
  rw [← hzo, ← hzs]
  have HZO := Lib.hid hzo.symm
  have HZS := Lib.hid hzs.symm
  obtain ⟨ZO, hzoe⟩ : ∃ Z, Z = zop := ⟨_, rfl⟩
  obtain ⟨ZC, hzce⟩ : ∃ Z, Z = zC := ⟨_, rfl⟩
  have hzoh : WishT18.holds w (fun _ => False) ZO (0, 0, (0, 0, 0, List.replicate 32 0, 0, ()), 0, ()) := by rw [hzoe]; exact zOp_holds _ _
  have hzsh : SigT.holds w (fun _ => False) ZC (zPieces, zPieces, ()) := by rw [hzce]; exact zSig_holds _ _
  have HZOE := Lib.hid hzoe
  have HZCE := Lib.hid hzce
  clear hzoe hzce
  have HML := Lib.hid hin.ml
  have HOL := Lib.hid hin.ol
  have HCL := Lib.hid hin.cl
  have hb0 : Blk (w.alloc (.cells M.toArray 39)) w.heap.size 39 M := Blk.new _ _ _
  have hx0 : Ext w (w.alloc (.cells M.toArray 39)) := (Ext.refl w).alloc _
  have c0 := (hb0.cell 0).trans hin.m0
  have c2 := (hb0.cell 2).trans hin.m2
  have c3 := (hb0.cell 3).trans hin.m3
  have c6 := (hb0.cell 6).trans hin.m6
  have c42 := (hb0.cell 42).trans hin.mt
  have c1067 := (hb0.cell 1067).trans hin.mkey
  have c1068 := (hb0.cell 1068).trans hin.mw
  have hco : Cells (w.alloc (.cells M.toArray 39)) ⟨w.heap.size, 3, none⟩ OC := by have h := (hb0.cells.drop 3).take 39; rw [hin.mo, addr_at] at h; exact h
  have hcs : Cells (w.alloc (.cells M.toArray 39)) ⟨w.heap.size, 43, none⟩ C := by have h := (hb0.cells.drop 43).take 1024; rw [hin.ms, addr_at] at h; exact h
  have HX0 := Lib.hid hx0
  clear hin hb0 hx0 hzo hzs
  have kb0 : (kind == 0) = false := by simpa using hk0'
  have kb1 : (kind == 1) = false := by simpa using hk1'
  have kb2 : (kind == 2) = false := by simpa using hk2'
  cases zo
  · skip
    go_enter Try.func11, Try.ntmps11
    go_wp2_with (first
      | (refine wpList_skipL [9, 10, 11, 12] rfl (by kernel_rfl) ?_; (try simp only [Act.put, List.setIfInBounds_toArray, List.set_cons_succ, List.set_cons_zero]))
      | (refine wpList_load_agg _ rfl 28 (.tmp 4) rfl _ rfl OC _ Try.underlying28 rfl (szOpR HOL.out) hco ?_)
      | (refine wpList_build (.inl rfl) 28 _ rfl (.agg zop.toArray) (by kernel_rfl) ?_; rw [← HZOE.out])
      | (refine wpList_eqTy (.inl rfl) WishT18 28 _ (.tmp 5) (.tmp 6) rfl wishR_fits deep_wish guardR_wish val_wish OC ZO od _ rfl rfl hod hzoh _ HZO.out ?_)
      | fail)
    go_ret
    exact ⟨by simp_all [rightM], HX0.out⟩
  · skip
    go_enter Try.func11, Try.ntmps11
    go_wp2_with (first
      | (refine wpList_load_agg _ rfl 28 (.tmp 4) rfl _ rfl OC _ Try.underlying28 rfl (szOpR HOL.out) hco ?_)
      | (refine wpList_build (.inl rfl) 28 _ rfl (.agg zop.toArray) (by kernel_rfl) ?_; rw [← HZOE.out])
      | (refine wpList_eqTy (.inl rfl) WishT18 28 _ (.tmp 5) (.tmp 6) rfl wishR_fits deep_wish guardR_wish val_wish OC ZO od _ rfl rfl hod hzoh _ HZO.out ?_)
      | fail)
    go_ret
    exact ⟨by simp_all [rightM], HX0.out⟩
set_option maxRecDepth 100000 in
set_option maxHeartbeats 16000000 in
theorem RRight2 (M OC C : List Value) (kind : Int) (rd : Nat) (A : Option Addr) (n c : Nat) (key : Nat) (B : Option Addr) (m d : Nat) (ok sd : Int) (od : WishT18.Data) (sg : SigT.Data) (w : World) {W1 W2 : World} {F1 F2 : Fp} (hin : RightIn M OC C kind rd A n c key B m d ok sd) (hod : WishT18.holds W1 F1 OC od) (hsg : SigT.holds W2 F2 C sg) (hnl : n ≤ 140737488355328) (hml : m ≤ 140737488355328) (hkd : kind = 2) :
    Calls Try.prog 11 #[.agg M.toArray] w fun e w' => e = .returned (.bool (rightM kind rd (WishT18.eqv od (0, 0, (0, 0, 0, List.replicate 32 0, 0, ()), 0, ())) (SigT.eqv sg (zPieces, zPieces, ())) n key m ok sd)) ∧ Ext w w' := by
  obtain ⟨zo, hzo⟩ : ∃ zo, zo = WishT18.eqv od (0, 0, (0, 0, 0, List.replicate 32 0, 0, ()), 0, ()) := ⟨_, rfl⟩
  obtain ⟨zs, hzs⟩ : ∃ zs, zs = SigT.eqv sg (zPieces, zPieces, ()) := ⟨_, rfl⟩
  rw [← hzo, ← hzs]
  have HZO := Lib.hid hzo.symm
  have HZS := Lib.hid hzs.symm
  obtain ⟨ZO, hzoe⟩ : ∃ Z, Z = zop := ⟨_, rfl⟩
  obtain ⟨ZC, hzce⟩ : ∃ Z, Z = zC := ⟨_, rfl⟩
  have hzoh : WishT18.holds w (fun _ => False) ZO (0, 0, (0, 0, 0, List.replicate 32 0, 0, ()), 0, ()) := by rw [hzoe]; exact zOp_holds _ _
  have hzsh : SigT.holds w (fun _ => False) ZC (zPieces, zPieces, ()) := by rw [hzce]; exact zSig_holds _ _
  have HZOE := Lib.hid hzoe
  have HZCE := Lib.hid hzce
  clear hzoe hzce
  have HML := Lib.hid hin.ml
  have HOL := Lib.hid hin.ol
  have HCL := Lib.hid hin.cl
  have hb0 : Blk (w.alloc (.cells M.toArray 39)) w.heap.size 39 M := Blk.new _ _ _
  have hx0 : Ext w (w.alloc (.cells M.toArray 39)) := (Ext.refl w).alloc _
  have c0 := (hb0.cell 0).trans hin.m0
  have c2 := (hb0.cell 2).trans hin.m2
  have c3 := (hb0.cell 3).trans hin.m3
  have c6 := (hb0.cell 6).trans hin.m6
  have c42 := (hb0.cell 42).trans hin.mt
  have c1067 := (hb0.cell 1067).trans hin.mkey
  have c1068 := (hb0.cell 1068).trans hin.mw
  have hco : Cells (w.alloc (.cells M.toArray 39)) ⟨w.heap.size, 3, none⟩ OC := by have h := (hb0.cells.drop 3).take 39; rw [hin.mo, addr_at] at h; exact h
  have hcs : Cells (w.alloc (.cells M.toArray 39)) ⟨w.heap.size, 43, none⟩ C := by have h := (hb0.cells.drop 43).take 1024; rw [hin.ms, addr_at] at h; exact h
  have HX0 := Lib.hid hx0
  clear hin hb0 hx0 hzo hzs
  subst hkd
  have hn : ((n : Int) == 0) = true ∨ ((n : Int) == 0) = false := by cases ((n : Int) == 0) <;> simp
  cases zo
  · skip
    go_enter Try.func11, Try.ntmps11
    go_wp2_with (first
      | (refine wpList_skipL [9, 10, 11, 12, 87, 88, 89, 90, 91] rfl (by kernel_rfl) ?_; (try simp only [Act.put, List.setIfInBounds_toArray, List.set_cons_succ, List.set_cons_zero]))
      | (refine wpList_load_agg _ rfl 28 (.tmp 4) rfl _ rfl OC _ Try.underlying28 rfl (szOpR HOL.out) hco ?_)
      | (refine wpList_build (.inl rfl) 28 _ rfl (.agg zop.toArray) (by kernel_rfl) ?_; rw [← HZOE.out])
      | (refine wpList_eqTy (.inl rfl) WishT18 28 _ (.tmp 5) (.tmp 6) rfl wishR_fits deep_wish guardR_wish val_wish OC ZO od _ rfl rfl hod hzoh _ HZO.out ?_)
      | fail)
    go_ret
    exact ⟨by simp_all [rightM], HX0.out⟩
  · rcases hn with hn0 | hn0
    · skip
      go_enter Try.func11, Try.ntmps11
      go_wp2_with (first
        | (refine wpList_load_agg _ rfl 28 (.tmp 4) rfl _ rfl OC _ Try.underlying28 rfl (szOpR HOL.out) hco ?_)
        | (refine wpList_build (.inl rfl) 28 _ rfl (.agg zop.toArray) (by kernel_rfl) ?_; rw [← HZOE.out])
        | (refine wpList_eqTy (.inl rfl) WishT18 28 _ (.tmp 5) (.tmp 6) rfl wishR_fits deep_wish guardR_wish val_wish OC ZO od _ rfl rfl hod hzoh _ HZO.out ?_)
        | fail)
      go_ret
      exact ⟨by simp_all [rightM], HX0.out⟩
    · skip
      go_enter Try.func11, Try.ntmps11
      go_wp2_with (first
        | (refine wpList_skipL [87, 88, 89, 90, 91] rfl (by kernel_rfl) ?_; (try simp only [Act.put, List.setIfInBounds_toArray, List.set_cons_succ, List.set_cons_zero]))
        | (refine wpList_load_agg _ rfl 28 (.tmp 4) rfl _ rfl OC _ Try.underlying28 rfl (szOpR HOL.out) hco ?_)
        | (refine wpList_build (.inl rfl) 28 _ rfl (.agg zop.toArray) (by kernel_rfl) ?_; rw [← HZOE.out])
        | (refine wpList_eqTy (.inl rfl) WishT18 28 _ (.tmp 5) (.tmp 6) rfl wishR_fits deep_wish guardR_wish val_wish OC ZO od _ rfl rfl hod hzoh _ HZO.out ?_)
        | fail)
      go_ret
      exact ⟨by simp_all [rightM], HX0.out⟩
set_option maxRecDepth 100000 in
set_option maxHeartbeats 16000000 in
theorem RRight0 (M OC C : List Value) (kind : Int) (rd : Nat) (A : Option Addr) (n c : Nat) (key : Nat) (B : Option Addr) (m d : Nat) (ok sd : Int) (od : WishT18.Data) (sg : SigT.Data) (w : World) {W1 W2 : World} {F1 F2 : Fp} (hin : RightIn M OC C kind rd A n c key B m d ok sd) (hod : WishT18.holds W1 F1 OC od) (hsg : SigT.holds W2 F2 C sg) (hnl : n ≤ 140737488355328) (hml : m ≤ 140737488355328) (hkd : kind = 0) :
    Calls Try.prog 11 #[.agg M.toArray] w fun e w' => e = .returned (.bool (rightM kind rd (WishT18.eqv od (0, 0, (0, 0, 0, List.replicate 32 0, 0, ()), 0, ())) (SigT.eqv sg (zPieces, zPieces, ())) n key m ok sd)) ∧ Ext w w' := by
  obtain ⟨zo, hzo⟩ : ∃ zo, zo = WishT18.eqv od (0, 0, (0, 0, 0, List.replicate 32 0, 0, ()), 0, ()) := ⟨_, rfl⟩
  obtain ⟨zs, hzs⟩ : ∃ zs, zs = SigT.eqv sg (zPieces, zPieces, ()) := ⟨_, rfl⟩
  rw [← hzo, ← hzs]
  have HZO := Lib.hid hzo.symm
  have HZS := Lib.hid hzs.symm
  obtain ⟨ZO, hzoe⟩ : ∃ Z, Z = zop := ⟨_, rfl⟩
  obtain ⟨ZC, hzce⟩ : ∃ Z, Z = zC := ⟨_, rfl⟩
  have hzoh : WishT18.holds w (fun _ => False) ZO (0, 0, (0, 0, 0, List.replicate 32 0, 0, ()), 0, ()) := by rw [hzoe]; exact zOp_holds _ _
  have hzsh : SigT.holds w (fun _ => False) ZC (zPieces, zPieces, ()) := by rw [hzce]; exact zSig_holds _ _
  have HZOE := Lib.hid hzoe
  have HZCE := Lib.hid hzce
  clear hzoe hzce
  have HML := Lib.hid hin.ml
  have HOL := Lib.hid hin.ol
  have HCL := Lib.hid hin.cl
  have hb0 : Blk (w.alloc (.cells M.toArray 39)) w.heap.size 39 M := Blk.new _ _ _
  have hx0 : Ext w (w.alloc (.cells M.toArray 39)) := (Ext.refl w).alloc _
  have c0 := (hb0.cell 0).trans hin.m0
  have c2 := (hb0.cell 2).trans hin.m2
  have c3 := (hb0.cell 3).trans hin.m3
  have c6 := (hb0.cell 6).trans hin.m6
  have c42 := (hb0.cell 42).trans hin.mt
  have c1067 := (hb0.cell 1067).trans hin.mkey
  have c1068 := (hb0.cell 1068).trans hin.mw
  have hco : Cells (w.alloc (.cells M.toArray 39)) ⟨w.heap.size, 3, none⟩ OC := by have h := (hb0.cells.drop 3).take 39; rw [hin.mo, addr_at] at h; exact h
  have hcs : Cells (w.alloc (.cells M.toArray 39)) ⟨w.heap.size, 43, none⟩ C := by have h := (hb0.cells.drop 43).take 1024; rw [hin.ms, addr_at] at h; exact h
  have HX0 := Lib.hid hx0
  clear hin hb0 hx0 hzo hzs
  subst hkd
  have hk : ((key : Int) == 0) = true ∨ ((key : Int) == 0) = false := by cases ((key : Int) == 0) <;> simp
  have hn : ((n : Int) == 0) = true ∨ ((n : Int) == 0) = false := by cases ((n : Int) == 0) <;> simp
  have hr : ((rd : Int) == 0) = true ∨ ((rd : Int) == 0) = false := by cases ((rd : Int) == 0) <;> simp
  cases zo
  · skip
    go_enter Try.func11, Try.ntmps11
    go_wp2_with (first
      | (refine wpList_skipL [9, 10, 11, 12, 20, 21, 22, 25, 26, 27, 28, 29, 32, 33, 34, 35, 38, 39, 40, 41, 42] rfl (by kernel_rfl) ?_; (try simp only [Act.put, List.setIfInBounds_toArray, List.set_cons_succ, List.set_cons_zero]))
      | (refine wpList_load_agg _ rfl 28 (.tmp 4) rfl _ rfl OC _ Try.underlying28 rfl (szOpR HOL.out) hco ?_)
      | (refine wpList_build (.inl rfl) 28 _ rfl (.agg zop.toArray) (by kernel_rfl) ?_; rw [← HZOE.out])
      | (refine wpList_eqTy (.inl rfl) WishT18 28 _ (.tmp 5) (.tmp 6) rfl wishR_fits deep_wish guardR_wish val_wish OC ZO od _ rfl rfl hod hzoh _ HZO.out ?_)
      | fail)
    go_ret
    exact ⟨by simp_all [rightM], HX0.out⟩
  · rcases hn with hn0 | hn0
    · rcases hr with hr0 | hr0
      · cases zs
        · skip
          go_enter Try.func11, Try.ntmps11
          go_wp2_with (first
            | (refine wpList_skipL [32, 33, 34, 35, 38, 39, 40, 41, 42] rfl (by kernel_rfl) ?_; (try simp only [Act.put, List.setIfInBounds_toArray, List.set_cons_succ, List.set_cons_zero]))
            | (refine wpList_load_agg _ rfl 28 (.tmp 4) rfl _ rfl OC _ Try.underlying28 rfl (szOpR HOL.out) hco ?_)
            | (refine wpList_build (.inl rfl) 28 _ rfl (.agg zop.toArray) (by kernel_rfl) ?_; rw [← HZOE.out])
            | (refine wpList_eqTy (.inl rfl) WishT18 28 _ (.tmp 5) (.tmp 6) rfl wishR_fits deep_wish guardR_wish val_wish OC ZO od _ rfl rfl hod hzoh _ HZO.out ?_)
            | (refine wpList_loadG (.inr (by kernel_rfl)) 34 (.tmp 26) rfl _ rfl C _ Try.underlying34 rfl (szLampR HCL.out) hcs ?_)
            | (refine wpList_build (.inr (by kernel_rfl)) 34 _ rfl (.agg zC.toArray) (by kernel_rfl) ?_; rw [← HZCE.out])
            | (refine wpList_eqTy (.inr (by kernel_rfl)) SigT 34 _ (.tmp 27) (.tmp 28) rfl sigR_fits deep_sig guardR_sig val_sig C ZC sg _ rfl rfl hsg hzsh _ HZS.out ?_)
            | fail)
          go_ret
          exact ⟨by simp_all [rightM], HX0.out⟩
        · rcases hk with hk0 | hk0
          · skip
            go_enter Try.func11, Try.ntmps11
            go_wp2_with (first
              | (refine wpList_load_agg _ rfl 28 (.tmp 4) rfl _ rfl OC _ Try.underlying28 rfl (szOpR HOL.out) hco ?_)
              | (refine wpList_build (.inl rfl) 28 _ rfl (.agg zop.toArray) (by kernel_rfl) ?_; rw [← HZOE.out])
              | (refine wpList_eqTy (.inl rfl) WishT18 28 _ (.tmp 5) (.tmp 6) rfl wishR_fits deep_wish guardR_wish val_wish OC ZO od _ rfl rfl hod hzoh _ HZO.out ?_)
              | (refine wpList_loadG (.inr (by kernel_rfl)) 34 (.tmp 26) rfl _ rfl C _ Try.underlying34 rfl (szLampR HCL.out) hcs ?_)
              | (refine wpList_build (.inr (by kernel_rfl)) 34 _ rfl (.agg zC.toArray) (by kernel_rfl) ?_; rw [← HZCE.out])
              | (refine wpList_eqTy (.inr (by kernel_rfl)) SigT 34 _ (.tmp 27) (.tmp 28) rfl sigR_fits deep_sig guardR_sig val_sig C ZC sg _ rfl rfl hsg hzsh _ HZS.out ?_)
              | fail)
            go_ret
            exact ⟨by simp_all [rightM], HX0.out⟩
          · skip
            go_enter Try.func11, Try.ntmps11
            go_wp2_with (first
              | (refine wpList_skipL [38, 39, 40, 41, 42] rfl (by kernel_rfl) ?_; (try simp only [Act.put, List.setIfInBounds_toArray, List.set_cons_succ, List.set_cons_zero]))
              | (refine wpList_load_agg _ rfl 28 (.tmp 4) rfl _ rfl OC _ Try.underlying28 rfl (szOpR HOL.out) hco ?_)
              | (refine wpList_build (.inl rfl) 28 _ rfl (.agg zop.toArray) (by kernel_rfl) ?_; rw [← HZOE.out])
              | (refine wpList_eqTy (.inl rfl) WishT18 28 _ (.tmp 5) (.tmp 6) rfl wishR_fits deep_wish guardR_wish val_wish OC ZO od _ rfl rfl hod hzoh _ HZO.out ?_)
              | (refine wpList_loadG (.inr (by kernel_rfl)) 34 (.tmp 26) rfl _ rfl C _ Try.underlying34 rfl (szLampR HCL.out) hcs ?_)
              | (refine wpList_build (.inr (by kernel_rfl)) 34 _ rfl (.agg zC.toArray) (by kernel_rfl) ?_; rw [← HZCE.out])
              | (refine wpList_eqTy (.inr (by kernel_rfl)) SigT 34 _ (.tmp 27) (.tmp 28) rfl sigR_fits deep_sig guardR_sig val_sig C ZC sg _ rfl rfl hsg hzsh _ HZS.out ?_)
              | fail)
            go_ret
            exact ⟨by simp_all [rightM], HX0.out⟩
      · skip
        go_enter Try.func11, Try.ntmps11
        go_wp2_with (first
          | (refine wpList_skipL [25, 26, 27, 28, 29, 32, 33, 34, 35, 38, 39, 40, 41, 42] rfl (by kernel_rfl) ?_; (try simp only [Act.put, List.setIfInBounds_toArray, List.set_cons_succ, List.set_cons_zero]))
          | (refine wpList_load_agg _ rfl 28 (.tmp 4) rfl _ rfl OC _ Try.underlying28 rfl (szOpR HOL.out) hco ?_)
          | (refine wpList_build (.inl rfl) 28 _ rfl (.agg zop.toArray) (by kernel_rfl) ?_; rw [← HZOE.out])
          | (refine wpList_eqTy (.inl rfl) WishT18 28 _ (.tmp 5) (.tmp 6) rfl wishR_fits deep_wish guardR_wish val_wish OC ZO od _ rfl rfl hod hzoh _ HZO.out ?_)
          | fail)
        go_ret
        exact ⟨by simp_all [rightM], HX0.out⟩
    · skip
      go_enter Try.func11, Try.ntmps11
      go_wp2_with (first
        | (refine wpList_skipL [20, 21, 22, 25, 26, 27, 28, 29, 32, 33, 34, 35, 38, 39, 40, 41, 42] rfl (by kernel_rfl) ?_; (try simp only [Act.put, List.setIfInBounds_toArray, List.set_cons_succ, List.set_cons_zero]))
        | (refine wpList_load_agg _ rfl 28 (.tmp 4) rfl _ rfl OC _ Try.underlying28 rfl (szOpR HOL.out) hco ?_)
        | (refine wpList_build (.inl rfl) 28 _ rfl (.agg zop.toArray) (by kernel_rfl) ?_; rw [← HZOE.out])
        | (refine wpList_eqTy (.inl rfl) WishT18 28 _ (.tmp 5) (.tmp 6) rfl wishR_fits deep_wish guardR_wish val_wish OC ZO od _ rfl rfl hod hzoh _ HZO.out ?_)
        | fail)
      go_ret
      exact ⟨by simp_all [rightM], HX0.out⟩
end Go.Proofs.Ytemladlnpaaefaa
