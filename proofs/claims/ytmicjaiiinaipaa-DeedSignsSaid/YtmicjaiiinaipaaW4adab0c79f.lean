/- Walks and plain laws, put together in build order. Conditions: what each of them names. -/
import Derived.Test.YtmicjaiiinaipaaW7946b64589
set_option linter.unusedVariables false
set_option linter.unusedSimpArgs false
set_option linter.unnecessarySimpa false
namespace Go.Proofs.Ytmicjaiiinaipaa
section
open Go.RowKit

def chunks : Nat → List UInt8 → List (List UInt8)
  | 0, _ => []
  | n + 1, B => B.take 16 :: chunks n (B.drop 16)
theorem chunks_length : ∀ n B, (chunks n B).length = n
  | 0, _ => rfl
  | n + 1, B => by rw [chunks, List.length_cons, chunks_length]
theorem chunks_holds {w : World} {F : Fp} : ∀ (n : Nat) (B : List UInt8), B.length = 16 * n → AllH (PieceT.holds w F) (bv B) (chunks n B)
  | 0, B, h => by
    obtain rfl : B = [] := List.eq_nil_of_length_eq_zero (by omega)
    rfl
  | n + 1, B, h => by
    refine ⟨bv (B.take 16), bv (B.drop 16), by rw [← bv_append, List.take_append_drop], ⟨by show (B.take 16).length = 16; rw [List.length_take]; omega, AllH.bytes.2 rfl⟩, chunks_holds n (B.drop 16) (by rw [List.length_drop]; omega)⟩
theorem sig_holds (S : List UInt8) (hS : S.length = 1024) (w : World) (F : Fp) : SigT.holds w F (bv S) (chunks 32 (S.take 512), chunks 32 (S.drop 512), ()) := by
  refine ⟨bv (S.take 512), bv (S.drop 512), by rw [← bv_append, List.take_append_drop], ⟨chunks_length _ _, chunks_holds 32 _ (by rw [List.length_take]; omega)⟩, bv (S.drop 512), [], by rw [List.append_nil], ⟨chunks_length _ _, chunks_holds 32 _ (by rw [List.length_drop]; omega)⟩, rfl⟩
theorem rsig_fits : (SigT.eqFits Try.prog).1 84 = true := by kernel_rfl
theorem rsig_same (S : List UInt8) (hS : S.length = 1024) : (∀ (x y : Operand) (w : World), (eqGuard .eql 84 x y (.agg (bv S).toArray) (.agg (bv S).toArray)).run Try.prog w = .ok () w) ∧ ∀ w, (binOp .eql 84 (.agg (bv S).toArray) (.agg (bv S).toArray)).run Try.prog w = .ok (.bool true) w :=
  ⟨fun x y w => run_eqGuard w .eql 84 x y _ _ (.inl rfl) (by kernel_rfl), fun w => by
    obtain ⟨sg, hsg⟩ : ∃ sg : SigT.Data, ∀ (w : World) (F : Fp), SigT.holds w F (bv S) sg := ⟨_, fun w F => sig_holds S hS w F⟩
    have h := run_eqTy (P := Try.prog) SigT 84 rsig_fits (by decide) w w w (fun _ => False) (fun _ => False) (bv S) (bv S) sg sg (hsg w _) (hsg w _) (fun _ => rfl)
    have e : SigT.eqv sg sg = true := (Ty.eqv_iff SigT rfl sg sg).2 rfl
    rw [e] at h
    exact h⟩
end
section
open Go.RowKit
theorem szLampR {n : Nat} (h : n = 1024) : (Try.prog.info? 84).map (·.size) = some n := by subst h; kernel_rfl
theorem deep_sig : SigT.deep ≤ 10000 := by decide
theorem guardR_sig : Try.prog.eqGuardType Try.prog.depth 84 = false := by kernel_rfl
theorem val_sig (cs : List Value) : SigT.val cs = .agg cs.toArray := rfl
theorem szDigR {n : Nat} (h : n = 32) : (Try.prog.info? 28).map (·.size) = some n := by subst h; kernel_rfl
theorem szSigR {n : Nat} (h : n = 1026) : (Try.prog.info? 87).map (·.size) = some n := by subst h; kernel_rfl
set_option maxRecDepth 100000 in
set_option maxHeartbeats 8000000 in
theorem RSame05 (C : List Value) (key : Nat) (u v : Value) (ds : List Dg) (sg : SigT.Data) (w : World) (F : Fp) {W1 : World} {F1 : Fp} (hC : C.length = 1024) (hsg : SigT.holds W1 F1 C sg) (hc : Ways w F u ds) (hd : Ways w F v ds) (hF : ∀ b, F b → b < w.heap.size) :
    Calls Try.prog 20 #[.agg (sigC C key u).toArray, .agg (sigC C key v).toArray] w fun e w' => e = .returned (.bool true) ∧ Ext w w' := by
  obtain ⟨A, c, xs, rfl, hlc, hcm, hA, hcell, hall⟩ := ways_open hc
  obtain ⟨B, d', ys, rfl, hld, hdm, hB, hcel2, hal2⟩ := ways_open hd
  clear hc hd
  unfold maxLen at hcm hdm
  have hgt : Try.prog.eqGuardType Try.prog.depth 28 = false := by kernel_rfl
  have t1 := sigC_take hC key (.slice A (List.length (α := Dg) ds) c)
  have t2 := sigC_take hC key (.slice B (List.length (α := Dg) ds) d')
  have y1 := sigC_key hC key (.slice A (List.length (α := Dg) ds) c)
  have y2 := sigC_key hC key (.slice B (List.length (α := Dg) ds) d')
  have z1 := sigC_way hC key (.slice A (List.length (α := Dg) ds) c)
  have z2 := sigC_way hC key (.slice B (List.length (α := Dg) ds) d')
  have HCL := Lib.hid hC
  have HZS := Lib.hid (show (!SigT.eqv sg sg) = false by rw [(Ty.eqv_iff SigT (by decide) sg sg).2 rfl]; rfl)
  generalize sigC C key (.slice A (List.length (α := Dg) ds) c) = I1 at *
  generalize sigC C key (.slice B (List.length (α := Dg) ds) d') = I2 at *
  have hba : Blk ((w.alloc (.cells I1.toArray 87)).alloc (.cells I2.toArray 87)) w.heap.size 87 I1 := (Blk.new _ _ _).keep ((Ext.refl _).alloc _) (by simp)
  have hbb : Blk ((w.alloc (.cells I1.toArray 87)).alloc (.cells I2.toArray 87)) (w.heap.size + 1) 87 I2 := Blk.fresh (by simp) _ _
  have hx0 : Ext w ((w.alloc (.cells I1.toArray 87)).alloc (.cells I2.toArray 87)) := ((Ext.refl w).alloc _).alloc _
  have hcs : Cells ((w.alloc (.cells I1.toArray 87)).alloc (.cells I2.toArray 87)) ⟨w.heap.size, 0, none⟩ C := by have h := hba.cells.take 1024; rw [t1] at h; exact h
  have hct : Cells ((w.alloc (.cells I1.toArray 87)).alloc (.cells I2.toArray 87)) ⟨w.heap.size + 1, 0, none⟩ C := by have h := hbb.cells.take 1024; rw [t2] at h; exact h
  have ck1 := (hba.cell 1024).trans y1
  have ck2 := (hbb.cell 1024).trans y2
  have cw1 := (hba.cell 1025).trans z1
  have cw2 := (hbb.cell 1025).trans z2
  have hx9 : Ext ((w.alloc (.cells I1.toArray 87)).alloc (.cells I2.toArray 87)) ((w.alloc (.cells I1.toArray 87)).alloc (.cells I2.toArray 87)) := Ext.refl _
  have hkk : ((key : Int) != (key : Int)) = false := bne_self_eq_false _
  have hnn : ((List.length (α := Dg) ds : Int) != (List.length (α := Dg) ds : Int)) = false := bne_self_eq_false _
  have HX0 := Lib.hid hx0
  have HX9 := Lib.hid hx9
  have HBA := Lib.hid hba
  have HBB := Lib.hid hbb
  have HW1 := Lib.hid z1
  have HW2 := Lib.hid z2
  clear hx0 hx9 hba hbb z1 z2 y1 y2 t1 t2 hC
  go_enter Try.func20, Try.ntmps20
  go_wp2_with (first
    | (refine wpList_loadG (.inl rfl) 84 (.tmp 6) rfl _ rfl C _ Try.underlying84 rfl (szLampR HCL.out) hcs ?_)
    | (refine wpList_loadG (.inl rfl) 84 (.tmp 8) rfl _ rfl C _ Try.underlying84 rfl (szLampR HCL.out) hct ?_)
    | (refine wpList_neTy (.inl rfl) SigT 84 _ (.tmp 7) (.tmp 9) rfl rsig_fits deep_sig guardR_sig val_sig C C sg sg rfl rfl hsg hsg _ HZS.out ?_)
    | fail)
  go_loopw [5] (fun i wr => ∃ k : Nat, k ≤ List.length (α := Dg) ds ∧ i = .int .i64 k ∧ Ext ((w.alloc (.cells I1.toArray 87)).alloc (.cells I2.toArray 87)) wr) (fun i _ => List.length (α := Dg) ds - (intOf i).toNat)
  case atStart => exact ⟨0, by omega, rfl, HX9.out⟩
  case round =>
    obtain ⟨k, hk, rfl, hx⟩ := hrel
    have ca0 := ((HBA.out.keep hx (by simp)).cell 1025)
    have cb0 := ((HBB.out.keep hx (by simp)).cell 1025)
    have ca : wr.cell? ⟨w.heap.size, 1025, none⟩ = some (.slice A (List.length (α := Dg) ds) c) := ca0.trans HW1.out
    have cb : wr.cell? ⟨w.heap.size + 1, 1025, none⟩ = some (.slice B (List.length (α := Dg) ds) d') := cb0.trans HW2.out
    clear ca0 cb0
    by_cases hlt : k < List.length (α := Dg) ds
    · obtain ⟨ad, rfl, hf, hcells⟩ := hcell (by omega)
      obtain ⟨bd, rfl, hf2, hcells2⟩ := hcel2 (by omega)
      have hxw := HX0.out.trans hx
      obtain ⟨hc1, hok1⟩ := digs_at hall (hcells.keep (hxw.same hF _ hf)) hlt
      obtain ⟨hc2, hok2⟩ := digs_at hal2 (hcells2.keep (hxw.same hF _ hf2)) hlt
      generalize hg1 : ds[k] = d at *
      have HH1 := Lib.hid ((digT_iff (w := w) (F := F)).2 ⟨rfl, hok1⟩)
      have hl1 : (bv d).length = 32 := by simp [hok1]
      have HEQ := Lib.hid (show (!DigT.eqv d d) = false by rw [(Ty.eqv_iff DigT (by decide) d d).2 rfl]; rfl)
      have HL1 := Lib.hid hl1
      clear hl1 hok1 hok2
      generalize bv d = C1 at *
      have hc1 : Cells wr.drew (ad.add (k * 32)) C1 := hc1
      have hc2 : Cells wr.drew (bd.add (k * 32)) C1 := hc2
      have ca : wr.drew.cell? ⟨w.heap.size, 1025, none⟩ = some (.slice (some ad) (List.length (α := Dg) ds) c) := ca
      have cb : wr.drew.cell? ⟨w.heap.size + 1, 1025, none⟩ = some (.slice (some bd) (List.length (α := Dg) ds) d') := cb
      have HCA := Lib.hid hc1
      have HCB := Lib.hid hc2
      have HX := Lib.hid hx.drew
      have k0 : (0 : Int) ≤ (k : Int) := by omega
      have k1 : (k : Int) < (List.length (α := Dg) ds : Int) := by omega
      clear hc1 hc2 hx hg1 hcells hcells2 hxw
      go_wp2
      refine startM Since (by kernel_rfl) ?_
      refine takeE 0 rfl (by kernel_rfl) (by kernel_rfl) (by kernel_rfl) rfl (fun _ _ _ _ h => h) rfl (fun K hK => ?_)
      go_big_quiet_op
      first | refine hK _ ?_ | refine ⟨_, fun _ _ => rfl, hK _ ?_⟩
      clear hK K
      refine takeE 1 rfl (by kernel_rfl) (by kernel_rfl) (by kernel_rfl) rfl (fun _ _ _ _ h => h) rfl (fun K hK => ?_)
      refine quiet_cell _ _ rfl _ rfl _ _ Try.underlying85 rfl (fun W' h => World.grownBy.cell h.ext ca (by simp)) ?_
      refine hK _ ?_
      simp only [Act.put, List.setIfInBounds_toArray, List.set_cons_succ, List.set_cons_zero]
      clear hK K
      refine takeE 2 rfl (by kernel_rfl) (by kernel_rfl) (by kernel_rfl) rfl (fun _ _ _ _ h => h) rfl (fun K hK => ?_)
      go_big_quiet_op
      first | refine hK _ ?_ | refine ⟨_, fun _ _ => rfl, hK _ ?_⟩
      clear hK K
      refine takeE 3 rfl (by kernel_rfl) (by kernel_rfl) (by kernel_rfl) rfl (fun _ _ _ _ h => h) rfl (fun K hK => ?_)
      go_big_quiet_op
      first | refine hK _ ?_ | refine ⟨_, fun _ _ => rfl, hK _ ?_⟩
      clear hK K
      refine takeE 4 rfl (by kernel_rfl) (by kernel_rfl) (by kernel_rfl) rfl (fun _ _ _ _ h => h) rfl (fun K hK => ?_)
      refine quiet_agg 28 (.tmp 37) rfl _ rfl C1 _ Try.underlying28 rfl (szDigR HL1.out) (fun W' h => HCA.out.keep (h.ext.block _ (HCA.out.lt (by intro e; have := HL1.out; rw [e] at this; simp at this)) (by simp))) ?_
      refine hK _ ?_
      simp only [Act.put, List.setIfInBounds_toArray, List.set_cons_succ, List.set_cons_zero]
      clear hK K
      refine takeE 5 rfl (by kernel_rfl) (by kernel_rfl) (by kernel_rfl) rfl (fun _ _ _ _ h => h) rfl (fun K hK => ?_)
      go_big_quiet_op
      first | refine hK _ ?_ | refine ⟨_, fun _ _ => rfl, hK _ ?_⟩
      clear hK K
      refine takeE 6 rfl (by kernel_rfl) (by kernel_rfl) (by kernel_rfl) rfl (fun _ _ _ _ h => h) rfl (fun K hK => ?_)
      refine quiet_cell _ _ rfl _ rfl _ _ Try.underlying85 rfl (fun W' h => World.grownBy.cell h.ext cb (by simp)) ?_
      refine hK _ ?_
      simp only [Act.put, List.setIfInBounds_toArray, List.set_cons_succ, List.set_cons_zero]
      clear hK K
      refine takeE 7 rfl (by kernel_rfl) (by kernel_rfl) (by kernel_rfl) rfl (fun _ _ _ _ h => h) rfl (fun K hK => ?_)
      go_big_quiet_op
      first | refine hK _ ?_ | refine ⟨_, fun _ _ => rfl, hK _ ?_⟩
      clear hK K
      refine takeE 8 rfl (by kernel_rfl) (by kernel_rfl) (by kernel_rfl) rfl (fun _ _ _ _ h => h) rfl (fun K hK => ?_)
      go_big_quiet_op
      first | refine hK _ ?_ | refine ⟨_, fun _ _ => rfl, hK _ ?_⟩
      clear hK K
      refine takeE 9 rfl (by kernel_rfl) (by kernel_rfl) (by kernel_rfl) rfl (fun _ _ _ _ h => h) rfl (fun K hK => ?_)
      refine quiet_agg 28 (.tmp 42) rfl _ rfl C1 _ Try.underlying28 rfl (szDigR HL1.out) (fun W' h => HCB.out.keep (h.ext.block _ (HCB.out.lt (by intro e; have := HL1.out; rw [e] at this; simp at this)) (by simp))) ?_
      refine hK _ ?_
      simp only [Act.put, List.setIfInBounds_toArray, List.set_cons_succ, List.set_cons_zero]
      clear hK K
      refine takeE 10 rfl (by kernel_rfl) (by kernel_rfl) (by kernel_rfl) rfl (fun _ _ _ _ h => h) rfl (fun K hK => ?_)
      refine quiet_neTy DigT 28 _ (.tmp 38) (.tmp 43) rfl (by kernel_rfl) (by decide) hgt (fun _ => rfl) (W1 := w) (W2 := w) (F1 := F) (F2 := F) C1 C1 d d rfl rfl HH1.out HH1.out ?_
      rw [HEQ.out]
      refine hK _ ?_
      simp only [Act.put, List.setIfInBounds_toArray, List.set_cons_succ, List.set_cons_zero]
      clear hK K
      refine doneM (by kernel_rfl) ?_ _
      go_wp2
      go_roundw
      case rel => exact ⟨k + 1, by omega, by go_num, HX.out⟩
      case measure => simp [intOf]; omega
    · obtain rfl : k = List.length (α := Dg) ds := by omega
      go_wp2
      go_ret
      exact ⟨rfl, HX0.out.trans hx⟩
end
end Go.Proofs.Ytmicjaiiinaipaa
