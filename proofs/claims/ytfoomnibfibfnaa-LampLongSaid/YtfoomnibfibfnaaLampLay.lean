/- The walk of lamp's Lay: a signature's pieces, pair by pair. Condition: the signature has 1024 bytes. -/
import Derived.Test.YtfoomnibfibfnaaPart
import Derived.Test.YtfoomnibfibfnaaMono
import Derived.Test.YtfoomnibfibfnaaOut
set_option linter.unusedVariables false
set_option linter.unusedSimpArgs false
set_option linter.unnecessarySimpa false
namespace Go.Proofs.Ytfoomnibfibfnaa
open Go.RowKit

/-- The first k pairs of pieces, laid. -/
def layS (BB : List UInt8) : Nat → List UInt8
  | 0 => []
  | k + 1 => layS BB k ++ ((BB.drop (k * 16)).take 16 ++ (BB.drop (512 + k * 16)).take 16)
theorem pieceB_len {BB : List UInt8} (hB : BB.length = 1024) {o : Nat} (ho : o ≤ 1008) : ((BB.drop o).take 16).length = 16 := by
  rw [List.length_take, List.length_drop]; omega
theorem layS_len {BB : List UInt8} (hB : BB.length = 1024) : ∀ k, k ≤ 32 → (layS BB k).length = 32 * k
  | 0, _ => rfl
  | k + 1, h => by
    show (layS BB k ++ ((BB.drop (k * 16)).take 16 ++ (BB.drop (512 + k * 16)).take 16)).length = _
    rw [List.length_append, List.length_append, layS_len hB k (by omega), pieceB_len hB (by omega), pieceB_len hB (by omega)]
    omega
theorem bv_piece (BB : List UInt8) (o : Nat) : ((bv BB).drop o).take 16 = bv ((BB.drop o).take 16) := by
  simp [bv, List.map_drop, List.map_take]
set_option maxRecDepth 100000 in
set_option maxHeartbeats 4000000 in
theorem Lamp_Lay (BB : List UInt8) (v : Value) (bs : List UInt8) (w : World) (hB : BB.length = 1024) (ho : OwnB w v bs) (hb : bs.length + 1024 ≤ 140737488355328) :
    Calls Try.prog 21 #[.agg (bv BB).toArray, v] w fun e w' => ∃ v', e = .returned v' ∧ OwnB w' v' (bs ++ layS BB 32) ∧ Moved w w' v v' := by
  obtain ⟨i0, hi, hz0, hz1, hz2⟩ := info_parts u8_info
  have hlt0 := OwnB.lt ho
  have hb1 : Blk (w.alloc (.cells (bv BB).toArray 43)) w.heap.size 43 (bv BB) := Blk.new _ _ _
  have hx0 : Ext w (w.alloc (.cells (bv BB).toArray 43)) := (Ext.refl w).alloc _
  have ho0 : OwnB (w.alloc (.cells (bv BB).toArray 43)) v bs := ho.ext hx0
  have hm0 : Moved w (w.alloc (.cells (bv BB).toArray 43)) v v := Moved.pre hx0 (Moved.refl _ _)
  have hne0 : ∀ b, v.ownBlock = some b → b ≠ w.heap.size := fun b hb e => by have := hlt0 b hb; omega
  have HBL := Lib.hid hB
  have HB1 := Lib.hid hb1
  have HO0 := Lib.hid ho0
  have HM0 := Lib.hid hm0
  have HNE0 := Lib.hid hne0
  clear ho hb1 hx0 ho0 hm0 hne0 hlt0
  go_enter Try.func21, Try.ntmps21
  go_wp2
  go_loopw [1, 5, 6] (fun u p i wr => ∃ k : Nat, k ≤ 32 ∧ i = .int .i64 k ∧ OwnB wr u (bs ++ layS BB k) ∧ Moved w wr v u ∧ Blk wr w.heap.size 43 (bv BB) ∧ (∀ b, u.ownBlock = some b → b ≠ w.heap.size) ∧ ∃ q, p = q) (fun _ _ i _ => 32 - (intOf i).toNat)
  case atStart => exact ⟨0, by omega, rfl, by simpa [layS] using HO0.out, HM0.out, HB1.out, HNE0.out, _, rfl⟩
  case round =>
    clear HO0 HM0 HB1 HNE0
    obtain ⟨k, hk, rfl, hou, hmu, hbu, hne, q, rfl⟩ := hrel
    by_cases hlt : k < 32
    · have HO := Lib.hid hou
      have HM := Lib.hid hmu
      have HB := Lib.hid hbu
      have HNE := Lib.hid hne
      clear hou hmu hbu hne
      go_wp2
      have hou : OwnB wr.drew u1 (bs ++ layS BB k) := HO.out.ext (Ext.refl _).drew
      have hmu : Moved w wr.drew v u1 := HM.out.post (Ext.refl _).drew
      have hbu : Blk wr.drew w.heap.size 43 (bv BB) := HB.out
      refine startM (KeepB fun b => b = w.heap.size) (by kernel_rfl) ?_
      (try simp only [Act.put, List.setIfInBounds_toArray, List.set_cons_succ, List.set_cons_zero])
      generalize wr.drew = w0 at *
      have hll := layS_len HBL.out k (by omega)
      have hp1 := pieceB_len HBL.out (o := k * 16) (by omega)
      have hp2 := pieceB_len HBL.out (o := 512 + k * 16) (by omega)
      have hk1 : Cells w0 ⟨w.heap.size, k * 16, none⟩ (bv ((BB.drop (k * 16)).take 16)) := by have h := (hbu.cells.drop (k * 16)).take 16; rw [addr_at, bv_piece] at h; exact h
      have hk2 : Cells w0 ⟨w.heap.size, 512 + k * 16, none⟩ (bv ((BB.drop (512 + k * 16)).take 16)) := by have h := (hbu.cells.drop (512 + k * 16)).take 16; rw [addr_at, bv_piece] at h; exact h
      have hstep : layS BB (k + 1) = layS BB k ++ ((BB.drop (k * 16)).take 16 ++ (BB.drop (512 + k * 16)).take 16) := rfl
      generalize (BB.drop (k * 16)).take 16 = P1 at *
      generalize (BB.drop (512 + k * 16)).take 16 = P2 at *
      have hbl : w.heap.size < w0.heap.size := hbu.lt
      have HO := Lib.hid hou
      have HM := Lib.hid hmu
      have HB := Lib.hid hbu
      have HK1 := Lib.hid hk1
      have HK2 := Lib.hid hk2
      have HP1 := Lib.hid hp1
      have HP2 := Lib.hid hp2
      have HLL := Lib.hid hll
      have HST := Lib.hid hstep
      have HBLT := Lib.hid hbl
      clear hou hmu hbu hk1 hk2 hp1 hp2 hll hstep hbl
      refine takeK 0 rfl (by kernel_rfl) (by kernel_rfl) (by kernel_rfl) rfl (fun _ _ _ _ h => h) rfl (fun K hK => ?_)
      go_big_quiet_op
      first | refine hK _ ?_ | refine ⟨_, fun _ _ => rfl, hK _ ?_⟩
      clear hK K
      refine takeK 1 rfl (by kernel_rfl) (by kernel_rfl) (by kernel_rfl) rfl (fun _ _ _ _ h => h) rfl (fun K hK => ?_)
      go_big_quiet_op
      first | refine hK _ ?_ | refine ⟨_, fun _ _ => rfl, hK _ ?_⟩
      clear hK K
      refine takeK 2 rfl (by kernel_rfl) (by kernel_rfl) (by kernel_rfl) rfl (fun _ _ _ _ h => h) rfl (fun K hK => ?_)
      go_big_quiet_op
      first | refine hK _ ?_ | refine ⟨_, fun _ _ => rfl, hK _ ?_⟩
      clear hK K
      refine takeK 3 rfl (by kernel_rfl) (by kernel_rfl) (by kernel_rfl) rfl (fun _ _ _ _ h => h) rfl (fun K hK => ?_)
      go_big_quiet_op
      first | refine hK _ ?_ | refine ⟨_, fun _ _ => rfl, hK _ ?_⟩
      clear hK K
      refine takeK 4 rfl (by kernel_rfl) (by kernel_rfl) (by kernel_rfl) rfl (fun _ _ _ _ h => h) rfl (fun K hK => ?_)
      go_big_quiet_op
      first | refine hK _ ?_ | refine ⟨_, fun _ _ => rfl, hK _ ?_⟩
      clear hK K
      refine takeK 6 rfl (by kernel_rfl) (by kernel_rfl) (by kernel_rfl) rfl (fun _ _ _ _ h => h) rfl (fun K hK => ?_)
      go_big_quiet_op
      first | refine hK _ ?_ | refine ⟨_, fun _ _ => rfl, hK _ ?_⟩
      clear hK K
      refine takeK 7 rfl (by kernel_rfl) (by kernel_rfl) (by kernel_rfl) rfl (fun _ _ _ _ h => h) rfl (fun K hK => ?_)
      go_big_quiet_op
      first | refine hK _ ?_ | refine ⟨_, fun _ _ => rfl, hK _ ?_⟩
      clear hK K
      refine takeK 8 rfl (by kernel_rfl) (by kernel_rfl) (by kernel_rfl) rfl (fun _ _ _ _ h => h) rfl (fun K hK => ?_)
      go_big_quiet_op
      first | refine hK _ ?_ | refine ⟨_, fun _ _ => rfl, hK _ ?_⟩
      clear hK K
      refine takeK 9 rfl (by kernel_rfl) (by kernel_rfl) (by kernel_rfl) rfl (fun _ _ _ _ h => h) rfl (fun K hK => ?_)
      go_big_quiet_op
      first | refine hK _ ?_ | refine ⟨_, fun _ _ => rfl, hK _ ?_⟩
      clear hK K
      refine stepM 5 rfl (by kernel_rfl) rfl (fun K hK => ?_)
      refine wp_app _ (.tmp 9) (.tmp 13) _ _ rfl 5 5 i0 _ 1 1 Try.underlying56 Try.underlying55 hi hz0 hz1 hz2 rfl (by decide) u1 _ _ rfl HO.out _ 16 16 (bv P1) rfl (by simp [HP1.out]) (fun _ => ⟨_, rfl, HK1.out⟩) (bv_one _) (by have := HLL.out; rw [List.length_append]; unfold maxLen; omega) (by have := HLL.out; rw [List.length_append]; omega) ?_
      intro v8 w8 ho8 hm8
      have ho8 : OwnB w8 v8 ((bs ++ layS BB k) ++ P1) := OwnB.app (by rw [HP1.out]; exact ho8)
      have hne8 : ∀ b, v8.ownBlock = some b → b ≠ w.heap.size := fun b hb => by rcases hm8.at_ with e | hn; exact HNE.out b (e.symm.trans hb); have h1 := hn b hb; have h3 := HBLT.out; omega
      have HNE8 := Lib.hid hne8
      have HK28 := Lib.hid (HK2.out.keep (hm8.grown.block w.heap.size HBLT.out (fun e => HNE.out _ e.symm rfl)))
      clear hne8
      refine hK _ _ (fun b hb => by subst hb; exact hm8.grown.block _ HBLT.out (fun e => HNE.out _ e.symm rfl)) ?_
      clear hK K
      (try simp only [Act.put, List.setIfInBounds_toArray, List.set_cons_succ, List.set_cons_zero])
      refine stepM 10 rfl (by kernel_rfl) rfl (fun K hK => ?_)
      refine wp_app _ (.tmp 14) (.tmp 18) _ _ rfl 5 5 i0 _ 1 1 Try.underlying56 Try.underlying55 hi hz0 hz1 hz2 rfl (by decide) v8 _ _ rfl ho8 _ 16 16 (bv P2) rfl (by simp [HP2.out]) (fun _ => ⟨_, rfl, HK28.out⟩) (bv_one _) (by have := HLL.out; have := HP1.out; rw [List.length_append, List.length_append]; unfold maxLen; omega) (by have := HLL.out; have := HP1.out; rw [List.length_append, List.length_append]; omega) ?_
      intro v9 w9 ho9 hm9
      have ho9 : OwnB w9 v9 (((bs ++ layS BB k) ++ P1) ++ P2) := OwnB.app (by rw [HP2.out]; exact ho9)
      refine hK _ _ (fun b hb => by subst hb; exact hm9.grown.block _ (Nat.lt_of_lt_of_le HBLT.out hm8.grown.size) (fun e => HNE8.out _ e.symm rfl)) ?_
      clear hK K
      (try simp only [Act.put, List.setIfInBounds_toArray, List.set_cons_succ, List.set_cons_zero])
      refine takeK 11 rfl (by kernel_rfl) (by kernel_rfl) (by kernel_rfl) rfl (fun _ _ _ _ h => h) rfl (fun K hK => ?_)
      go_big_quiet_op
      first | refine hK _ ?_ | refine ⟨_, fun _ _ => rfl, hK _ ?_⟩
      clear hK K
      refine doneM (by kernel_rfl) ?_ _
      have hm2 : Moved w w9 v v9 := (HM.out.trans hm8).trans hm9
      have hb2 : Blk w9 w.heap.size 43 (bv BB) := (HB.out.keep hm8.grown (fun e => HNE.out _ e.symm rfl)).keep hm9.grown (fun e => HNE8.out _ e.symm rfl)
      have hne9 : ∀ b, v9.ownBlock = some b → b ≠ w.heap.size := fun b hb => by
        rcases hm9.at_ with e | hn
        · exact HNE8.out b (e.symm.trans hb)
        · have h1 := hn b hb
          have h2 := hm8.grown.size
          have h3 := HBLT.out
          omega
      have ho2 : OwnB w9 v9 (bs ++ layS BB (k + 1)) := by rw [HST.out, ← List.append_assoc, ← List.append_assoc]; exact ho9
      have HM9 := Lib.hid hm2
      have HB9 := Lib.hid hb2
      have HN9 := Lib.hid hne9
      have HO9 := Lib.hid ho2
      clear hm2 hb2 hne9 ho2 ho9 hm9
      go_wp2
      go_roundw
      case rel => exact ⟨k + 1, by omega, by go_num, HO9.out, HM9.out, HB9.out, HN9.out, _, rfl⟩
      case measure => simp [intOf]; omega
    · obtain rfl : k = 32 := by omega
      go_wp2
      go_ret
      exact ⟨_, rfl, hou, hmu⟩
end Go.Proofs.Ytfoomnibfibfnaa
