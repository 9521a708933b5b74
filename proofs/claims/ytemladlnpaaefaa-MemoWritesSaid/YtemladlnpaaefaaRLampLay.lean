/- The walk of the document's Lay of layer 4. Condition: the signature has 1024 bytes. -/
import Derived.Test.YtemladlnpaaefaaLampLay
set_option linter.unusedVariables false
set_option linter.unusedSimpArgs false
set_option linter.unnecessarySimpa false
namespace Go.Proofs.Ytemladlnpaaefaa
open Go.RowKit

set_option maxRecDepth 100000 in
set_option maxHeartbeats 4000000 in
theorem RLamp_Lay (BB : List UInt8) (vb : Value) (bs : List UInt8) (w : World) (F : Fp) (hB : BB.length = 1024) (hl : (Ty.sl .u8).holds w F [vb] bs) (hF : ∀ b, F b → b < w.heap.size) (hb : bs.length + 1024 ≤ 140737488355328) :
    Calls Try.prog 39 #[vb, .agg (bv BB).toArray] w fun e w' => ∃ v', e = .returned v' ∧ OwnB w' v' (bs ++ layS BB 32) ∧ Ext w w' ∧ ∀ b, v'.ownBlock = some b → w.heap.size ≤ b := by
  obtain ⟨i0, hi, hz0, hz1, hz2⟩ := info_parts u8_info
  have hb1 : Blk ((w.alloc (.cells (bv BB).toArray 34)).alloc (.cells #[] 5)) w.heap.size 34 (bv BB) := (Blk.new _ _ _).keep ((Ext.refl _).alloc _) (by simp)
  have hx0 : Ext w ((w.alloc (.cells (bv BB).toArray 34)).alloc (.cells #[] 5)) := ((Ext.refl w).alloc _).alloc _
  have hl2 := hx0.holds hF hl
  obtain ⟨A, c, xs, hv, _, _, _, _, _⟩ := hl
  cases hv
  have hsrc := src_bytes hl2
  have HBL := Lib.hid hB
  have HB1 := Lib.hid hb1
  have HX0 := Lib.hid hx0
  have HSRC := Lib.hid hsrc
  clear hb1 hx0 hl2 hsrc
  go_enter Try.func39, Try.ntmps39
  go_wp2_with (first
    | (at_builtin; go_must (refine wpList_app _ rfl (.tmp 7) (.tmp 8) _ _ rfl 5 5 i0 _ 1 1 Try.underlying42 Try.underlying42 hi hz0 hz1 hz2 rfl (by decide) (.slice (some ⟨w.heap.size + 1, 0, none⟩) 0 0) 0 [] rfl (own_empty (by simp)) A _ c (bv bs) rfl (by simp) HSRC.out (bv_one _) (by unfold maxLen; omega) (by omega) ?_); intro v2 w2 ho2 hm2)
    | fail)
  have hor : OwnB w2 v2 bs := by have h : OwnB w2 v2 ([] ++ bs) := OwnB.app ho2; simpa using h
  have hgr : ∀ b, v2.ownBlock = some b → w.heap.size + 1 ≤ b := fun b hb => by
    rcases hm2.at_ with e | hn
    · have h := e.symm.trans hb
      have : w.heap.size + 1 = b := by simpa [Value.ownBlock] using h
      omega
    · have h := hn b hb; simp at h; omega
  have hbb : Blk w2 w.heap.size 34 (bv BB) := HB1.out.keep hm2.grown (by simp [Value.ownBlock])
  have hxx : Ext w w2 := grown_then HX0.out hm2.grown (.inr fun b hb => by
    have : w.heap.size + 1 = b := by simpa [Value.ownBlock] using hb
    omega)
  have HO0 := Lib.hid hor
  have HG0 := Lib.hid hgr
  have HBB := Lib.hid hbb
  have HXX := Lib.hid hxx
  clear hor hgr hbb hxx ho2 hm2
  go_loopw [5, 6] (fun u i wr => ∃ k : Nat, k ≤ 32 ∧ i = .int .i64 k ∧ OwnB wr u (bs ++ layS BB k) ∧ Ext w wr ∧ Blk wr w.heap.size 34 (bv BB) ∧ (∀ b, u.ownBlock = some b → w.heap.size + 1 ≤ b)) (fun _ i _ => 32 - (intOf i).toNat)
  case atStart => exact ⟨0, by omega, rfl, by simpa [layS] using HO0.out, HXX.out, HBB.out, HG0.out⟩
  case round =>
    clear HO0 HG0 HBB HXX
    obtain ⟨k, hk, rfl, hou, hxu, hbu, hgu⟩ := hrel
    by_cases hlt : k < 32
    · have hll := layS_len HBL.out k (by omega)
      have hp1 := pieceB_len HBL.out (o := k * 16) (by omega)
      have hp2 := pieceB_len HBL.out (o := 512 + k * 16) (by omega)
      have hk1 : Cells wr ⟨w.heap.size, k * 16, none⟩ (bv ((BB.drop (k * 16)).take 16)) := by have h := (hbu.cells.drop (k * 16)).take 16; rw [addr_at, bv_piece] at h; exact h
      have hk2 : Cells wr ⟨w.heap.size, 512 + k * 16, none⟩ (bv ((BB.drop (512 + k * 16)).take 16)) := by have h := (hbu.cells.drop (512 + k * 16)).take 16; rw [addr_at, bv_piece] at h; exact h
      have hstep : layS BB (k + 1) = layS BB k ++ ((BB.drop (k * 16)).take 16 ++ (BB.drop (512 + k * 16)).take 16) := rfl
      generalize (BB.drop (k * 16)).take 16 = P1 at *
      generalize (BB.drop (512 + k * 16)).take 16 = P2 at *
      have hbl : w.heap.size < wr.heap.size := hbu.lt
      have HO := Lib.hid hou
      have HX := Lib.hid hxu
      have HB := Lib.hid hbu
      have HG := Lib.hid hgu
      have HK1 := Lib.hid hk1
      have HK2 := Lib.hid hk2
      have HP1 := Lib.hid hp1
      have HP2 := Lib.hid hp2
      have HLL := Lib.hid hll
      have HST := Lib.hid hstep
      have HBLT := Lib.hid hbl
      clear hou hxu hbu hgu hk1 hk2 hp1 hp2 hll hstep hbl
      go_wp2_with (first
        | (at_builtin
           refine wpList_app _ rfl (.tmp 14) (.tmp 18) _ _ rfl 5 5 i0 _ 1 1 Try.underlying42 Try.underlying42 hi hz0 hz1 hz2 rfl (by decide) u5 _ _ rfl HO.out _ 16 16 (bv P1) rfl (by simp [HP1.out]) (fun _ => ⟨_, rfl, HK1.out⟩) (bv_one _) (by have := HLL.out; rw [List.length_append]; unfold maxLen; omega) (by have := HLL.out; rw [List.length_append]; omega) ?_
           intro v8 w8 ho8 hm8
           have ho8 : OwnB w8 v8 ((bs ++ layS BB k) ++ P1) := OwnB.app (by rw [HP1.out]; exact ho8)
           have hne7 : some w.heap.size ≠ u5.ownBlock := fun e => absurd (HG.out _ e.symm) (by omega)
           have HK28 := Lib.hid (HK2.out.keep (hm8.grown.block w.heap.size HBLT.out hne7))
           have HB8 := Lib.hid (HB.out.keep hm8.grown hne7)
           have HX8 := Lib.hid (grown_then HX.out hm8.grown (.inr fun b hb => by have := HG.out b hb; omega) : Ext w w8)
           have HG8 : Hid (∀ b, v8.ownBlock = some b → w.heap.size + 1 ≤ b) := Lib.hid (fun b hb => by
             rcases hm8.at_ with e | hn
             · exact HG.out b (e.symm.trans hb)
             · have h1 := hn b hb
               have h3 := HBLT.out
               omega))
        | (at_builtin
           refine wpList_app _ rfl (.tmp 20) (.tmp 24) _ _ rfl 5 5 i0 _ 1 1 Try.underlying42 Try.underlying42 hi hz0 hz1 hz2 rfl (by decide) v8 _ _ rfl ho8 _ 16 16 (bv P2) rfl (by simp [HP2.out]) (fun _ => ⟨_, rfl, HK28.out⟩) (bv_one _) (by have := HLL.out; have := HP1.out; rw [List.length_append, List.length_append]; unfold maxLen; omega) (by have := HLL.out; have := HP1.out; rw [List.length_append, List.length_append]; omega) ?_
           intro v9 w9 ho9 hm9
           have ho9 : OwnB w9 v9 (((bs ++ layS BB k) ++ P1) ++ P2) := OwnB.app (by rw [HP2.out]; exact ho9))
        | fail)
      have hne8 : some w.heap.size ≠ v8.ownBlock := fun e => absurd (HG8.out _ e.symm) (by omega)
      have hb9 := HB8.out.keep hm9.grown hne8
      have hx9 : Ext w w9 := grown_then HX8.out hm9.grown (.inr fun b hb => by have := HG8.out b hb; omega)
      have hg9 : ∀ b, v9.ownBlock = some b → w.heap.size + 1 ≤ b := fun b hb => by
        rcases hm9.at_ with e | hn
        · exact HG8.out b (e.symm.trans hb)
        · have h1 := hn b hb
          have h3 := HB8.out.lt
          omega
      have ho9' : OwnB w9 v9 (bs ++ layS BB (k + 1)) := by rw [HST.out, ← List.append_assoc, ← List.append_assoc]; exact ho9
      have HO9 := Lib.hid ho9'
      have HB9 := Lib.hid hb9
      have HX9 := Lib.hid hx9
      have HG9 := Lib.hid hg9
      clear hb9 hx9 hg9 ho9'
      go_roundw
      case rel => exact ⟨k + 1, by omega, by go_num, HO9.out, HX9.out, HB9.out, HG9.out⟩
      case measure => simp [intOf]; omega
    · obtain rfl : k = 32 := by omega
      go_wp2
      go_ret
      exact ⟨_, rfl, hou, hxu, fun b hb => by have := hgu b hb; omega⟩
end Go.Proofs.Ytemladlnpaaefaa
