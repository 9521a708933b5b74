/- Walk of the pact's Free. Conditions: the state's numbers and what was put in are in their bounds. -/
import Derived.Test.YtnpolfihbfdggaaPFind
import Derived.Outline
import Derived.WalkArith
set_option linter.unusedVariables false
set_option linter.unusedSimpArgs false
set_option linter.unnecessarySimpa false
namespace Go.Proofs.Ytnpolfihbfdggaa
open Go.RowKit

theorem Other (x : Int) (w : World) (h0 : 0 ≤ x) (h1 : x ≤ 1) : Calls Try.prog 18 #[.int .i64 x] w fun e w' => e = .returned (.int .i64 (1 - x)) ∧ w = w' := by
  go_enter Try.func18, Try.ntmps18
  go_wp2
  go_ret
  exact ⟨rfl, rfl⟩
theorem Is (x : Int) (w : World) : Calls Try.prog 41 #[.int .i64 x] w fun e w' => e = .returned (.bool (decide (x = 0 ∨ x = 1))) ∧ w = w' := by
  by_cases h0 : x = 0
  · subst h0
    go_enter Try.func41, Try.ntmps41
    go_wp2
    go_ret
    exact ⟨rfl, rfl⟩
  · by_cases h1 : x = 1
    · subst h1
      go_enter Try.func41, Try.ntmps41
      go_wp2
      go_ret
      exact ⟨rfl, rfl⟩
    · have e0 : (x == 0) = false := by simpa using h0
      have e1 : (x == 1) = false := by simpa using h1
      have e2 : decide (x = 0 ∨ x = 1) = false := by simp [h0, h1]
      rw [e2]
      clear e2 h0 h1
      go_enter Try.func41, Try.ntmps41
      go_wp2
      go_ret
      exact ⟨rfl, rfl⟩
theorem nums_new {w : World} {G n : Nat} {l : List Nat} {T : TypeId} (hG : w.heap.size = G) (hn : l.length = n) (hm : n ≤ maxLen) (hb : ∀ x ∈ l, x < M64) : (Ty.sl (.nat .u64)).holds (w.alloc (.cells (l.map fun n : Nat => Value.int .u64 (n : Int)).toArray T)) (fun b => b = G) [.slice (some ⟨G, 0, none⟩) n n] l := by
  refine sl_made (t := .nat .u64) hG rfl hn hm ?_
  have hall : ∀ (W : World) (l : List Nat), (∀ n ∈ l, n < M64) → AllH ((Ty.nat .u64).holds W (fun b => b = G)) (l.map fun n : Nat => Value.int .u64 (n : Int)) l := by
    intro W l
    induction l with
    | nil => intro _; rfl
    | cons a l ih => intro hb; exact ⟨[_], _, rfl, ⟨rfl, Go.WalkArith.wf_u64 (by have := hb a (by simp); unfold M64 at this; omega)⟩, ih fun n hn => hb n (by simp [hn])⟩
  exact hall _ l hb
theorem sub_in (a b : Nat) (h : ¬ a < b) : ((a - b : Nat) : Int) = (a : Int) - (b : Int) := by omega

set_option maxRecDepth 100000 in
set_option maxHeartbeats 2000000 in
theorem Free0 (s : St) (v : Value) (p0 p1 : Nat) (w : World) (F : Fp) (hs : StOk s) (hp0 : p0 < M64) (hp1 : p1 < M64) (hc : Conds w F v s.cs) (hF : ∀ b, F b → b < w.heap.size) (hlen : s.cs.length ≤ 4398046511104) :
    Calls Try.prog 23 #[stv s v, .agg #[.int .u64 (p0 : Int), .int .u64 (p1 : Int)], .int .i64 0] w fun e w' => e = .returned (numErr (freeM s p0 p1 0)) ∧ Ext w w' := by
  have hfree : freeM s p0 p1 0 = if (heldM s.cs 0).2 = 0 then if (sumM 0 [p0, s.m1]).2 = 0 then subL (sumM 0 [p0, s.m1]).1 [s.m0, s.t0, (heldM s.cs 0).1] else (0, 11) else (0, 11) := by
    unfold freeM; simp [pick2]
  rw [hfree]
  clear hfree
  have hx0 : Ext w ((w.alloc (.cells #[.int .u32 (s.chan : Int), .int .u64 (s.round : Int), .int .u64 (s.m0 : Int), .int .u64 (s.m1 : Int), .int .u64 (s.t0 : Int), .int .u64 (s.t1 : Int), v] 36)).alloc (.cells #[.int .u64 (p0 : Int), .int .u64 (p1 : Int)] 24)) := ((Ext.refl w).alloc _).alloc _
  have hh := Held s v 0 _ F (hx0.holds hF hc) (fun b hb => Nat.lt_of_lt_of_le (hF b hb) hx0.size) hlen
  have hcas := sumM_cases (ams s.cs 0) 0 (by unfold M64; omega)
  have hbS : Blk ((w.alloc (.cells #[.int .u32 (s.chan : Int), .int .u64 (s.round : Int), .int .u64 (s.m0 : Int), .int .u64 (s.m1 : Int), .int .u64 (s.t0 : Int), .int .u64 (s.t1 : Int), v] 36)).alloc (.cells #[.int .u64 (p0 : Int), .int .u64 (p1 : Int)] 24)) w.heap.size 36 [.int .u32 (s.chan : Int), .int .u64 (s.round : Int), .int .u64 (s.m0 : Int), .int .u64 (s.m1 : Int), .int .u64 (s.t0 : Int), .int .u64 (s.t1 : Int), v] := (Blk.new w 36 [_, _, _, _, _, _, _]).keep ((Ext.refl _).alloc _) (by simp)
  have hbP : Blk ((w.alloc (.cells #[.int .u32 (s.chan : Int), .int .u64 (s.round : Int), .int .u64 (s.m0 : Int), .int .u64 (s.m1 : Int), .int .u64 (s.t0 : Int), .int .u64 (s.t1 : Int), v] 36)).alloc (.cells #[.int .u64 (p0 : Int), .int .u64 (p1 : Int)] 24)) (w.heap.size + 1) 24 [.int .u64 (p0 : Int), .int .u64 (p1 : Int)] := by
    have := Blk.new (w.alloc (.cells #[.int .u32 (s.chan : Int), .int .u64 (s.round : Int), .int .u64 (s.m0 : Int), .int .u64 (s.m1 : Int), .int .u64 (s.t0 : Int), .int .u64 (s.t1 : Int), v] 36)) 24 [.int .u64 (p0 : Int), .int .u64 (p1 : Int)]
    simpa using this
  have hpp : p0 < M64 := by assumption
  have hmo : s.m1 < M64 := hs.m1
  have hmm : s.m0 < M64 := hs.m0
  have htt : s.t0 < M64 := hs.t0
  have hcas2 := sumM_cases [p0, s.m1] 0 (by unfold M64; omega)
  have hsum : ∀ W : World, Calls Try.prog 40 #[.slice (some ⟨W.heap.size, 0, none⟩) 2 2] (W.alloc (.cells #[.int .u64 (p0 : Int), .int .u64 (s.m1 : Int)] 23)) fun e w' => e = .returned (numErr (sumM 0 [p0, s.m1])) ∧ W.alloc (.cells #[.int .u64 (p0 : Int), .int .u64 (s.m1 : Int)] 23) = w' := fun W =>
    Money_Sum _ [p0, s.m1] _ _ (nums_new (w := W) (l := [p0, s.m1]) rfl rfl (by simp [maxLen]) (by simp [hpp, hmo]))
  unfold heldM at *
  have HBS := Lib.hid hbS
  have HBP := Lib.hid hbP
  have HX0 := Lib.hid hx0
  clear hbS hbP hx0
  rcases hcas with ⟨held, hhb, hr1⟩ | hr1
  · rw [hr1] at hh ⊢
    rw [if_pos rfl]
    simp only [numErr] at hh
    have HH := Lib.hid hh
    clear hh hr1
    rcases hcas2 with ⟨has, hhb2, hr2⟩ | hr2
    · rw [hr2, if_pos rfl]
      rw [hr2] at hsum
      simp only [numErr] at hsum
      have HSUM := Lib.hid hsum
      clear hsum hr2
      go_enter Try.func23, Try.ntmps23
      go_wp2_with (first
        | (go_at_call 41; refine (Is 0 _).mono ?_; rintro e w' ⟨rfl, rfl⟩)
        | fail)
      refine HH.out.mono ?_
      rintro e w1 ⟨rfl, hx1⟩
      have hx : Ext w w1 := HX0.out.trans hx1
      have hS1 := HBS.out.keep hx1 (by simp)
      have hP1 := HBP.out.keep hx1 (by simp)
      have HX := Lib.hid hx
      have HPC := Lib.hid (show w1.cell? ⟨w.heap.size + 1, 0, none⟩ = some (.int .u64 (p0 : Int)) from hP1.cell 0)
      have HMC := Lib.hid (show w1.cell? ⟨w.heap.size, 3, none⟩ = some (.int .u64 (s.m1 : Int)) from hS1.cell 3)
      have HMM := Lib.hid (show w1.cell? ⟨w.heap.size, 2, none⟩ = some (.int .u64 (s.m0 : Int)) from hS1.cell 2)
      have HTT := Lib.hid (show w1.cell? ⟨w.heap.size, 4, none⟩ = some (.int .u64 (s.t0 : Int)) from hS1.cell 4)
      clear hx hS1 hP1 hx1
      go_wp2
      refine startM Since (by kernel_rfl) ?_
      refine takeE 0 rfl (by kernel_rfl) (by kernel_rfl) (by kernel_rfl) rfl (fun _ _ _ _ h => h) rfl (fun K hK => ?_)
      go_big_quiet_op
      first | refine hK _ ?_ | refine ⟨_, fun _ _ => rfl, hK _ ?_⟩
      clear hK K
      refine takeE 1 rfl (by kernel_rfl) (by kernel_rfl) (by kernel_rfl) rfl (fun _ _ _ _ h => h) rfl (fun K hK => ?_)
      go_big_quiet_op
      first | refine hK _ ?_ | refine ⟨_, fun _ _ => rfl, hK _ ?_⟩
      clear hK K
      refine takeE 2 rfl (by kernel_rfl) (by kernel_rfl) (by kernel_rfl) rfl (fun _ _ _ _ h => h) rfl (fun K hK => ?_)
      refine quiet_cell 23 (.tmp 27) rfl _ rfl _ _ Try.underlying23 rfl (fun W' h => (World.cell?_of_block (h.ext.block _ (World.block_lt_of_cell? _ _ HPC.out) (by simp))).trans HPC.out) ?_
      refine hK _ ?_
      simp only [Act.put, List.setIfInBounds_toArray, List.set_cons_succ, List.set_cons_zero]
      clear hK K
      refine takeE 3 rfl (by kernel_rfl) (by kernel_rfl) (by kernel_rfl) rfl (fun _ _ _ _ h => h) rfl (fun K hK => ?_)
      go_big_quiet_op
      first | refine hK _ ?_ | refine ⟨_, fun _ _ => rfl, hK _ ?_⟩
      clear hK K
      refine takeE 5 rfl (by kernel_rfl) (by kernel_rfl) (by kernel_rfl) rfl (fun _ _ _ _ h => h) rfl (fun K hK => ?_)
      go_big_quiet_op
      first | refine hK _ ?_ | refine ⟨_, fun _ _ => rfl, hK _ ?_⟩
      clear hK K
      refine stepM 4 rfl (by kernel_rfl) rfl (fun K hK => ?_)
      go_simp
      refine (Other 0 _ (by omega) (by omega)).mono ?_
      rintro e W2 ⟨rfl, rfl⟩
      refine hK _ _ (Ext.refl _) ?_
      clear hK K
      refine takeE 6 rfl (by kernel_rfl) (by kernel_rfl) (by kernel_rfl) rfl (fun _ _ _ _ h => h) rfl (fun K hK => ?_)
      go_big_quiet_op
      first | refine hK _ ?_ | refine ⟨_, fun _ _ => rfl, hK _ ?_⟩
      clear hK K
      refine takeE 7 rfl (by kernel_rfl) (by kernel_rfl) (by kernel_rfl) rfl (fun _ _ _ _ h => h) rfl (fun K hK => ?_)
      refine quiet_cell 23 (.tmp 32) rfl _ rfl _ _ Try.underlying23 rfl (fun W' h => (World.cell?_of_block (h.ext.block _ (World.block_lt_of_cell? _ _ HMC.out) (by simp))).trans HMC.out) ?_
      refine hK _ ?_
      simp only [Act.put, List.setIfInBounds_toArray, List.set_cons_succ, List.set_cons_zero]
      clear hK K
      refine stepM 8 rfl (by kernel_rfl) rfl (fun K hK => ?_)
      go_simp
      refine hK _ _ ((Ext.refl _).alloc _) ?_
      clear hK K
      refine stepM 9 rfl (by kernel_rfl) rfl (fun K hK => ?_)
      go_simp
      refine (HSUM.out w1.drew).mono ?_
      rintro e W3 ⟨rfl, rfl⟩
      refine hK _ _ (Ext.refl _) ?_
      clear hK K
      refine takeE 10 rfl (by kernel_rfl) (by kernel_rfl) (by kernel_rfl) rfl (fun _ _ _ _ h => h) rfl (fun K hK => ?_)
      go_big_quiet_op
      first | refine hK _ ?_ | refine ⟨_, fun _ _ => rfl, hK _ ?_⟩
      clear hK K
      refine takeE 11 rfl (by kernel_rfl) (by kernel_rfl) (by kernel_rfl) rfl (fun _ _ _ _ h => h) rfl (fun K hK => ?_)
      go_big_quiet_op
      first | refine hK _ ?_ | refine ⟨_, fun _ _ => rfl, hK _ ?_⟩
      clear hK K
      refine takeE 13 rfl (by kernel_rfl) (by kernel_rfl) (by kernel_rfl) rfl (fun _ _ _ _ h => h) rfl (fun K hK => ?_)
      go_big_quiet_op
      first | refine hK _ ?_ | refine ⟨_, fun _ _ => rfl, hK _ ?_⟩
      clear hK K
      refine takeE 12 rfl (by kernel_rfl) (by kernel_rfl) (by kernel_rfl) rfl (fun _ _ _ _ h => h) rfl (fun K hK => ?_)
      go_big_quiet_op
      first | refine hK _ ?_ | refine ⟨_, fun _ _ => rfl, hK _ ?_⟩
      clear hK K
      refine takeE 14 rfl (by kernel_rfl) (by kernel_rfl) (by kernel_rfl) rfl (fun _ _ _ _ h => h) rfl (fun K hK => ?_)
      go_big_quiet_op
      first | refine hK _ ?_ | refine ⟨_, fun _ _ => rfl, hK _ ?_⟩
      clear hK K
      refine doneM (by kernel_rfl) ?_ _
      have hx2 : Ext w (w1.drew.alloc (.cells #[.int .u64 (p0 : Int), .int .u64 (s.m1 : Int)] 23)) := HX.out.drew.alloc _
      have hmm2 := (World.cell?_of_block (((Ext.refl w1).drew.alloc (.cells #[.int .u64 (p0 : Int), .int .u64 (s.m1 : Int)] 23)).block _ (World.block_lt_of_cell? _ _ HMM.out) (by simp))).trans HMM.out
      have htt2 := (World.cell?_of_block (((Ext.refl w1).drew.alloc (.cells #[.int .u64 (p0 : Int), .int .u64 (s.m1 : Int)] 23)).block _ (World.block_lt_of_cell? _ _ HTT.out) (by simp))).trans HTT.out
      generalize w1.drew.alloc (.cells #[.int .u64 (p0 : Int), .int .u64 (s.m1 : Int)] 23) = w2 at hx2 hmm2 htt2 ⊢
      have HX2 := Lib.hid hx2
      have HMM2 := Lib.hid hmm2
      have HTT2 := Lib.hid htt2
      clear hx2 hmm2 htt2 HMM HTT HX HSUM HPC HMC
      go_wp2
      refine startM Since (by kernel_rfl) ?_
      refine takeE 0 rfl (by kernel_rfl) (by kernel_rfl) (by kernel_rfl) rfl (fun _ _ _ _ h => h) rfl (fun K hK => ?_)
      go_big_quiet_op
      first | refine hK _ ?_ | refine ⟨_, fun _ _ => rfl, hK _ ?_⟩
      clear hK K
      refine takeE 1 rfl (by kernel_rfl) (by kernel_rfl) (by kernel_rfl) rfl (fun _ _ _ _ h => h) rfl (fun K hK => ?_)
      go_big_quiet_op
      first | refine hK _ ?_ | refine ⟨_, fun _ _ => rfl, hK _ ?_⟩
      clear hK K
      refine takeE 2 rfl (by kernel_rfl) (by kernel_rfl) (by kernel_rfl) rfl (fun _ _ _ _ h => h) rfl (fun K hK => ?_)
      go_big_quiet_op
      first | refine hK _ ?_ | refine ⟨_, fun _ _ => rfl, hK _ ?_⟩
      clear hK K
      refine takeE 3 rfl (by kernel_rfl) (by kernel_rfl) (by kernel_rfl) rfl (fun _ _ _ _ h => h) rfl (fun K hK => ?_)
      refine quiet_cell 23 (.tmp 43) rfl _ rfl _ _ Try.underlying23 rfl (fun W' h => (World.cell?_of_block (h.ext.block _ (World.block_lt_of_cell? _ _ HMM2.out) (by simp))).trans HMM2.out) ?_
      refine hK _ ?_
      simp only [Act.put, List.setIfInBounds_toArray, List.set_cons_succ, List.set_cons_zero]
      clear hK K
      refine takeE 4 rfl (by kernel_rfl) (by kernel_rfl) (by kernel_rfl) rfl (fun _ _ _ _ h => h) rfl (fun K hK => ?_)
      go_big_quiet_op
      first | refine hK _ ?_ | refine ⟨_, fun _ _ => rfl, hK _ ?_⟩
      clear hK K
      refine takeE 5 rfl (by kernel_rfl) (by kernel_rfl) (by kernel_rfl) rfl (fun _ _ _ _ h => h) rfl (fun K hK => ?_)
      go_big_quiet_op
      first | refine hK _ ?_ | refine ⟨_, fun _ _ => rfl, hK _ ?_⟩
      clear hK K
      refine takeE 6 rfl (by kernel_rfl) (by kernel_rfl) (by kernel_rfl) rfl (fun _ _ _ _ h => h) rfl (fun K hK => ?_)
      go_big_quiet_op
      first | refine hK _ ?_ | refine ⟨_, fun _ _ => rfl, hK _ ?_⟩
      clear hK K
      refine takeE 7 rfl (by kernel_rfl) (by kernel_rfl) (by kernel_rfl) rfl (fun _ _ _ _ h => h) rfl (fun K hK => ?_)
      refine quiet_cell 23 (.tmp 47) rfl _ rfl _ _ Try.underlying23 rfl (fun W' h => (World.cell?_of_block (h.ext.block _ (World.block_lt_of_cell? _ _ HTT2.out) (by simp))).trans HTT2.out) ?_
      refine hK _ ?_
      simp only [Act.put, List.setIfInBounds_toArray, List.set_cons_succ, List.set_cons_zero]
      clear hK K
      refine takeE 8 rfl (by kernel_rfl) (by kernel_rfl) (by kernel_rfl) rfl (fun _ _ _ _ h => h) rfl (fun K hK => ?_)
      go_big_quiet_op
      first | refine hK _ ?_ | refine ⟨_, fun _ _ => rfl, hK _ ?_⟩
      clear hK K
      refine takeE 11 rfl (by kernel_rfl) (by kernel_rfl) (by kernel_rfl) rfl (fun _ _ _ _ h => h) rfl (fun K hK => ?_)
      go_big_quiet_op
      first | refine hK _ ?_ | refine ⟨_, fun _ _ => rfl, hK _ ?_⟩
      clear hK K
      refine stepM 9 rfl (by kernel_rfl) rfl (fun K hK => ?_)
      go_simp
      refine hK _ _ ((Ext.refl _).alloc _) ?_
      clear hK K
      refine takeE 10 rfl (by kernel_rfl) (by kernel_rfl) (by kernel_rfl) rfl (fun _ _ _ _ h => h) rfl (fun K hK => ?_)
      go_big_quiet_op
      first | refine hK _ ?_ | refine ⟨_, fun _ _ => rfl, hK _ ?_⟩
      clear hK K
      refine doneM (by kernel_rfl) ?_ _
      have hx3 : Ext w ((w2.alloc (.cells #[.int .u64 (s.m0 : Int), .int .u64 (s.t0 : Int), .int .u64 (held : Int)] 23)).drew) := (HX2.out.alloc _).drew
      have hb3 : Blk ((w2.alloc (.cells #[.int .u64 (s.m0 : Int), .int .u64 (s.t0 : Int), .int .u64 (held : Int)] 23)).drew) w2.heap.size 23 (([s.m0, s.t0, held] : List Nat).map fun n : Nat => Value.int .u64 (n : Int)) := Blk.new w2 _ _
      have hol : ([s.m0, s.t0, held] : List Nat).length = 3 := rfl
      have hob : ∀ x ∈ ([s.m0, s.t0, held] : List Nat), x < M64 := by simp [hmm, htt, hhb]
      generalize (w2.alloc (.cells #[.int .u64 (s.m0 : Int), .int .u64 (s.t0 : Int), .int .u64 (held : Int)] 23)).drew = w3 at hx3 hb3 ⊢
      obtain ⟨outs, houts⟩ : ∃ outs : List Nat, outs = [s.m0, s.t0, held] := ⟨_, rfl⟩
      rw [← houts] at hb3 hol hob
      have HOUT := Lib.hid houts
      clear houts
      generalize w2.heap.size = G3 at hb3 ⊢
      have hcx : ∀ k, k < 3 → w3.cell? ⟨G3, k, none⟩ = some (.int .u64 ((outs.getD k 0 : Nat) : Int)) := fun k hk => by
        rw [hb3.cell k, List.getElem?_map, List.getElem?_eq_getElem (by omega), List.getD_eq_getElem?_getD, List.getElem?_eq_getElem (by omega)]; rfl
      have HCX := Lib.hid hcx
      have HX3 := Lib.hid hx3
      have HOL := Lib.hid hol
      have HOB := Lib.hid hob
      clear hcx hx3 hol hob hb3 HX2 HMM2 HTT2
      go_wp2
      go_loop [9, 10, 12, 52] (fun e h p i => ∃ k n : Nat, k ≤ 3 ∧ n < M64 ∧ i = .int .i64 k ∧ h = .int .u64 n ∧ subL has outs = subL n (outs.drop k) ∧ (∃ z, e = z) ∧ ∃ z, p = z) (fun _ _ _ i => 3 - (intOf i).toNat)
      case atStart => exact ⟨0, has, by omega, hhb2, rfl, rfl, rfl, ⟨_, rfl⟩, _, rfl⟩
      case round =>
        obtain ⟨k, n, hk, hn, rfl, rfl, hsub, ⟨z, rfl⟩, z2, rfl⟩ := hrel
        by_cases hlt : k < 3
        · have hck := HCX.out k hlt
          have hdr : outs.drop k = outs.getD k 0 :: outs.drop (k + 1) := by
            rw [List.drop_eq_getElem_cons (by rw [HOL.out]; exact hlt), List.getD_eq_getElem?_getD, List.getElem?_eq_getElem (by rw [HOL.out]; exact hlt)]; rfl
          have hxb : outs.getD k 0 < M64 := by
            rw [List.getD_eq_getElem?_getD, List.getElem?_eq_getElem (by rw [HOL.out]; exact hlt)]
            exact HOB.out _ (List.getElem_mem _)
          rw [hdr] at hsub
          generalize outs.getD k 0 = x at hck hsub hxb
          have hS := fun W => Money_Sub n x W hn hxb
          have HSB := Lib.hid hsub
          clear hdr hsub
          by_cases hlt2 : n < x
          · have e1 : subM n x = (0, 12) := by unfold subM; rw [if_pos hlt2]
            have e2 : subL n (x :: outs.drop (k + 1)) = (0, 12) := by rw [subL, if_pos hlt2]
            rw [e1] at hS
            rw [e2] at HSB
            simp only [numErr] at hS
            have HSS := Lib.hid hS
            clear e1 e2 hS
            go_wp2_with (go_at_call 42; refine (HSS.out _).mono ?_; rintro e w' ⟨rfl, rfl⟩)
            go_ret2
            exact ⟨by rw [← HOUT.out, HSB.out]; rfl, HX3.out⟩
          · have e1 : subM n x = (n - x, 0) := by unfold subM; rw [if_neg hlt2]
            have e2 : subL n (x :: outs.drop (k + 1)) = subL (n - x) (outs.drop (k + 1)) := by rw [subL, if_neg hlt2]
            rw [e1] at hS
            rw [e2] at HSB
            simp only [numErr] at hS
            have HSS := Lib.hid hS
            clear e1 e2 hS
            go_wp2_with (go_at_call 42; refine (HSS.out _).mono ?_; rintro e w' ⟨rfl, rfl⟩)
            go_round
            case rel => exact ⟨k + 1, n - x, by omega, by omega, by go_num, rfl, HSB.out, ⟨_, rfl⟩, _, rfl⟩
            case measure => simp [intOf]; omega
        · obtain rfl : k = 3 := by omega
          rw [List.drop_eq_nil_of_le (by rw [HOL.out]; exact Nat.le_refl _), subL] at hsub
          have HSB := Lib.hid hsub
          clear hsub
          go_wp2
          go_ret2
          exact ⟨by rw [← HOUT.out, HSB.out]; rfl, HX3.out⟩
    · rw [hr2, if_neg (by decide)]
      rw [hr2] at hsum
      simp only [numErr] at hsum
      have HSUM := Lib.hid hsum
      clear hsum hr2
      go_enter Try.func23, Try.ntmps23
      go_wp2_with (first
        | (go_at_call 41; refine (Is 0 _).mono ?_; rintro e w' ⟨rfl, rfl⟩)
        | fail)
      refine HH.out.mono ?_
      rintro e w1 ⟨rfl, hx1⟩
      have hx : Ext w w1 := HX0.out.trans hx1
      have hS1 := HBS.out.keep hx1 (by simp)
      have hP1 := HBP.out.keep hx1 (by simp)
      have HX := Lib.hid hx
      have HPC := Lib.hid (show w1.cell? ⟨w.heap.size + 1, 0, none⟩ = some (.int .u64 (p0 : Int)) from hP1.cell 0)
      have HMC := Lib.hid (show w1.cell? ⟨w.heap.size, 3, none⟩ = some (.int .u64 (s.m1 : Int)) from hS1.cell 3)
      have HMM := Lib.hid (show w1.cell? ⟨w.heap.size, 2, none⟩ = some (.int .u64 (s.m0 : Int)) from hS1.cell 2)
      have HTT := Lib.hid (show w1.cell? ⟨w.heap.size, 4, none⟩ = some (.int .u64 (s.t0 : Int)) from hS1.cell 4)
      clear hx hS1 hP1 hx1
      go_wp2
      refine startM Since (by kernel_rfl) ?_
      refine takeE 0 rfl (by kernel_rfl) (by kernel_rfl) (by kernel_rfl) rfl (fun _ _ _ _ h => h) rfl (fun K hK => ?_)
      go_big_quiet_op
      first | refine hK _ ?_ | refine ⟨_, fun _ _ => rfl, hK _ ?_⟩
      clear hK K
      refine takeE 1 rfl (by kernel_rfl) (by kernel_rfl) (by kernel_rfl) rfl (fun _ _ _ _ h => h) rfl (fun K hK => ?_)
      go_big_quiet_op
      first | refine hK _ ?_ | refine ⟨_, fun _ _ => rfl, hK _ ?_⟩
      clear hK K
      refine takeE 2 rfl (by kernel_rfl) (by kernel_rfl) (by kernel_rfl) rfl (fun _ _ _ _ h => h) rfl (fun K hK => ?_)
      refine quiet_cell 23 (.tmp 27) rfl _ rfl _ _ Try.underlying23 rfl (fun W' h => (World.cell?_of_block (h.ext.block _ (World.block_lt_of_cell? _ _ HPC.out) (by simp))).trans HPC.out) ?_
      refine hK _ ?_
      simp only [Act.put, List.setIfInBounds_toArray, List.set_cons_succ, List.set_cons_zero]
      clear hK K
      refine takeE 3 rfl (by kernel_rfl) (by kernel_rfl) (by kernel_rfl) rfl (fun _ _ _ _ h => h) rfl (fun K hK => ?_)
      go_big_quiet_op
      first | refine hK _ ?_ | refine ⟨_, fun _ _ => rfl, hK _ ?_⟩
      clear hK K
      refine takeE 5 rfl (by kernel_rfl) (by kernel_rfl) (by kernel_rfl) rfl (fun _ _ _ _ h => h) rfl (fun K hK => ?_)
      go_big_quiet_op
      first | refine hK _ ?_ | refine ⟨_, fun _ _ => rfl, hK _ ?_⟩
      clear hK K
      refine stepM 4 rfl (by kernel_rfl) rfl (fun K hK => ?_)
      go_simp
      refine (Other 0 _ (by omega) (by omega)).mono ?_
      rintro e W2 ⟨rfl, rfl⟩
      refine hK _ _ (Ext.refl _) ?_
      clear hK K
      refine takeE 6 rfl (by kernel_rfl) (by kernel_rfl) (by kernel_rfl) rfl (fun _ _ _ _ h => h) rfl (fun K hK => ?_)
      go_big_quiet_op
      first | refine hK _ ?_ | refine ⟨_, fun _ _ => rfl, hK _ ?_⟩
      clear hK K
      refine takeE 7 rfl (by kernel_rfl) (by kernel_rfl) (by kernel_rfl) rfl (fun _ _ _ _ h => h) rfl (fun K hK => ?_)
      refine quiet_cell 23 (.tmp 32) rfl _ rfl _ _ Try.underlying23 rfl (fun W' h => (World.cell?_of_block (h.ext.block _ (World.block_lt_of_cell? _ _ HMC.out) (by simp))).trans HMC.out) ?_
      refine hK _ ?_
      simp only [Act.put, List.setIfInBounds_toArray, List.set_cons_succ, List.set_cons_zero]
      clear hK K
      refine stepM 8 rfl (by kernel_rfl) rfl (fun K hK => ?_)
      go_simp
      refine hK _ _ ((Ext.refl _).alloc _) ?_
      clear hK K
      refine stepM 9 rfl (by kernel_rfl) rfl (fun K hK => ?_)
      go_simp
      refine (HSUM.out w1.drew).mono ?_
      rintro e W3 ⟨rfl, rfl⟩
      refine hK _ _ (Ext.refl _) ?_
      clear hK K
      refine takeE 10 rfl (by kernel_rfl) (by kernel_rfl) (by kernel_rfl) rfl (fun _ _ _ _ h => h) rfl (fun K hK => ?_)
      go_big_quiet_op
      first | refine hK _ ?_ | refine ⟨_, fun _ _ => rfl, hK _ ?_⟩
      clear hK K
      refine takeE 11 rfl (by kernel_rfl) (by kernel_rfl) (by kernel_rfl) rfl (fun _ _ _ _ h => h) rfl (fun K hK => ?_)
      go_big_quiet_op
      first | refine hK _ ?_ | refine ⟨_, fun _ _ => rfl, hK _ ?_⟩
      clear hK K
      refine takeE 13 rfl (by kernel_rfl) (by kernel_rfl) (by kernel_rfl) rfl (fun _ _ _ _ h => h) rfl (fun K hK => ?_)
      go_big_quiet_op
      first | refine hK _ ?_ | refine ⟨_, fun _ _ => rfl, hK _ ?_⟩
      clear hK K
      refine takeE 12 rfl (by kernel_rfl) (by kernel_rfl) (by kernel_rfl) rfl (fun _ _ _ _ h => h) rfl (fun K hK => ?_)
      go_big_quiet_op
      first | refine hK _ ?_ | refine ⟨_, fun _ _ => rfl, hK _ ?_⟩
      clear hK K
      refine takeE 14 rfl (by kernel_rfl) (by kernel_rfl) (by kernel_rfl) rfl (fun _ _ _ _ h => h) rfl (fun K hK => ?_)
      go_big_quiet_op
      first | refine hK _ ?_ | refine ⟨_, fun _ _ => rfl, hK _ ?_⟩
      clear hK K
      refine doneM (by kernel_rfl) ?_ _
      go_wp2
      go_ret2
      exact ⟨rfl, HX.out.drew.alloc _⟩
  · rw [hr1] at hh ⊢
    rw [if_neg (by decide)]
    simp only [numErr] at hh
    have HH := Lib.hid hh
    clear hh hr1 hsum hcas2
    go_enter Try.func23, Try.ntmps23
    go_wp2_with (first
      | (go_at_call 41; refine (Is 0 _).mono ?_; rintro e w' ⟨rfl, rfl⟩)
      | fail)
    refine HH.out.mono ?_
    rintro e w1 ⟨rfl, hx1⟩
    have hx : Ext w w1 := HX0.out.trans hx1
    go_wp2
    go_ret2
    exact ⟨rfl, hx⟩
set_option maxRecDepth 100000 in
set_option maxHeartbeats 2000000 in
theorem Free1 (s : St) (v : Value) (p0 p1 : Nat) (w : World) (F : Fp) (hs : StOk s) (hp0 : p0 < M64) (hp1 : p1 < M64) (hc : Conds w F v s.cs) (hF : ∀ b, F b → b < w.heap.size) (hlen : s.cs.length ≤ 4398046511104) :
    Calls Try.prog 23 #[stv s v, .agg #[.int .u64 (p0 : Int), .int .u64 (p1 : Int)], .int .i64 1] w fun e w' => e = .returned (numErr (freeM s p0 p1 1)) ∧ Ext w w' := by
  have hfree : freeM s p0 p1 1 = if (heldM s.cs 1).2 = 0 then if (sumM 0 [p1, s.m0]).2 = 0 then subL (sumM 0 [p1, s.m0]).1 [s.m1, s.t1, (heldM s.cs 1).1] else (0, 11) else (0, 11) := by
    unfold freeM; simp [pick2]
  rw [hfree]
  clear hfree
  have hx0 : Ext w ((w.alloc (.cells #[.int .u32 (s.chan : Int), .int .u64 (s.round : Int), .int .u64 (s.m0 : Int), .int .u64 (s.m1 : Int), .int .u64 (s.t0 : Int), .int .u64 (s.t1 : Int), v] 36)).alloc (.cells #[.int .u64 (p0 : Int), .int .u64 (p1 : Int)] 24)) := ((Ext.refl w).alloc _).alloc _
  have hh := Held s v 1 _ F (hx0.holds hF hc) (fun b hb => Nat.lt_of_lt_of_le (hF b hb) hx0.size) hlen
  have hcas := sumM_cases (ams s.cs 1) 0 (by unfold M64; omega)
  have hbS : Blk ((w.alloc (.cells #[.int .u32 (s.chan : Int), .int .u64 (s.round : Int), .int .u64 (s.m0 : Int), .int .u64 (s.m1 : Int), .int .u64 (s.t0 : Int), .int .u64 (s.t1 : Int), v] 36)).alloc (.cells #[.int .u64 (p0 : Int), .int .u64 (p1 : Int)] 24)) w.heap.size 36 [.int .u32 (s.chan : Int), .int .u64 (s.round : Int), .int .u64 (s.m0 : Int), .int .u64 (s.m1 : Int), .int .u64 (s.t0 : Int), .int .u64 (s.t1 : Int), v] := (Blk.new w 36 [_, _, _, _, _, _, _]).keep ((Ext.refl _).alloc _) (by simp)
  have hbP : Blk ((w.alloc (.cells #[.int .u32 (s.chan : Int), .int .u64 (s.round : Int), .int .u64 (s.m0 : Int), .int .u64 (s.m1 : Int), .int .u64 (s.t0 : Int), .int .u64 (s.t1 : Int), v] 36)).alloc (.cells #[.int .u64 (p0 : Int), .int .u64 (p1 : Int)] 24)) (w.heap.size + 1) 24 [.int .u64 (p0 : Int), .int .u64 (p1 : Int)] := by
    have := Blk.new (w.alloc (.cells #[.int .u32 (s.chan : Int), .int .u64 (s.round : Int), .int .u64 (s.m0 : Int), .int .u64 (s.m1 : Int), .int .u64 (s.t0 : Int), .int .u64 (s.t1 : Int), v] 36)) 24 [.int .u64 (p0 : Int), .int .u64 (p1 : Int)]
    simpa using this
  have hpp : p1 < M64 := by assumption
  have hmo : s.m0 < M64 := hs.m0
  have hmm : s.m1 < M64 := hs.m1
  have htt : s.t1 < M64 := hs.t1
  have hcas2 := sumM_cases [p1, s.m0] 0 (by unfold M64; omega)
  have hsum : ∀ W : World, Calls Try.prog 40 #[.slice (some ⟨W.heap.size, 0, none⟩) 2 2] (W.alloc (.cells #[.int .u64 (p1 : Int), .int .u64 (s.m0 : Int)] 23)) fun e w' => e = .returned (numErr (sumM 0 [p1, s.m0])) ∧ W.alloc (.cells #[.int .u64 (p1 : Int), .int .u64 (s.m0 : Int)] 23) = w' := fun W =>
    Money_Sum _ [p1, s.m0] _ _ (nums_new (w := W) (l := [p1, s.m0]) rfl rfl (by simp [maxLen]) (by simp [hpp, hmo]))
  unfold heldM at *
  have HBS := Lib.hid hbS
  have HBP := Lib.hid hbP
  have HX0 := Lib.hid hx0
  clear hbS hbP hx0
  rcases hcas with ⟨held, hhb, hr1⟩ | hr1
  · rw [hr1] at hh ⊢
    rw [if_pos rfl]
    simp only [numErr] at hh
    have HH := Lib.hid hh
    clear hh hr1
    rcases hcas2 with ⟨has, hhb2, hr2⟩ | hr2
    · rw [hr2, if_pos rfl]
      rw [hr2] at hsum
      simp only [numErr] at hsum
      have HSUM := Lib.hid hsum
      clear hsum hr2
      go_enter Try.func23, Try.ntmps23
      go_wp2_with (first
        | (go_at_call 41; refine (Is 1 _).mono ?_; rintro e w' ⟨rfl, rfl⟩)
        | fail)
      refine HH.out.mono ?_
      rintro e w1 ⟨rfl, hx1⟩
      have hx : Ext w w1 := HX0.out.trans hx1
      have hS1 := HBS.out.keep hx1 (by simp)
      have hP1 := HBP.out.keep hx1 (by simp)
      have HX := Lib.hid hx
      have HPC := Lib.hid (show w1.cell? ⟨w.heap.size + 1, 1, none⟩ = some (.int .u64 (p1 : Int)) from hP1.cell 1)
      have HMC := Lib.hid (show w1.cell? ⟨w.heap.size, 2, none⟩ = some (.int .u64 (s.m0 : Int)) from hS1.cell 2)
      have HMM := Lib.hid (show w1.cell? ⟨w.heap.size, 3, none⟩ = some (.int .u64 (s.m1 : Int)) from hS1.cell 3)
      have HTT := Lib.hid (show w1.cell? ⟨w.heap.size, 5, none⟩ = some (.int .u64 (s.t1 : Int)) from hS1.cell 5)
      clear hx hS1 hP1 hx1
      go_wp2
      refine startM Since (by kernel_rfl) ?_
      refine takeE 0 rfl (by kernel_rfl) (by kernel_rfl) (by kernel_rfl) rfl (fun _ _ _ _ h => h) rfl (fun K hK => ?_)
      go_big_quiet_op
      first | refine hK _ ?_ | refine ⟨_, fun _ _ => rfl, hK _ ?_⟩
      clear hK K
      refine takeE 1 rfl (by kernel_rfl) (by kernel_rfl) (by kernel_rfl) rfl (fun _ _ _ _ h => h) rfl (fun K hK => ?_)
      go_big_quiet_op
      first | refine hK _ ?_ | refine ⟨_, fun _ _ => rfl, hK _ ?_⟩
      clear hK K
      refine takeE 2 rfl (by kernel_rfl) (by kernel_rfl) (by kernel_rfl) rfl (fun _ _ _ _ h => h) rfl (fun K hK => ?_)
      refine quiet_cell 23 (.tmp 27) rfl _ rfl _ _ Try.underlying23 rfl (fun W' h => (World.cell?_of_block (h.ext.block _ (World.block_lt_of_cell? _ _ HPC.out) (by simp))).trans HPC.out) ?_
      refine hK _ ?_
      simp only [Act.put, List.setIfInBounds_toArray, List.set_cons_succ, List.set_cons_zero]
      clear hK K
      refine takeE 3 rfl (by kernel_rfl) (by kernel_rfl) (by kernel_rfl) rfl (fun _ _ _ _ h => h) rfl (fun K hK => ?_)
      go_big_quiet_op
      first | refine hK _ ?_ | refine ⟨_, fun _ _ => rfl, hK _ ?_⟩
      clear hK K
      refine takeE 5 rfl (by kernel_rfl) (by kernel_rfl) (by kernel_rfl) rfl (fun _ _ _ _ h => h) rfl (fun K hK => ?_)
      go_big_quiet_op
      first | refine hK _ ?_ | refine ⟨_, fun _ _ => rfl, hK _ ?_⟩
      clear hK K
      refine stepM 4 rfl (by kernel_rfl) rfl (fun K hK => ?_)
      go_simp
      refine (Other 1 _ (by omega) (by omega)).mono ?_
      rintro e W2 ⟨rfl, rfl⟩
      refine hK _ _ (Ext.refl _) ?_
      clear hK K
      refine takeE 6 rfl (by kernel_rfl) (by kernel_rfl) (by kernel_rfl) rfl (fun _ _ _ _ h => h) rfl (fun K hK => ?_)
      go_big_quiet_op
      first | refine hK _ ?_ | refine ⟨_, fun _ _ => rfl, hK _ ?_⟩
      clear hK K
      refine takeE 7 rfl (by kernel_rfl) (by kernel_rfl) (by kernel_rfl) rfl (fun _ _ _ _ h => h) rfl (fun K hK => ?_)
      refine quiet_cell 23 (.tmp 32) rfl _ rfl _ _ Try.underlying23 rfl (fun W' h => (World.cell?_of_block (h.ext.block _ (World.block_lt_of_cell? _ _ HMC.out) (by simp))).trans HMC.out) ?_
      refine hK _ ?_
      simp only [Act.put, List.setIfInBounds_toArray, List.set_cons_succ, List.set_cons_zero]
      clear hK K
      refine stepM 8 rfl (by kernel_rfl) rfl (fun K hK => ?_)
      go_simp
      refine hK _ _ ((Ext.refl _).alloc _) ?_
      clear hK K
      refine stepM 9 rfl (by kernel_rfl) rfl (fun K hK => ?_)
      go_simp
      refine (HSUM.out w1.drew).mono ?_
      rintro e W3 ⟨rfl, rfl⟩
      refine hK _ _ (Ext.refl _) ?_
      clear hK K
      refine takeE 10 rfl (by kernel_rfl) (by kernel_rfl) (by kernel_rfl) rfl (fun _ _ _ _ h => h) rfl (fun K hK => ?_)
      go_big_quiet_op
      first | refine hK _ ?_ | refine ⟨_, fun _ _ => rfl, hK _ ?_⟩
      clear hK K
      refine takeE 11 rfl (by kernel_rfl) (by kernel_rfl) (by kernel_rfl) rfl (fun _ _ _ _ h => h) rfl (fun K hK => ?_)
      go_big_quiet_op
      first | refine hK _ ?_ | refine ⟨_, fun _ _ => rfl, hK _ ?_⟩
      clear hK K
      refine takeE 13 rfl (by kernel_rfl) (by kernel_rfl) (by kernel_rfl) rfl (fun _ _ _ _ h => h) rfl (fun K hK => ?_)
      go_big_quiet_op
      first | refine hK _ ?_ | refine ⟨_, fun _ _ => rfl, hK _ ?_⟩
      clear hK K
      refine takeE 12 rfl (by kernel_rfl) (by kernel_rfl) (by kernel_rfl) rfl (fun _ _ _ _ h => h) rfl (fun K hK => ?_)
      go_big_quiet_op
      first | refine hK _ ?_ | refine ⟨_, fun _ _ => rfl, hK _ ?_⟩
      clear hK K
      refine takeE 14 rfl (by kernel_rfl) (by kernel_rfl) (by kernel_rfl) rfl (fun _ _ _ _ h => h) rfl (fun K hK => ?_)
      go_big_quiet_op
      first | refine hK _ ?_ | refine ⟨_, fun _ _ => rfl, hK _ ?_⟩
      clear hK K
      refine doneM (by kernel_rfl) ?_ _
      have hx2 : Ext w (w1.drew.alloc (.cells #[.int .u64 (p1 : Int), .int .u64 (s.m0 : Int)] 23)) := HX.out.drew.alloc _
      have hmm2 := (World.cell?_of_block (((Ext.refl w1).drew.alloc (.cells #[.int .u64 (p1 : Int), .int .u64 (s.m0 : Int)] 23)).block _ (World.block_lt_of_cell? _ _ HMM.out) (by simp))).trans HMM.out
      have htt2 := (World.cell?_of_block (((Ext.refl w1).drew.alloc (.cells #[.int .u64 (p1 : Int), .int .u64 (s.m0 : Int)] 23)).block _ (World.block_lt_of_cell? _ _ HTT.out) (by simp))).trans HTT.out
      generalize w1.drew.alloc (.cells #[.int .u64 (p1 : Int), .int .u64 (s.m0 : Int)] 23) = w2 at hx2 hmm2 htt2 ⊢
      have HX2 := Lib.hid hx2
      have HMM2 := Lib.hid hmm2
      have HTT2 := Lib.hid htt2
      clear hx2 hmm2 htt2 HMM HTT HX HSUM HPC HMC
      go_wp2
      refine startM Since (by kernel_rfl) ?_
      refine takeE 0 rfl (by kernel_rfl) (by kernel_rfl) (by kernel_rfl) rfl (fun _ _ _ _ h => h) rfl (fun K hK => ?_)
      go_big_quiet_op
      first | refine hK _ ?_ | refine ⟨_, fun _ _ => rfl, hK _ ?_⟩
      clear hK K
      refine takeE 1 rfl (by kernel_rfl) (by kernel_rfl) (by kernel_rfl) rfl (fun _ _ _ _ h => h) rfl (fun K hK => ?_)
      go_big_quiet_op
      first | refine hK _ ?_ | refine ⟨_, fun _ _ => rfl, hK _ ?_⟩
      clear hK K
      refine takeE 2 rfl (by kernel_rfl) (by kernel_rfl) (by kernel_rfl) rfl (fun _ _ _ _ h => h) rfl (fun K hK => ?_)
      go_big_quiet_op
      first | refine hK _ ?_ | refine ⟨_, fun _ _ => rfl, hK _ ?_⟩
      clear hK K
      refine takeE 3 rfl (by kernel_rfl) (by kernel_rfl) (by kernel_rfl) rfl (fun _ _ _ _ h => h) rfl (fun K hK => ?_)
      refine quiet_cell 23 (.tmp 43) rfl _ rfl _ _ Try.underlying23 rfl (fun W' h => (World.cell?_of_block (h.ext.block _ (World.block_lt_of_cell? _ _ HMM2.out) (by simp))).trans HMM2.out) ?_
      refine hK _ ?_
      simp only [Act.put, List.setIfInBounds_toArray, List.set_cons_succ, List.set_cons_zero]
      clear hK K
      refine takeE 4 rfl (by kernel_rfl) (by kernel_rfl) (by kernel_rfl) rfl (fun _ _ _ _ h => h) rfl (fun K hK => ?_)
      go_big_quiet_op
      first | refine hK _ ?_ | refine ⟨_, fun _ _ => rfl, hK _ ?_⟩
      clear hK K
      refine takeE 5 rfl (by kernel_rfl) (by kernel_rfl) (by kernel_rfl) rfl (fun _ _ _ _ h => h) rfl (fun K hK => ?_)
      go_big_quiet_op
      first | refine hK _ ?_ | refine ⟨_, fun _ _ => rfl, hK _ ?_⟩
      clear hK K
      refine takeE 6 rfl (by kernel_rfl) (by kernel_rfl) (by kernel_rfl) rfl (fun _ _ _ _ h => h) rfl (fun K hK => ?_)
      go_big_quiet_op
      first | refine hK _ ?_ | refine ⟨_, fun _ _ => rfl, hK _ ?_⟩
      clear hK K
      refine takeE 7 rfl (by kernel_rfl) (by kernel_rfl) (by kernel_rfl) rfl (fun _ _ _ _ h => h) rfl (fun K hK => ?_)
      refine quiet_cell 23 (.tmp 47) rfl _ rfl _ _ Try.underlying23 rfl (fun W' h => (World.cell?_of_block (h.ext.block _ (World.block_lt_of_cell? _ _ HTT2.out) (by simp))).trans HTT2.out) ?_
      refine hK _ ?_
      simp only [Act.put, List.setIfInBounds_toArray, List.set_cons_succ, List.set_cons_zero]
      clear hK K
      refine takeE 8 rfl (by kernel_rfl) (by kernel_rfl) (by kernel_rfl) rfl (fun _ _ _ _ h => h) rfl (fun K hK => ?_)
      go_big_quiet_op
      first | refine hK _ ?_ | refine ⟨_, fun _ _ => rfl, hK _ ?_⟩
      clear hK K
      refine takeE 11 rfl (by kernel_rfl) (by kernel_rfl) (by kernel_rfl) rfl (fun _ _ _ _ h => h) rfl (fun K hK => ?_)
      go_big_quiet_op
      first | refine hK _ ?_ | refine ⟨_, fun _ _ => rfl, hK _ ?_⟩
      clear hK K
      refine stepM 9 rfl (by kernel_rfl) rfl (fun K hK => ?_)
      go_simp
      refine hK _ _ ((Ext.refl _).alloc _) ?_
      clear hK K
      refine takeE 10 rfl (by kernel_rfl) (by kernel_rfl) (by kernel_rfl) rfl (fun _ _ _ _ h => h) rfl (fun K hK => ?_)
      go_big_quiet_op
      first | refine hK _ ?_ | refine ⟨_, fun _ _ => rfl, hK _ ?_⟩
      clear hK K
      refine doneM (by kernel_rfl) ?_ _
      have hx3 : Ext w ((w2.alloc (.cells #[.int .u64 (s.m1 : Int), .int .u64 (s.t1 : Int), .int .u64 (held : Int)] 23)).drew) := (HX2.out.alloc _).drew
      have hb3 : Blk ((w2.alloc (.cells #[.int .u64 (s.m1 : Int), .int .u64 (s.t1 : Int), .int .u64 (held : Int)] 23)).drew) w2.heap.size 23 (([s.m1, s.t1, held] : List Nat).map fun n : Nat => Value.int .u64 (n : Int)) := Blk.new w2 _ _
      have hol : ([s.m1, s.t1, held] : List Nat).length = 3 := rfl
      have hob : ∀ x ∈ ([s.m1, s.t1, held] : List Nat), x < M64 := by simp [hmm, htt, hhb]
      generalize (w2.alloc (.cells #[.int .u64 (s.m1 : Int), .int .u64 (s.t1 : Int), .int .u64 (held : Int)] 23)).drew = w3 at hx3 hb3 ⊢
      obtain ⟨outs, houts⟩ : ∃ outs : List Nat, outs = [s.m1, s.t1, held] := ⟨_, rfl⟩
      rw [← houts] at hb3 hol hob
      have HOUT := Lib.hid houts
      clear houts
      generalize w2.heap.size = G3 at hb3 ⊢
      have hcx : ∀ k, k < 3 → w3.cell? ⟨G3, k, none⟩ = some (.int .u64 ((outs.getD k 0 : Nat) : Int)) := fun k hk => by
        rw [hb3.cell k, List.getElem?_map, List.getElem?_eq_getElem (by omega), List.getD_eq_getElem?_getD, List.getElem?_eq_getElem (by omega)]; rfl
      have HCX := Lib.hid hcx
      have HX3 := Lib.hid hx3
      have HOL := Lib.hid hol
      have HOB := Lib.hid hob
      clear hcx hx3 hol hob hb3 HX2 HMM2 HTT2
      go_wp2
      go_loop [9, 10, 12, 52] (fun e h p i => ∃ k n : Nat, k ≤ 3 ∧ n < M64 ∧ i = .int .i64 k ∧ h = .int .u64 n ∧ subL has outs = subL n (outs.drop k) ∧ (∃ z, e = z) ∧ ∃ z, p = z) (fun _ _ _ i => 3 - (intOf i).toNat)
      case atStart => exact ⟨0, has, by omega, hhb2, rfl, rfl, rfl, ⟨_, rfl⟩, _, rfl⟩
      case round =>
        obtain ⟨k, n, hk, hn, rfl, rfl, hsub, ⟨z, rfl⟩, z2, rfl⟩ := hrel
        by_cases hlt : k < 3
        · have hck := HCX.out k hlt
          have hdr : outs.drop k = outs.getD k 0 :: outs.drop (k + 1) := by
            rw [List.drop_eq_getElem_cons (by rw [HOL.out]; exact hlt), List.getD_eq_getElem?_getD, List.getElem?_eq_getElem (by rw [HOL.out]; exact hlt)]; rfl
          have hxb : outs.getD k 0 < M64 := by
            rw [List.getD_eq_getElem?_getD, List.getElem?_eq_getElem (by rw [HOL.out]; exact hlt)]
            exact HOB.out _ (List.getElem_mem _)
          rw [hdr] at hsub
          generalize outs.getD k 0 = x at hck hsub hxb
          have hS := fun W => Money_Sub n x W hn hxb
          have HSB := Lib.hid hsub
          clear hdr hsub
          by_cases hlt2 : n < x
          · have e1 : subM n x = (0, 12) := by unfold subM; rw [if_pos hlt2]
            have e2 : subL n (x :: outs.drop (k + 1)) = (0, 12) := by rw [subL, if_pos hlt2]
            rw [e1] at hS
            rw [e2] at HSB
            simp only [numErr] at hS
            have HSS := Lib.hid hS
            clear e1 e2 hS
            go_wp2_with (go_at_call 42; refine (HSS.out _).mono ?_; rintro e w' ⟨rfl, rfl⟩)
            go_ret2
            exact ⟨by rw [← HOUT.out, HSB.out]; rfl, HX3.out⟩
          · have e1 : subM n x = (n - x, 0) := by unfold subM; rw [if_neg hlt2]
            have e2 : subL n (x :: outs.drop (k + 1)) = subL (n - x) (outs.drop (k + 1)) := by rw [subL, if_neg hlt2]
            rw [e1] at hS
            rw [e2] at HSB
            simp only [numErr] at hS
            have HSS := Lib.hid hS
            clear e1 e2 hS
            go_wp2_with (go_at_call 42; refine (HSS.out _).mono ?_; rintro e w' ⟨rfl, rfl⟩)
            go_round
            case rel => exact ⟨k + 1, n - x, by omega, by omega, by go_num, rfl, HSB.out, ⟨_, rfl⟩, _, rfl⟩
            case measure => simp [intOf]; omega
        · obtain rfl : k = 3 := by omega
          rw [List.drop_eq_nil_of_le (by rw [HOL.out]; exact Nat.le_refl _), subL] at hsub
          have HSB := Lib.hid hsub
          clear hsub
          go_wp2
          go_ret2
          exact ⟨by rw [← HOUT.out, HSB.out]; rfl, HX3.out⟩
    · rw [hr2, if_neg (by decide)]
      rw [hr2] at hsum
      simp only [numErr] at hsum
      have HSUM := Lib.hid hsum
      clear hsum hr2
      go_enter Try.func23, Try.ntmps23
      go_wp2_with (first
        | (go_at_call 41; refine (Is 1 _).mono ?_; rintro e w' ⟨rfl, rfl⟩)
        | fail)
      refine HH.out.mono ?_
      rintro e w1 ⟨rfl, hx1⟩
      have hx : Ext w w1 := HX0.out.trans hx1
      have hS1 := HBS.out.keep hx1 (by simp)
      have hP1 := HBP.out.keep hx1 (by simp)
      have HX := Lib.hid hx
      have HPC := Lib.hid (show w1.cell? ⟨w.heap.size + 1, 1, none⟩ = some (.int .u64 (p1 : Int)) from hP1.cell 1)
      have HMC := Lib.hid (show w1.cell? ⟨w.heap.size, 2, none⟩ = some (.int .u64 (s.m0 : Int)) from hS1.cell 2)
      have HMM := Lib.hid (show w1.cell? ⟨w.heap.size, 3, none⟩ = some (.int .u64 (s.m1 : Int)) from hS1.cell 3)
      have HTT := Lib.hid (show w1.cell? ⟨w.heap.size, 5, none⟩ = some (.int .u64 (s.t1 : Int)) from hS1.cell 5)
      clear hx hS1 hP1 hx1
      go_wp2
      refine startM Since (by kernel_rfl) ?_
      refine takeE 0 rfl (by kernel_rfl) (by kernel_rfl) (by kernel_rfl) rfl (fun _ _ _ _ h => h) rfl (fun K hK => ?_)
      go_big_quiet_op
      first | refine hK _ ?_ | refine ⟨_, fun _ _ => rfl, hK _ ?_⟩
      clear hK K
      refine takeE 1 rfl (by kernel_rfl) (by kernel_rfl) (by kernel_rfl) rfl (fun _ _ _ _ h => h) rfl (fun K hK => ?_)
      go_big_quiet_op
      first | refine hK _ ?_ | refine ⟨_, fun _ _ => rfl, hK _ ?_⟩
      clear hK K
      refine takeE 2 rfl (by kernel_rfl) (by kernel_rfl) (by kernel_rfl) rfl (fun _ _ _ _ h => h) rfl (fun K hK => ?_)
      refine quiet_cell 23 (.tmp 27) rfl _ rfl _ _ Try.underlying23 rfl (fun W' h => (World.cell?_of_block (h.ext.block _ (World.block_lt_of_cell? _ _ HPC.out) (by simp))).trans HPC.out) ?_
      refine hK _ ?_
      simp only [Act.put, List.setIfInBounds_toArray, List.set_cons_succ, List.set_cons_zero]
      clear hK K
      refine takeE 3 rfl (by kernel_rfl) (by kernel_rfl) (by kernel_rfl) rfl (fun _ _ _ _ h => h) rfl (fun K hK => ?_)
      go_big_quiet_op
      first | refine hK _ ?_ | refine ⟨_, fun _ _ => rfl, hK _ ?_⟩
      clear hK K
      refine takeE 5 rfl (by kernel_rfl) (by kernel_rfl) (by kernel_rfl) rfl (fun _ _ _ _ h => h) rfl (fun K hK => ?_)
      go_big_quiet_op
      first | refine hK _ ?_ | refine ⟨_, fun _ _ => rfl, hK _ ?_⟩
      clear hK K
      refine stepM 4 rfl (by kernel_rfl) rfl (fun K hK => ?_)
      go_simp
      refine (Other 1 _ (by omega) (by omega)).mono ?_
      rintro e W2 ⟨rfl, rfl⟩
      refine hK _ _ (Ext.refl _) ?_
      clear hK K
      refine takeE 6 rfl (by kernel_rfl) (by kernel_rfl) (by kernel_rfl) rfl (fun _ _ _ _ h => h) rfl (fun K hK => ?_)
      go_big_quiet_op
      first | refine hK _ ?_ | refine ⟨_, fun _ _ => rfl, hK _ ?_⟩
      clear hK K
      refine takeE 7 rfl (by kernel_rfl) (by kernel_rfl) (by kernel_rfl) rfl (fun _ _ _ _ h => h) rfl (fun K hK => ?_)
      refine quiet_cell 23 (.tmp 32) rfl _ rfl _ _ Try.underlying23 rfl (fun W' h => (World.cell?_of_block (h.ext.block _ (World.block_lt_of_cell? _ _ HMC.out) (by simp))).trans HMC.out) ?_
      refine hK _ ?_
      simp only [Act.put, List.setIfInBounds_toArray, List.set_cons_succ, List.set_cons_zero]
      clear hK K
      refine stepM 8 rfl (by kernel_rfl) rfl (fun K hK => ?_)
      go_simp
      refine hK _ _ ((Ext.refl _).alloc _) ?_
      clear hK K
      refine stepM 9 rfl (by kernel_rfl) rfl (fun K hK => ?_)
      go_simp
      refine (HSUM.out w1.drew).mono ?_
      rintro e W3 ⟨rfl, rfl⟩
      refine hK _ _ (Ext.refl _) ?_
      clear hK K
      refine takeE 10 rfl (by kernel_rfl) (by kernel_rfl) (by kernel_rfl) rfl (fun _ _ _ _ h => h) rfl (fun K hK => ?_)
      go_big_quiet_op
      first | refine hK _ ?_ | refine ⟨_, fun _ _ => rfl, hK _ ?_⟩
      clear hK K
      refine takeE 11 rfl (by kernel_rfl) (by kernel_rfl) (by kernel_rfl) rfl (fun _ _ _ _ h => h) rfl (fun K hK => ?_)
      go_big_quiet_op
      first | refine hK _ ?_ | refine ⟨_, fun _ _ => rfl, hK _ ?_⟩
      clear hK K
      refine takeE 13 rfl (by kernel_rfl) (by kernel_rfl) (by kernel_rfl) rfl (fun _ _ _ _ h => h) rfl (fun K hK => ?_)
      go_big_quiet_op
      first | refine hK _ ?_ | refine ⟨_, fun _ _ => rfl, hK _ ?_⟩
      clear hK K
      refine takeE 12 rfl (by kernel_rfl) (by kernel_rfl) (by kernel_rfl) rfl (fun _ _ _ _ h => h) rfl (fun K hK => ?_)
      go_big_quiet_op
      first | refine hK _ ?_ | refine ⟨_, fun _ _ => rfl, hK _ ?_⟩
      clear hK K
      refine takeE 14 rfl (by kernel_rfl) (by kernel_rfl) (by kernel_rfl) rfl (fun _ _ _ _ h => h) rfl (fun K hK => ?_)
      go_big_quiet_op
      first | refine hK _ ?_ | refine ⟨_, fun _ _ => rfl, hK _ ?_⟩
      clear hK K
      refine doneM (by kernel_rfl) ?_ _
      go_wp2
      go_ret2
      exact ⟨rfl, HX.out.drew.alloc _⟩
  · rw [hr1] at hh ⊢
    rw [if_neg (by decide)]
    simp only [numErr] at hh
    have HH := Lib.hid hh
    clear hh hr1 hsum hcas2
    go_enter Try.func23, Try.ntmps23
    go_wp2_with (first
      | (go_at_call 41; refine (Is 1 _).mono ?_; rintro e w' ⟨rfl, rfl⟩)
      | fail)
    refine HH.out.mono ?_
    rintro e w1 ⟨rfl, hx1⟩
    have hx : Ext w w1 := HX0.out.trans hx1
    go_wp2
    go_ret2
    exact ⟨rfl, hx⟩
theorem Free (s : St) (v : Value) (p0 p1 : Nat) (side : Int) (w : World) (F : Fp) (hs : StOk s) (hp0 : p0 < M64) (hp1 : p1 < M64) (hc : Conds w F v s.cs) (hF : ∀ b, F b → b < w.heap.size) (hlen : s.cs.length ≤ 4398046511104) :
    Calls Try.prog 23 #[stv s v, .agg #[.int .u64 (p0 : Int), .int .u64 (p1 : Int)], .int .i64 side] w fun e w' => e = .returned (numErr (freeM s p0 p1 side)) ∧ Ext w w' := by
  by_cases h0 : side = 0
  · subst h0; exact Free0 s v p0 p1 w F hs hp0 hp1 hc hF hlen
  · by_cases h1 : side = 1
    · subst h1; exact Free1 s v p0 p1 w F hs hp0 hp1 hc hF hlen
    · have e : freeM s p0 p1 side = (0, 1) := by unfold freeM; rw [if_neg (by simp [h0, h1])]
      have hi := Is side
      rw [show decide (side = 0 ∨ side = 1) = false by simp [h0, h1]] at hi
      rw [e]
      have HI := Lib.hid hi
      clear e hi h0 h1
      go_enter Try.func23, Try.ntmps23
      go_wp2_with (go_at_call 41; refine (HI.out _).mono ?_; rintro e w' ⟨rfl, rfl⟩)
      go_ret2
      exact ⟨rfl, ((Ext.refl w).alloc _).alloc _⟩
end Go.Proofs.Ytnpolfihbfdggaa
