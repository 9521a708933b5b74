/- The walk of lamp's leaf. Condition: the pieces have 1024 bytes. -/
import Derived.Test.YtfoomnibfibfnaaLSign
import Derived.Test.YtfoomnibfibfnaaOut
set_option linter.unusedVariables false
set_option linter.unusedSimpArgs false
set_option linter.unnecessarySimpa false
namespace Go.Proofs.Ytfoomnibfibfnaa
open Go.RowKit

theorem wpList_indexAgg {P : Program} {w : World} {ops : Array Oper} {rest : List Oper} {o : Oper} {a : Act} {Q : Exit → Act → World → Prop} (hgd : o.guard = none ∨ Region.wanted o (yielded ops a.tmps) = true) (t : TypeId) (x y : Operand) (ho : o.op = .index t x y)
    (cs piece : List Value) (k n m : Nat) (q : IntKind) (e : TypeId) (d : TypeDesc) (hx : a.eval x = .agg cs.toArray) (hy : a.eval y = .int q (k : Int)) (hu : P.underlying t = some (.array n e)) (hk : k < n)
    (he : P.underlying e = some d) (hd : isAggD d = true) (hs : (P.info? e).map (·.size) = some m) (hc : (cs.drop (k * m)).take m = piece) (h : wpList P ops Q rest (a.put o.dst (.agg piece.toArray)) w) : wpList P ops Q (o :: rest) a w :=
  wpList_want hgd fun K hK => by
    have hagg : (isAgg e).run P w = .ok true w := by
      unfold isAgg
      rw [Sem.run_bind, run_underlying he w]
      cases d <;> simp_all [isAggD]
    have hr : (Instr.index t (.agg cs.toArray) (.int q (k : Int))).run P w = .ok (.agg piece.toArray) w := by
      have hk2 : (0 : Int) ≤ (k : Int) ∧ (k : Int) < (n : Int) := by omega
      obtain ⟨i, hi2, rfl⟩ := Option.map_eq_some_iff.1 hs
      rw [← hc]
      simp [Instr.index, asIntOf, run_underlying hu, Nat.not_le_of_lt hk, hk, sizeOf, typeInfo, hi2, part, hagg]
    unfold Oper.wp execOp
    simp only [ho, hx, hy, Sem.run_bind, hr, Result.andThen_ok, Sem.run_pure]
    exact hK _ _ h
theorem two_size {n : Nat} (h : n = 32) : (Try.prog.info? 71).map (·.size) = some n := by subst h; kernel_rfl
theorem two_zero : (Try.prog.info? 71).bind (fun i => i.zero.map (·.cells)) = some (bv (List.replicate 32 0)).toArray := by kernel_rfl
theorem all_size {n : Nat} (h : n = 1024) : (Try.prog.info? 72).map (·.size) = some n := by subst h; kernel_rfl
theorem take_step32 (L : List UInt8) (hL : L.length = 1024) {k : Nat} (h : k < 32) : L.take (32 * (k + 1)) = L.take (32 * k) ++ (((L.drop (k * 32)).take 32).take 16 ++ ((L.drop (k * 32)).take 32).drop 16) := by
  rw [List.take_append_drop, Nat.mul_succ, List.take_add, Nat.mul_comm k 32]
theorem bv_drop_take (L : List UInt8) (a b : Nat) : ((bv L).drop a).take b = bv ((L.drop a).take b) := by simp [bv, List.map_drop, List.map_take]
set_option maxRecDepth 100000 in
set_option maxHeartbeats 4000000 in
theorem LeafW (L : List UInt8) (hL : L.length = 1024) (w : World) :
    Calls Try.prog 32 #[.agg (bv L).toArray] w fun e w' => e = .returned (.agg (bv (leafOf L)).toArray) ∧ Ext w w' := by
  obtain ⟨i0, hi, hz0, hz1, hz2⟩ := info_parts u8_info
  have hzd := digest_zero
  have hzt := two_zero
  have hdl : (bv (List.replicate 32 0)).length = 32 := by simp
  generalize bv (List.replicate 32 0) = D at hzd hzt hdl
  have hll : (bv L).length = 1024 := by rw [bv_length]; exact hL
  have hpc := fun k => bv_drop_take L (k * 32) 32
  have hb0 : Blk ((w.alloc (.cells (bv L).toArray 72)).alloc (.cells D.toArray 31)) w.heap.size 72 (bv L) := (Blk.new _ _ _).keep ((Ext.refl _).alloc _) (by simp)
  have hb1 : Blk ((w.alloc (.cells (bv L).toArray 72)).alloc (.cells D.toArray 31)) (w.heap.size + 1) 31 D := Blk.fresh (by simp) _ _
  have hx0 : Ext w ((w.alloc (.cells (bv L).toArray 72)).alloc (.cells D.toArray 31)) := ((Ext.refl w).alloc _).alloc _
  have hcl := hb0.cells
  generalize bv L = B at *
  have HB1 := Lib.hid hb1
  have HX0 := Lib.hid hx0
  have HDL := Lib.hid hdl
  have HLL := Lib.hid hll
  have HL := Lib.hid hL
  have HPC := Lib.hid hpc
  clear hb0 hb1 hx0 hdl hll hL hpc
  go_enter Try.func32, Try.ntmps32
  go_wp2_with (first
    | (refine wpList_alloc _ rfl 31 rfl _ hzd ?_)
    | (refine wpList_load_agg _ rfl 72 (.tmp 1) rfl _ rfl B _ Try.underlying72 rfl (all_size HLL.out) hcl ?_)
    | fail)
  go_loopw [3, 5, 7] (fun u p i wr => ∃ k : Nat, k ≤ 32 ∧ i = .int .i64 k ∧ OwnB wr u (L.take (32 * k)) ∧ Ext w wr ∧ Blk wr (w.heap.size + 1) 31 D ∧ (∀ b, u.ownBlock = some b → w.heap.size + 2 ≤ b) ∧ ∃ q, p = q) (fun _ _ i _ => 32 - (intOf i).toNat)
  case atStart => exact ⟨0, by omega, rfl, Own.nil _ _ _, HX0.out, HB1.out, fun b hb => (by simp [Value.ownBlock] at hb), _, rfl⟩
  case round =>
    clear HX0 HB1 hcl
    obtain ⟨k, hk, rfl, hou, hx, hb1, hne, q, rfl⟩ := hrel
    by_cases hlt : k < 32
    · have hpp := HPC.out k
      have hst := take_step32 L HL.out hlt
      have hpl : ((L.drop (k * 32)).take 32).length = 32 := by rw [List.length_take, List.length_drop, HL.out]; omega
      have htl : (L.take (32 * k)).length = 32 * k := by rw [List.length_take, HL.out]; omega
      have hpo := bv_one ((L.drop (k * 32)).take 32)
      have hbl : (bv ((L.drop (k * 32)).take 32)).length = 32 := by rw [bv_length]; exact hpl
      have hp1 : (((L.drop (k * 32)).take 32).take 16).length = 16 := by rw [List.length_take, hpl]; rfl
      have hp2 : (((L.drop (k * 32)).take 32).drop 16).length = 16 := by rw [List.length_drop, hpl]
      have hcb : Blk ((wr.alloc (.cells (bv ((L.drop (k * 32)).take 32)).toArray 71)).drew) wr.heap.size 71 (bv ((L.drop (k * 32)).take 32)) := (Blk.new _ _ _).keep (Ext.refl _).drew (by simp)
      have hk1 : Cells ((wr.alloc (.cells (bv ((L.drop (k * 32)).take 32)).toArray 71)).drew) ⟨wr.heap.size, 0, none⟩ (bv (((L.drop (k * 32)).take 32).take 16)) := by
        have h := hcb.cells.take 16
        have e : (bv ((L.drop (k * 32)).take 32)).take 16 = bv (((L.drop (k * 32)).take 32).take 16) := by simp [bv, List.map_take, List.map_drop]
        rw [e] at h; exact h
      have hk2 : Cells ((wr.alloc (.cells (bv ((L.drop (k * 32)).take 32)).toArray 71)).drew) ⟨wr.heap.size, 16, none⟩ (bv (((L.drop (k * 32)).take 32).drop 16)) := by
        have h := hcb.cells.drop 16
        have e : (bv ((L.drop (k * 32)).take 32)).drop 16 = bv (((L.drop (k * 32)).take 32).drop 16) := by simp [bv, List.map_take, List.map_drop]
        rw [addr_at, e] at h; exact h
      have hxw : Ext wr ((wr.alloc (.cells (bv ((L.drop (k * 32)).take 32)).toArray 71)).drew) := ((Ext.refl wr).alloc _).trans (Ext.refl _).drew
      have hou2 := hou.ext hxw
      have hx2 := hx.trans hxw
      have hb2 := hb1.keep hxw (by simp)
      have hlt0 := OwnB.lt hou
      generalize ((L.drop (k * 32)).take 32).take 16 = P1 at *
      generalize ((L.drop (k * 32)).take 32).drop 16 = P2 at *
      generalize bv ((L.drop (k * 32)).take 32) = PP at *
      have HX := Lib.hid hx2
      have HB := Lib.hid hb2
      have HO := Lib.hid hou2
      have HNE := Lib.hid hne
      have HLT := Lib.hid hlt0
      have HST := Lib.hid hst
      have HTL := Lib.hid htl
      have HBL := Lib.hid hbl
      have HP1 := Lib.hid hp1
      have HP2 := Lib.hid hp2
      have HK1 := Lib.hid hk1
      have HK2 := Lib.hid hk2
      have HCB := Lib.hid hcb
      have HPP := Lib.hid hpp
      clear hou hx hb1 hne hpl htl hbl hp1 hp2 hk1 hk2 hcb hxw hou2 hx2 hb2 hlt0 hst hpp
      go_wp2_with (first
        | (refine wpList_indexAgg (.inl rfl) 72 (.tmp 6) (.tmp 7) rfl B PP k 32 32 _ 71 _ rfl rfl Try.underlying72 hlt Try.underlying71 rfl (two_size rfl) HPP.out ?_)
        | (refine wpList_alloc _ rfl 71 rfl _ hzt ?_)
        | (refine wpList_store_new _ rfl 71 (.tmp 5) (.tmp 9) rfl rfl D PP _ rfl (two_size HBL.out) (by rw [HBL.out, HDL.out]) hpo ?_)
        | fail)
      refine startM (KeepB fun b => b = wr.heap.size) (by kernel_rfl) ?_
      (try simp only [Act.put, List.setIfInBounds_toArray, List.set_cons_succ, List.set_cons_zero])
      have hbg : wr.heap.size < (wr.alloc (.cells PP.toArray 71)).drew.heap.size := HCB.out.lt
      generalize (wr.alloc (.cells PP.toArray 71)).drew = w0 at *
      have HBG := Lib.hid hbg
      clear hbg
      have HNU : Hid (∀ b, u3.ownBlock = some b → b ≠ wr.heap.size) := Lib.hid fun b hb e => by have := HLT.out b hb; omega
      generalize wr.heap.size = gp at *
      refine takeK 0 rfl (by kernel_rfl) (by kernel_rfl) (by kernel_rfl) rfl (fun _ _ _ _ h => h) rfl (fun K hK => ?_)
      go_big_quiet_op
      first | refine hK _ ?_ | refine ⟨_, fun _ _ => rfl, hK _ ?_⟩
      clear hK K
      refine takeK 1 rfl (by kernel_rfl) (by kernel_rfl) (by kernel_rfl) rfl (fun _ _ _ _ h => h) rfl (fun K hK => ?_)
      go_big_quiet_op
      first | refine hK _ ?_ | refine ⟨_, fun _ _ => rfl, hK _ ?_⟩
      clear hK K
      refine takeK 2 rfl (by kernel_rfl) (by kernel_rfl) (by kernel_rfl) rfl (fun _ _ _ _ h => h) rfl (fun K hK => ?_)
      go_big_quiet_op
      first | refine hK _ ?_ | refine ⟨_, fun _ _ => rfl, hK _ ?_⟩
      clear hK K
      refine takeK 4 rfl (by kernel_rfl) (by kernel_rfl) (by kernel_rfl) rfl (fun _ _ _ _ h => h) rfl (fun K hK => ?_)
      go_big_quiet_op
      first | refine hK _ ?_ | refine ⟨_, fun _ _ => rfl, hK _ ?_⟩
      clear hK K
      refine takeK 5 rfl (by kernel_rfl) (by kernel_rfl) (by kernel_rfl) rfl (fun _ _ _ _ h => h) rfl (fun K hK => ?_)
      go_big_quiet_op
      first | refine hK _ ?_ | refine ⟨_, fun _ _ => rfl, hK _ ?_⟩
      clear hK K
      refine stepM 3 rfl (by kernel_rfl) rfl (fun K hK => ?_)
      refine wp_app _ (.tmp 10) (.tmp 12) _ _ rfl 5 5 i0 _ 1 1 Try.underlying55 Try.underlying55 hi hz0 hz1 hz2 rfl (by decide) u3 _ _ rfl HO.out _ 16 16 (bv P1) rfl (by simp [HP1.out]) (fun _ => ⟨_, rfl, HK1.out⟩) (bv_one _) (by rw [HTL.out]; unfold maxLen; omega) (by rw [HTL.out]; omega) ?_
      intro v8 w8 ho8 hm8
      have ho8' : OwnB w8 v8 (L.take (32 * k) ++ P1) := OwnB.app (by rw [HP1.out]; exact ho8)
      have HK28 := Lib.hid (HK2.out.keep (hm8.grown.block _ HBG.out (fun e => HNU.out _ e.symm rfl)))
      have HNE8 : Hid (∀ b, v8.ownBlock = some b → b ≠ gp) := Lib.hid (fun b hb e => by rcases hm8.at_ with h | h <;> first | exact HNU.out b (h.symm.trans hb) e | (have := h b hb; have := HBG.out; omega))
      refine hK _ _ (fun b hb => by subst hb; exact hm8.grown.block _ HBG.out (fun e => HNU.out _ e.symm rfl)) ?_
      clear hK K
      (try simp only [Act.put, List.setIfInBounds_toArray, List.set_cons_succ, List.set_cons_zero])
      refine stepM 6 rfl (by kernel_rfl) rfl (fun K hK => ?_)
      refine wp_app _ (.tmp 13) (.tmp 15) _ _ rfl 5 5 i0 _ 1 1 Try.underlying55 Try.underlying55 hi hz0 hz1 hz2 rfl (by decide) v8 _ _ rfl ho8' _ 16 16 (bv P2) rfl (by simp [HP2.out]) (fun _ => ⟨_, rfl, HK28.out⟩) (bv_one _) (by rw [List.length_append, HTL.out, HP1.out]; unfold maxLen; omega) (by rw [List.length_append, HTL.out, HP1.out]; omega) ?_
      intro v9 w9 ho9 hm9
      replace ho9 : OwnB w9 v9 (L.take (32 * k) ++ P1 ++ P2) := OwnB.app (by rw [HP2.out]; exact ho9)
      refine hK _ _ (fun b hb => by subst hb; exact hm9.grown.block _ (Nat.lt_of_lt_of_le HBG.out hm8.grown.size) (fun e => HNE8.out _ e.symm rfl)) ?_
      clear hK K
      (try simp only [Act.put, List.setIfInBounds_toArray, List.set_cons_succ, List.set_cons_zero])
      refine takeK 7 rfl (by kernel_rfl) (by kernel_rfl) (by kernel_rfl) rfl (fun _ _ _ _ h => h) rfl (fun K hK => ?_)
      go_big_quiet_op
      first | refine hK _ ?_ | refine ⟨_, fun _ _ => rfl, hK _ ?_⟩
      clear hK K
      refine doneM (by kernel_rfl) ?_ _
      have hm2 := hm8.trans hm9
      have hfr : ∀ b, u3.ownBlock = some b → w.heap.size ≤ b := fun b hb => by have := HNE.out b hb; omega
      have hx9 : Ext w w9 := grown_then HX.out hm2.grown (.inr hfr)
      have hb9 : Blk w9 (w.heap.size + 1) 31 D := HB.out.keep hm2.grown (fun e => by have := HNE.out _ e.symm; omega)
      have hne9 : ∀ b, v9.ownBlock = some b → w.heap.size + 2 ≤ b := fun b hb => by
        rcases hm2.at_ with e | hn
        · exact HNE.out b (e.symm.trans hb)
        · have h1 := hn b hb
          have h2 := HX.out.size
          have h3 := HB.out.lt
          omega
      have ho2 : OwnB w9 v9 (L.take (32 * (k + 1))) := by rw [HST.out, ← List.append_assoc]; exact ho9
      have HX9 := Lib.hid hx9
      have HB9 := Lib.hid hb9
      have HN9 := Lib.hid hne9
      have HO9 := Lib.hid ho2
      clear hm2 hb9 hne9 ho2 ho9 hm9 hx9
      go_wp2
      go_roundw
      case rel => exact ⟨k + 1, by omega, by go_num, HO9.out, HX9.out, HB9.out, HN9.out, _, rfl⟩
      case measure => simp [intOf]; omega
    · obtain rfl : k = 32 := by omega
      have ho := hou
      rw [show L.take (32 * 32) = L from List.take_of_length_le (by rw [HL.out]; decide)] at ho
      obtain ⟨A, c, hv⟩ := OwnB.form ho
      subst hv
      have h1 := ho.holds
      have hlt1 := OwnB.lt ho
      have hv := parts_new (w := wr) (T := 55) (n := 1) rfl rfl (by simp [maxLen]) (AllH.one (R := (Ty.sl .u8).holds _ _) h1) hlt1
      have hF : ∀ b, ((Value.slice A L.length c).ownBlock = some b ∨ b = wr.heap.size) → b < (wr.alloc (.cells #[Value.slice A L.length c] 55)).heap.size := by
        rintro b (hb | rfl)
        · have := hlt1 b hb; simp; omega
        · simp
      have hrl : (bv (sha (textM 2 [L]))).length = 32 := by rw [bv_length, sha_length]
      have hro := bv_one (sha (textM 2 [L]))
      have hfor := For_i 2 2 rfl _ [L] _ _ hv hF (by simp [blob, be_length, HL.out])
      have e2 : leafOf L = sha (textM 2 [L]) := rfl
      rw [← e2] at hrl hro hfor
      obtain ⟨R, hR⟩ : ∃ R, R = bv (leafOf L) := ⟨_, rfl⟩
      rw [← hR] at hrl hro hfor
      have HR := Lib.hid hR
      clear hR
      have HFOR := Lib.hid hfor
      have HRL := Lib.hid hrl
      have HX := Lib.hid (hx.alloc (.cells #[Value.slice A L.length c] 55))
      have HB := Lib.hid (hb1.keep ((Ext.refl wr).alloc (.cells #[Value.slice A L.length c] 55)) (by simp))
      clear hx hb1 hou ho h1 hlt1 hv hF hrl hfor hne e2
      generalize L.length = n at *
      clear HL HPC
      go_wp2_with fail
      refine (HFOR.out).mono ?_
      rintro e w4 ⟨rfl, hx4⟩
      have hr4 : w4.heap[w.heap.size + 1]? = some (.cells D.toArray 31 (0, 0)) := HB.out.keep hx4 (by simp)
      have hx5 := HX.out.trans hx4
      go_wp2_with (first
        | (refine wpList_store_row _ rfl 31 (.tmp 2) (.tmp 20) rfl (w.heap.size + 1) rfl D R _ rfl hr4 (digest_size HRL.out) (by rw [HRL.out, HDL.out]) hro ?_)
        | fail)
      have hc9 := Blk.cells (t := 31) (setRow_at (cs' := R.toArray) hr4)
      (try simp only [Exit.inBlock, Exit.then])
      refine bodyPost_ret (results_agg rfl _ _ _ _ _ rfl Try.underlying31 rfl (digest_size HRL.out) hc9) rfl ?_
      exact ⟨by rw [HR.out], setRow_grown hx5 _ _ (by omega)⟩
end Go.Proofs.Ytfoomnibfibfnaa
