/- Walks of the pact's drop and lock. Conditions: the numbers are in their bounds; the payments lie in a row of their own. -/
import Derived.Test.YtnpolfihbfdggaaPDel
set_option linter.unusedVariables false
set_option linter.unusedSimpArgs false
set_option linter.unnecessarySimpa false
namespace Go.Proofs.Ytnpolfihbfdggaa
open Go.RowKit

theorem results_agg2_tmp {P : Program} {fn : Func} {p q u : Tmp} {t1 t2 : TypeId} (h : fn.results = #[.cell p t1, .cell q t2, .tmp u]) (tmps : Array Value) (w : World) (ad bd : Addr) (cs ds : List Value) (d e : TypeDesc)
    (hp : tmps.getD p undef = .pointer (some ad)) (hq : tmps.getD q undef = .pointer (some bd)) (hu : P.underlying t1 = some d) (hv : P.underlying t2 = some e) (hd : isAggD d = true) (he : isAggD e = true)
    (hi : (P.info? t1).map (·.size) = some cs.length) (hj : (P.info? t2).map (·.size) = some ds.length) (hc : Cells w ad cs) (hk : Cells w bd ds) :
    (results fn tmps).run P w = .ok (.tuple #[.agg cs.toArray, .agg ds.toArray, tmps.getD u undef]) w := by
  have hp' : tmps[p]?.getD undef = .pointer (some ad) := by simpa using hp
  have hq' : tmps[q]?.getD undef = .pointer (some bd) := by simpa using hq
  simp [results, h, hp', hq', asAddr, run_load_agg w t1 ad cs d hu hd hi hc, run_load_agg w t2 bd ds e hv he hj hk]
def zcd : Cd := (0, 0, 0, List.replicate 32 0, 0, ())
theorem zcd_cells : (condCells zcd).length = 36 := rfl
/-- What a wish leaves: the row is the elder one, or new. -/
abbrev Left (w w' : World) (v v' : Value) : Prop := Moved w w' v v'
set_option maxRecDepth 100000 in
set_option maxHeartbeats 1000000 in
theorem Drop (s : St) (v : Value) (id : Nat) (w : World) (ho : OwnC w v s.cs) (hlen : List.length (α := Cd) s.cs ≤ 4398046511104) :
    Calls Try.prog 49 #[stv s v, .int .u64 (id : Int)] w fun e w' => ∃ (s' : St) (c : Cd) (z : Int) (v' : Value), e = .returned (.tuple #[stv s' v', .agg (condCells c).toArray, .int .i64 z]) ∧ (condCells c).length = 36 ∧ OwnC w' v' s'.cs ∧ Moved w w' v v' ∧
      ((findM s.cs id < 0 ∧ s' = .zero ∧ z = 6) ∨ (0 ≤ findM s.cs id ∧ z = 0 ∧ s.cs[(findM s.cs id).toNat]? = some c ∧ s' = { s with cs := s.cs.eraseIdx (findM s.cs id).toNat })) := by
  have hcd := ho.holds
  obtain ⟨A, c, rfl⟩ := ho.form
  have hlt := ho.lt
  generalize hzs : zst = Z
  have hz : (Try.prog.info? 36).bind (fun i => i.zero.map (·.cells)) = some Z.toArray := by rw [← hzs]; exact state_zero
  have hzl : Z.length = 7 := by rw [← hzs]; rfl
  generalize hzc : condCells zcd = Y
  have hy : (Try.prog.info? 44).bind (fun i => i.zero.map (·.cells)) = some Y.toArray := by rw [← hzc]; exact cond_zero
  have hyl : Y.length = 36 := by rw [← hzc]; rfl
  have hx0 : Ext w (((w.alloc (.cells #[.int .u32 (s.chan : Int), .int .u64 (s.round : Int), .int .u64 (s.m0 : Int), .int .u64 (s.m1 : Int), .int .u64 (s.t0 : Int), .int .u64 (s.t1 : Int), .slice A (List.length (α := Cd) s.cs) c] 36)).alloc (.cells Z.toArray 36)).alloc (.cells Y.toArray 44)) := (((Ext.refl w).alloc _).alloc _).alloc _
  have hb0 : Blk (((w.alloc (.cells #[.int .u32 (s.chan : Int), .int .u64 (s.round : Int), .int .u64 (s.m0 : Int), .int .u64 (s.m1 : Int), .int .u64 (s.t0 : Int), .int .u64 (s.t1 : Int), .slice A (List.length (α := Cd) s.cs) c] 36)).alloc (.cells Z.toArray 36)).alloc (.cells Y.toArray 44)) w.heap.size 36 (stc s (.slice A (List.length (α := Cd) s.cs) c)) := ((Blk.new w 36 (stc s (.slice A (List.length (α := Cd) s.cs) c))).keep ((Ext.refl _).alloc _) (by simp)).keep ((Ext.refl _).alloc _) (by simp)
  have hb1 : Blk (((w.alloc (.cells #[.int .u32 (s.chan : Int), .int .u64 (s.round : Int), .int .u64 (s.m0 : Int), .int .u64 (s.m1 : Int), .int .u64 (s.t0 : Int), .int .u64 (s.t1 : Int), .slice A (List.length (α := Cd) s.cs) c] 36)).alloc (.cells Z.toArray 36)).alloc (.cells Y.toArray 44)) (w.heap.size + 1) 36 Z := (Blk.new_at (w := w.alloc (.cells #[.int .u32 (s.chan : Int), .int .u64 (s.round : Int), .int .u64 (s.m0 : Int), .int .u64 (s.m1 : Int), .int .u64 (s.t0 : Int), .int .u64 (s.t1 : Int), .slice A (List.length (α := Cd) s.cs) c] 36)) (by simp) _ Z).keep ((Ext.refl _).alloc _) (by simp)
  have hb2 : Blk (((w.alloc (.cells #[.int .u32 (s.chan : Int), .int .u64 (s.round : Int), .int .u64 (s.m0 : Int), .int .u64 (s.m1 : Int), .int .u64 (s.t0 : Int), .int .u64 (s.t1 : Int), .slice A (List.length (α := Cd) s.cs) c] 36)).alloc (.cells Z.toArray 36)).alloc (.cells Y.toArray 44)) (w.heap.size + 2) 44 Y := Blk.new_at (w := (w.alloc (.cells #[.int .u32 (s.chan : Int), .int .u64 (s.round : Int), .int .u64 (s.m0 : Int), .int .u64 (s.m1 : Int), .int .u64 (s.t0 : Int), .int .u64 (s.t1 : Int), .slice A (List.length (α := Cd) s.cs) c] 36)).alloc (.cells Z.toArray 36)) (by simp) _ Y
  have hfd := Find s (.slice A (List.length (α := Cd) s.cs) c) id (((w.alloc (.cells #[.int .u32 (s.chan : Int), .int .u64 (s.round : Int), .int .u64 (s.m0 : Int), .int .u64 (s.m1 : Int), .int .u64 (s.t0 : Int), .int .u64 (s.t1 : Int), .slice A (List.length (α := Cd) s.cs) c] 36)).alloc (.cells Z.toArray 36)).alloc (.cells Y.toArray 44)) _ (hx0.holds hlt hcd) (fun b hb => Nat.lt_of_lt_of_le (hlt b hb) hx0.size)
  have HFD := Lib.hid hfd
  have HX0 := Lib.hid hx0
  have HO := Lib.hid ho
  have HB0 := Lib.hid hb0
  have HB1 := Lib.hid hb1
  have HB2 := Lib.hid hb2
  have HZL := Lib.hid hzl
  have HYL := Lib.hid hyl
  have HZS := Lib.hid hzs
  have HZC := Lib.hid hzc
  clear hfd hx0 hb0 hb1 hb2 hzl hyl hzs hzc
  by_cases hneg : findM s.cs id < 0
  · have hfm : findM s.cs id = -1 := by
      unfold findM at hneg ⊢
      split at hneg
      · omega
      · rename_i h; rw [if_neg h]
    have HNEG := Lib.hid hneg
    rw [hfm] at HFD
    have HZB := Lib.hid (show (Value.agg zst.toArray) = .agg Z.toArray by rw [HZS.out])
    have HYB := Lib.hid (show (Value.agg (condCells zcd).toArray) = .agg Y.toArray by rw [HZC.out])
    clear hneg
    have HFM := Lib.hid hfm
    clear hfm
    have hzo : ∀ u ∈ Z, u.oneCell' = true := by rw [← HZS.out]; decide
    have hyo : ∀ u ∈ Y, u.oneCell' = true := by rw [← HZC.out]; exact condCells_one _
    go_enter Try.func49, Try.ntmps49
    go_wp2_with (first
      | (refine wpList_alloc _ rfl 36 rfl _ hz ?_)
      | (refine wpList_alloc _ rfl 44 rfl _ hy ?_)
      | fail)
    refine HFD.out.mono ?_
    rintro e w1 ⟨rfl, hx1⟩
    have hr1 : w1.heap[w.heap.size + 1]? = some (.cells Z.toArray 36 (0, 0)) := HB1.out.keep hx1 (by simp)
    have hr2 : (w1.setRow (w.heap.size + 1) Z.toArray).heap[w.heap.size + 2]? = some (.cells Y.toArray 44 (0, 0)) := (HB2.out.keep hx1 (by simp)).keep (setRow_only _) (by simp)
    go_wp2_with (first
      | (refine wpList_build (.inl rfl) 36 _ rfl (.agg zst.toArray) (by kernel_rfl) ?_; rw [HZB.out])
      | (refine wpList_build (.inl rfl) 44 _ rfl (.agg (condCells zcd).toArray) (by kernel_rfl) ?_; rw [HYB.out])
      | (refine wpList_store_row _ rfl 36 (.tmp 4) (.tmp 14) rfl (w.heap.size + 1) rfl Z Z _ rfl hr1 (state_size HZL.out) rfl hzo ?_)
      | (refine wpList_store_row _ rfl 44 (.tmp 5) (.tmp 15) rfl (w.heap.size + 2) rfl Y Y _ rfl hr2 (cond_size HYL.out) rfl hyo ?_)
      | fail)
    have hc1 : Cells ((w1.setRow (w.heap.size + 1) Z.toArray).setRow (w.heap.size + 2) Y.toArray) ⟨w.heap.size + 1, 0, none⟩ Z := Blk.cells (t := 36) (Blk.keep (w := w1.setRow (w.heap.size + 1) Z.toArray) (setRow_at hr1) (setRow_only _) (by simp))
    have hc2 : Cells ((w1.setRow (w.heap.size + 1) Z.toArray).setRow (w.heap.size + 2) Y.toArray) ⟨w.heap.size + 2, 0, none⟩ Y := Blk.cells (t := 44) (setRow_at hr2)
    refine bodyPost_ret (results_agg2_tmp rfl _ _ _ _ _ _ _ _ rfl rfl Try.underlying36 Try.underlying44 rfl rfl (state_size HZL.out) (cond_size HYL.out) hc1 hc2) rfl ?_
    refine ⟨.zero, zcd, 6, .slice none 0 0, ?_, by rfl, ⟨by simp [St.zero], Own.nil _ _ _⟩, ⟨Ext.any (grown_then (grown_then (HX0.out.trans hx1) (setRow_only _) (.inr (by rintro g ⟨⟩; omega))) (setRow_only _) (.inr (by rintro g ⟨⟩; omega))) _, .inr (by simp [Value.ownBlock])⟩, .inl ⟨HNEG.out, rfl, rfl⟩⟩
    rw [← HZS.out, ← HZC.out]; rfl
  · obtain ⟨i, hi⟩ : ∃ i : Nat, findM s.cs id = i := ⟨(findM s.cs id).toNat, by omega⟩
    have hil : i < List.length (α := Cd) s.cs := by
      unfold findM at hi hneg
      split at hi
      · rename_i h
        have h2 := List.findIdx_lt_length.2 (List.any_eq_true.1 h)
        omega
      · rename_i h
        rw [if_neg h] at hneg
        omega
    obtain ⟨ck, hck⟩ : ∃ ck, s.cs[i]? = some ck := ⟨_, List.getElem?_eq_getElem hil⟩
    have hckm : ck ∈ s.cs := List.mem_of_getElem? hck
    have hck2 : s.cs[i] = ck := Option.some.inj ((List.getElem?_eq_getElem hil).symm.trans hck)
    have hok := ho.1 ck hckm
    have HCL := Lib.hid (condCells_len hok)
    have hone := condCells_one ck
    rw [hi] at HFD
    have HI := Lib.hid hi
    have HCK := Lib.hid hck
    have HC2 := Lib.hid hck2
    clear hneg hi hck hck2 hckm
    have hi0 : ((i : Int) < 0) = False := by simp
    have hib : (i : Int) + 1 ≤ 4398046511105 := by omega
    go_enter Try.func49, Try.ntmps49
    go_wp2_with (first
      | (refine wpList_alloc _ rfl 36 rfl _ hz ?_)
      | (refine wpList_alloc _ rfl 44 rfl _ hy ?_)
      | fail)
    refine HFD.out.mono ?_
    rintro e w1 ⟨rfl, hx1⟩
    have hxw := HX0.out.trans hx1
    have ho1 := HO.out.ext hxw
    have hbx := HB0.out.keep hx1 (by simp)
    have hcc : ∃ ad, A = some ad ∧ Cells w1 (ad.add (i * 36)) (condCells ck) := by
      obtain ⟨A', c', xs, hv, _, _, _, hcell, hall⟩ := conds_open ho1.holds
      cases hv
      obtain ⟨ad, rfl, _, hcs⟩ := hcell (by omega)
      obtain ⟨h1, _⟩ := conds_at hall hcs hil
      exact ⟨ad, rfl, by rw [← HC2.out]; exact h1⟩
    obtain ⟨ad, rfl, hcc⟩ := hcc
    have c6 : w1.cell? ⟨w.heap.size, 6, none⟩ = some (.slice (some ad) (List.length (α := Cd) s.cs) c) := hbx.cell 6
    have h2 : Ext w1 (w1.alloc (.cells (condCells ck).toArray 44)) := (Ext.refl w1).alloc _
    have hg0 : w.heap.size + 3 ≤ w1.heap.size := by have := hx1.size; simp at this; omega
    have ho2 := ho1.ext h2
    have hb2' := hbx.keep h2 (by simp)
    have hT2 := (HB1.out.keep hx1 (by simp)).keep h2 (by simp)
    have hU2 := (HB2.out.keep hx1 (by simp)).keep h2 (by simp)
    have hC2 : Blk (w1.alloc (.cells (condCells ck).toArray 44)) w1.heap.size 44 (condCells ck) := Blk.new _ _ _
    have c62 : (w1.alloc (.cells (condCells ck).toArray 44)).cell? ⟨w.heap.size, 6, none⟩ = some (.slice (some ad) (List.length (α := Cd) s.cs) c) := hb2'.cell 6
    have hdel := Delete (.slice (some ad) (List.length (α := Cd) s.cs) c) s.cs i (w1.alloc (.cells (condCells ck).toArray 44)) ho2 hil
    have HDEL := Lib.hid hdel
    have HB2' := Lib.hid hb2'
    have HT2 := Lib.hid hT2
    have HU2 := Lib.hid hU2
    have HC3 := Lib.hid hC2
    have HXW := Lib.hid hxw
    have HX12 := Lib.hid h2
    have hgl : ad.block < w.heap.size := hlt _ rfl
    clear hxw ho1 hbx ho2 hb2' hT2 hU2 hC2 hdel h2 hx1 HB0 HB1 HB2 HFD HO
    obtain ⟨C, hC⟩ : ∃ C, C = condCells ck := ⟨_, rfl⟩
    rw [← hC] at hcc hone HCL HDEL HB2' HT2 HU2 HC3 c62 HX12
    have HCE := Lib.hid hC
    clear hC
    go_wp2_with (first
      | (refine wpList_load_agg _ rfl 44 (.tmp 19) rfl _ rfl C _ Try.underlying44 rfl (cond_size HCL.out) hcc ?_)
      | (refine wpList_alloc _ rfl 44 rfl _ hy ?_)
      | (refine wpList_store_new _ rfl 44 (.tmp 8) (.tmp 20) rfl rfl Y C _ rfl (cond_size HCL.out) (by rw [HCL.out, HYL.out]) hone ?_)
      | fail)
    refine HDEL.out.mono ?_
    rintro e w3 ⟨v3, rfl, ho3, hg3, hv3⟩
    obtain ⟨A3, c3, rfl⟩ := ho3.form
    have hne : ∀ b, w.heap.size ≤ b → some b ≠ (Value.slice (some ad) (List.length (α := Cd) s.cs) c).ownBlock := fun b hb e => by
      simp only [Value.ownBlock, Option.some.injEq] at e; omega
    have hb3 := HB2'.out.keep hg3 (hne _ (by omega))
    have c63 : w3.cell? ⟨w.heap.size, 6, none⟩ = some (.slice (some ad) (List.length (α := Cd) s.cs) c) := hb3.cell 6
    have f63 := hb3.free 6
    generalize hn3 : List.length (α := Cd) (s.cs.eraseIdx i) = n3 at *
    have hb4 := hb3.set 6 (.slice A3 n3 c3)
    have e6 : (stc s (.slice (some ad) (List.length (α := Cd) s.cs) c)).set 6 (.slice A3 n3 c3) = stc s (.slice A3 n3 c3) := rfl
    rw [e6] at hb4
    have hg4 : (w3).grownBy (w3.setCell ⟨w.heap.size, 6, none⟩ (.slice A3 n3 c3)) (some w.heap.size) := only_set 6 _
    have hT4 := (HT2.out.keep hg3 (hne _ (by omega))).keep hg4 (by simp)
    have hU4 := (HU2.out.keep hg3 (hne _ (by omega))).keep hg4 (by simp)
    have hC4 := (HC3.out.keep hg3 (hne _ (by omega))).keep hg4 (by simp; omega)
    have hso := stc_one s A3 n3 c3
    have hsl := stc_len s (.slice A3 n3 c3)
    obtain ⟨SC, hSC⟩ : ∃ SC, SC = stc s (.slice A3 n3 c3) := ⟨_, rfl⟩
    rw [← hSC] at hb4 hso hsl
    have HSCE := Lib.hid hSC
    have HSL := Lib.hid hsl
    have HSC := Lib.hid hb4.cells
    have HCC := Lib.hid hC4.cells
    have HB1 := Lib.hid hT4
    have HB2 := Lib.hid hU4
    have HBX1 := Lib.hid hb4.lt
    have HBX2 := Lib.hid hC4.lt
    have HO3 := Lib.hid ho3
    have HG3 := Lib.hid hg3
    have HG4 := Lib.hid hg4
    have HV3 := Lib.hid hv3
    have HN3 := Lib.hid hn3
    clear hSC e6 hsl hb4 hC4 hT4 hU4 ho3 hg3 hg4 hv3 hn3 hb3 c62 c6 hcc
    go_wp2
    generalize w3.setCell ⟨w.heap.size, 6, none⟩ (.slice A3 n3 c3) = w4 at *
    refine startM (KeepB fun b => b = w.heap.size ∨ b = w1.heap.size) (by kernel_rfl) ?_
    refine takeK 0 rfl (by kernel_rfl) (by kernel_rfl) (by kernel_rfl) rfl (fun _ _ _ _ h => h) rfl (fun K hK => ?_)
    refine quiet_agg 36 (.tmp 2) rfl _ rfl SC _ Try.underlying36 rfl (state_size HSL.out) (fun W' h => KeepB.cells h HSC.out (by simp)) ?_
    refine hK _ ?_
    simp only [Act.put, List.setIfInBounds_toArray, List.set_cons_succ, List.set_cons_zero]
    clear hK K
    refine takeK 1 rfl (by kernel_rfl) (by kernel_rfl) (by kernel_rfl) rfl (fun _ _ _ _ h => h) rfl (fun K hK => ?_)
    refine quiet_agg 44 (.tmp 8) rfl _ rfl C _ Try.underlying44 rfl (cond_size HCL.out) (fun W' h => KeepB.cells h HCC.out (by simp)) ?_
    refine hK _ ?_
    simp only [Act.put, List.setIfInBounds_toArray, List.set_cons_succ, List.set_cons_zero]
    clear hK K
    refine stepM 2 rfl (by kernel_rfl) rfl (fun K hK => ?_)
    refine wp_store_row 36 (.tmp 4) (.tmp 28) rfl (w.heap.size + 1) rfl Z SC _ rfl HB1.out (state_size HSL.out) (by rw [HSL.out, HZL.out]) hso ?_
    refine hK _ _ (by rintro b (rfl | rfl) <;> exact (setRow_only _).block _ (by first | exact HBX1.out | exact HBX2.out | (simp [World.setRow]; first | exact HBX1.out | exact HBX2.out)) (by first | (simp; done) | (simp; omega))) ?_
    clear hK K
    (try simp only [Act.put, List.setIfInBounds_toArray, List.set_cons_succ, List.set_cons_zero])
    refine stepM 3 rfl (by kernel_rfl) rfl (fun K hK => ?_)
    refine wp_store_row 44 (.tmp 5) (.tmp 29) rfl (w.heap.size + 2) rfl Y C _ rfl (Blk.keep (w := w4.drew) HB2.out (setRow_only _) (by simp)) (cond_size HCL.out) (by rw [HCL.out, HYL.out]) hone ?_
    refine hK _ _ (by rintro b (rfl | rfl) <;> exact (setRow_only _).block _ (by first | exact HBX1.out | exact HBX2.out | (simp [World.setRow]; first | exact HBX1.out | exact HBX2.out)) (by first | (simp; done) | (simp; omega))) ?_
    clear hK K
    (try simp only [Act.put, List.setIfInBounds_toArray, List.set_cons_succ, List.set_cons_zero])
    refine takeK 4 rfl (by kernel_rfl) (by kernel_rfl) (by kernel_rfl) rfl (fun _ _ _ _ h => h) rfl (fun K hK => ?_)
    go_big_quiet_op
    first | refine hK _ ?_ | refine ⟨_, fun _ _ => rfl, hK _ ?_⟩
    clear hK K
    refine doneM (by kernel_rfl) ?_ _

    go_wp2
    (try simp only [Exit.inBlock, Exit.then])
    have hr2 : (w4.drew.setRow (w.heap.size + 1) SC.toArray).heap[w.heap.size + 2]? = some (.cells Y.toArray 44 (0, 0)) := Blk.keep (w := w4.drew) HB2.out (setRow_only _) (by simp)
    have hc1 : Cells ((w4.drew.setRow (w.heap.size + 1) SC.toArray).setRow (w.heap.size + 2) C.toArray) ⟨w.heap.size + 1, 0, none⟩ SC := Blk.cells (t := 36) (Blk.keep (w := w4.drew.setRow (w.heap.size + 1) SC.toArray) (setRow_at (show w4.drew.heap[w.heap.size + 1]? = _ from HB1.out)) (setRow_only _) (by simp))
    have hc2 : Cells ((w4.drew.setRow (w.heap.size + 1) SC.toArray).setRow (w.heap.size + 2) C.toArray) ⟨w.heap.size + 2, 0, none⟩ C := Blk.cells (t := 44) (setRow_at hr2)
    refine bodyPost_ret (results_agg2_tmp rfl _ _ _ _ _ _ _ _ rfl rfl Try.underlying36 Try.underlying44 rfl rfl (state_size HSL.out) (cond_size HCL.out) hc1 hc2) rfl ?_
    -- the frames
    have f1 : w.grownBy w3 (Value.slice (some ad) (List.length (α := Cd) s.cs) c).ownBlock := grown_then ((HXW.out.trans HX12.out).any _) HG3.out (.inl rfl)
    have f2 : w.grownBy w4 (Value.slice (some ad) (List.length (α := Cd) s.cs) c).ownBlock := grown_then f1 HG4.out (.inr (by rintro g ⟨⟩; omega))
    have f3 : w.grownBy (w4.drew.setRow (w.heap.size + 1) SC.toArray) (Value.slice (some ad) (List.length (α := Cd) s.cs) c).ownBlock := grown_then (grown_then f2 ((Ext.refl w4).drew.any none) (.inr (by simp))) (setRow_only _) (.inr (by rintro g ⟨⟩; omega))
    have f4 := grown_then f3 (setRow_only (w := w4.drew.setRow (w.heap.size + 1) SC.toArray) (g := w.heap.size + 2) C.toArray) (.inr (by rintro g ⟨⟩; omega))
    have hov : ∀ g, (Value.slice A3 n3 c3).ownBlock = some g → g = ad.block := fun g hg => by
      rw [HV3.out] at hg
      simpa [Value.ownBlock] using hg.symm
    have o4 := HO3.out.keep HG4.out (fun g hg => by have := hov g hg; simp; omega)
    have o5 := (o4.ext (Ext.refl w4).drew).keep (setRow_only (g := w.heap.size + 1) SC.toArray) (fun g hg => by have := hov g hg; simp; omega)
    have o6 := o5.keep (setRow_only (g := w.heap.size + 2) C.toArray) (fun g hg => by have := hov g hg; simp; omega)
    refine ⟨{ s with cs := s.cs.eraseIdx i }, ck, 0, .slice A3 n3 c3, ?_, by rw [← HCE.out]; exact HCL.out, o6, ⟨f4, .inl HV3.out⟩, .inr ⟨by rw [HI.out]; omega, rfl, by rw [HI.out]; exact HCK.out, by rw [HI.out]; rfl⟩⟩
    rw [HSCE.out, HCE.out]; rfl
end Go.Proofs.Ytnpolfihbfdggaa
