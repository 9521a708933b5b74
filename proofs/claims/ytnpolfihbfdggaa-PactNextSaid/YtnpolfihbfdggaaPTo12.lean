/- The law's To and From of a state, From of a payment. Conditions: the numbers are in their bounds. -/
import Derived.Test.YtnpolfihbfdggaaPTo
import Derived.Test.YtnpolfihbfdggaaOne
import Derived.Test.YtnpolfihbfdggaaField
set_option linter.unusedVariables false
set_option linter.unusedSimpArgs false
set_option linter.unnecessarySimpa false
namespace Go.Proofs.Ytnpolfihbfdggaa
open Go.RowKit


theorem szSTo {n : Nat} (h : n = 7) : (Try.prog.info? 36).map (·.size) = some n := by subst h; kernel_rfl
theorem szCTo {n : Nat} (h : n = 36) : (Try.prog.info? 30).map (·.size) = some n := by subst h; kernel_rfl
theorem szDTo {n : Nat} (h : n = 36) : (Try.prog.info? 44).map (·.size) = some n := by subst h; kernel_rfl
theorem zSTo : (Try.prog.info? 36).bind (fun i => i.zero.map (·.cells)) = some zst.toArray := by kernel_rfl
theorem zCTo : (Try.prog.info? 30).bind (fun i => i.zero.map (·.cells)) = some (condCells (0, 0, 0, List.replicate 32 0, 0, ())).toArray := by kernel_rfl
theorem zDTo : ((Try.prog.info? 44).bind (·.zero)).isSome = true := by kernel_rfl
theorem bytesTo : (Try.prog.info? 44).map (fun i => (i.zero.map (·.cells.size), i.size, i.bytes)) = some (some 36, 36, 64) := by kernel_rfl
theorem partsTo : ∃ (i : TypeInfo) (z : Value), Try.prog.info? 44 = some i ∧ i.zero = some z ∧ i.size = 36 ∧ i.bytes = 64 ∧ z.cells.size = 36 := by
  obtain ⟨i, hi, h⟩ := Option.map_eq_some_iff.1 bytesTo
  simp only [Prod.mk.injEq] at h
  obtain ⟨h1, h2, h3⟩ := h
  obtain ⟨z, hz, hz2⟩ := Option.map_eq_some_iff.1 h1
  exact ⟨i, z, hi, hz, h2, h3, hz2⟩
theorem Own.lt'To {w : World} {v : Value} {n : Nat} {xs : List Value} {e : TypeId} {size : Nat} (h : Own w e size v n xs) : ∀ g, v.ownBlock = some g → g < w.heap.size := fun g hg => (World.ownsRow.lt h g hg).2
def OwnTo (w : World) (v : Value) (cs : List Cd) : Prop := (∀ c ∈ cs, CondOk c) ∧ Own w 44 36 v (List.length (α := Cd) cs) (cs.flatMap condCells)
set_option maxRecDepth 100000 in
set_option maxHeartbeats 2000000 in
theorem To12 (s : St) (v : Value) (w : World) (F : Fp) (hc : Conds w F v s.cs) (hF : ∀ b, F b → b < w.heap.size) (hlen : List.length (α := Cd) s.cs ≤ 1099511627776) :
    Calls Try.prog 10 #[.agg (stc s v).toArray] w fun e w' => ∃ v', e = .returned (.agg (stc s v').toArray) ∧ OwnTo w' v' s.cs ∧ Ext w w' ∧ ∀ b, v'.ownBlock = some b → w.heap.size ≤ b := by
  obtain ⟨i1, z1, hi1, hz1, hi2, hi3, hi4⟩ := partsTo
  obtain ⟨cs, hcs⟩ : ∃ cs, cs = s.cs := ⟨_, rfl⟩
  rw [← hcs] at hc hlen ⊢
  have HCS := Lib.hid hcs
  clear hcs
  obtain ⟨A, c, xs, rfl, hlc, hcm, hA, hcell, hall⟩ := conds_open hc
  clear hc
  unfold maxLen at hcm
  have hz := zSTo
  have hzl : zst.length = 7 := rfl
  generalize hZE : zst = Z at hz hzl
  have hzc := zCTo
  have hzcl : (condCells (0, 0, 0, List.replicate 32 0, 0, ())).length = 36 := rfl
  generalize condCells (0, 0, 0, List.replicate 32 0, 0, ()) = ZC at hzc hzcl
  have HZL := Lib.hid hzl
  have HZCL := Lib.hid hzcl
  clear hzl hzcl
  show Calls _ _ #[stv s (.slice A (List.length (α := Cd) cs) c)] w _
  go_enter Try.func10, Try.ntmps10
  go_wp2_with (first
    | (refine wpList_alloc _ rfl 36 rfl _ hz ?_)
    | (refine wpList_build (.inl rfl) 36 _ rfl (.agg (stc s (.slice none 0 0)).toArray) (by kernel_rfl) ?_)
    | (refine wpList_store_new _ rfl 36 (.tmp 3) (.tmp 14) rfl rfl Z (stc s (.slice none 0 0)) _ rfl (szSTo rfl) (by rw [HZL.out]; rfl) (stc_one _ _ _ _) ?_)
    | fail)
  have hx0 : Ext w (((w.alloc (.cells (stc s (.slice A (List.length (α := Cd) cs) c)).toArray 27)).alloc (.cells Z.toArray 36)).alloc (.cells (stc s (.slice none 0 0)).toArray 36)) := (((Ext.refl w).alloc _).alloc _).alloc _
  have hb2 : Blk (((w.alloc (.cells (stc s (.slice A (List.length (α := Cd) cs) c)).toArray 27)).alloc (.cells Z.toArray 36)).alloc (.cells (stc s (.slice none 0 0)).toArray 36)) (w.heap.size + 1) 36 Z := (Blk.new_at (by simp) _ _).keep ((Ext.refl _).alloc _) (by simp)
  have hb3 : Blk (((w.alloc (.cells (stc s (.slice A (List.length (α := Cd) cs) c)).toArray 27)).alloc (.cells Z.toArray 36)).alloc (.cells (stc s (.slice none 0 0)).toArray 36)) (w.heap.size + 2) 36 (stc s (.slice none 0 0)) := Blk.new_at (by simp) _ _
  have HX0 := Lib.hid hx0
  have HB2 := Lib.hid hb2
  have HB3 := Lib.hid hb3
  clear hx0 hb2 hb3
  go_loopw [5, 18] (fun p i wr => ∃ k : Nat, k ≤ List.length (α := Cd) cs ∧ i = .int .i64 k ∧ Ext w wr ∧ Blk wr (w.heap.size + 1) 36 Z ∧ (∃ v, Blk wr (w.heap.size + 2) 36 (stc s v) ∧ OwnTo wr v (cs.take k) ∧ ∀ b, v.ownBlock = some b → w.heap.size + 3 ≤ b) ∧ ∃ q, p = q) (fun _ i _ => List.length (α := Cd) cs - (intOf i).toNat)
  case atStart => exact ⟨0, by omega, rfl, HX0.out, HB2.out, ⟨.slice none 0 0, HB3.out, ⟨by simp, by simpa using Own.nil _ _ _⟩, by simp [Value.ownBlock]⟩, _, rfl⟩
  case round =>
    clear HX0 HB2 HB3
    obtain ⟨k, hk, rfl, hx, hb2, ⟨v, hb3, ho, hap⟩, q, rfl⟩ := hrel
    by_cases hlt : k < List.length (α := Cd) cs
    · obtain ⟨ad, rfl, hf, hcells⟩ := hcell (by omega)
      obtain ⟨hcc, hok⟩ := conds_at hall (hcells.keep (hx.same hF _ hf)) hlt
      have htk : cs.take (k + 1) = cs.take k ++ [cs[k]] := List.take_succ_eq_append_getElem hlt
      have hltk : List.length (α := Cd) (cs.take k) = k := by simp; omega
      generalize hck : cs[k] = ck at *
      have HCL := Lib.hid (condCells_len hok)
      have hone := condCells_one ck
      have hconv := fun W => To10 ck W hok
      have HHOK := Lib.hid hok
      generalize hCE : condCells ck = C at *
      have HCE := Lib.hid hCE
      have HTK := Lib.hid htk
      have HLTK := Lib.hid hltk
      have HCONV := Lib.hid hconv
      have HX := Lib.hid hx
      have HB2 := Lib.hid hb2
      have HB3 := Lib.hid hb3
      have HO := Lib.hid ho
      have HAP := Lib.hid hap
      have HOT := Lib.hid ho.1
      obtain ⟨Av, cv, hv⟩ := ho.2.form
      rw [hltk] at hv
      subst hv
      clear hx hb2 hb3 ho hap hck hok hcells hCE htk hltk hconv
      go_wp2_with (first
        | (refine wpList_load_agg _ rfl 30 (.tmp 20) rfl _ rfl C _ Try.underlying30 rfl (szCTo HCL.out) hcc ?_)
        | (refine wpList_alloc _ rfl 30 rfl _ hzc ?_)
        | (refine wpList_store_new _ rfl 30 (.tmp 5) (.tmp 21) rfl rfl ZC C _ rfl (szCTo HCL.out) (by rw [HCL.out, HZCL.out]) hone ?_)
        | fail)
      have hxw : Ext wr (wr.alloc (.cells C.toArray 30)).drew := ((Ext.refl wr).alloc _).drew
      have hb5 : Blk (wr.alloc (.cells C.toArray 30)).drew wr.heap.size 30 C := Blk.new wr _ _
      have hg5 : w.heap.size + 3 ≤ wr.heap.size := by have := HB3.out.lt; omega
      have hgo : some wr.heap.size ≠ (Value.slice Av k cv).ownBlock := fun e => by have := (Own.lt'To HO.out.2 _ e.symm); omega
      have HG5 := Lib.hid hgo
      clear hgo
      refine startL 7 (KeepB fun b => b = w.heap.size + 2 ∨ b = wr.heap.size) (by kernel_rfl) ?_
      (try simp only [Act.put, List.setIfInBounds_toArray, List.set_cons_succ, List.set_cons_zero])
      generalize (wr.alloc (.cells C.toArray 30)).drew = w0 at *
      generalize wr.heap.size = g5 at *
      have hb2 := HB2.out.keep hxw (by simp)
      have hb3 := HB3.out.keep hxw (by simp)
      have ho := HO.out.2.ext hxw
      have hx0 := HX.out.trans hxw
      have c6 := hb3.cell 6
      have HB0 := Lib.hid hb2
      have HB5 := Lib.hid hb5
      have HBS := Lib.hid hb3
      have HX0 := Lib.hid hx0
      have HOW := Lib.hid ho
      have HC6 := Lib.hid c6
      have hsz5 : g5 < w0.heap.size := hb5.lt
      have hne3 : ∀ b, some b = (Value.slice Av k cv).ownBlock → b ≠ w.heap.size + 2 ∧ b ≠ w.heap.size + 1 := fun b hb => by have := HAP.out b hb.symm; omega
      have HNE3 := Lib.hid hne3
      clear hb2 hb5 hb3 hx0 ho c6 hxw HB2 HB3 HX HO hne3
      refine takeN (fun _ _ _ => rfl) 0 rfl (by kernel_rfl) (by kernel_rfl) (by kernel_rfl) rfl (fun _ _ _ _ h => h) rfl (fun K hK => ?_)
      go_big_quiet_op
      first | refine hK _ ?_ | refine ⟨_, fun _ _ => rfl, hK _ ?_⟩
      clear hK K
      refine takeL (fun _ _ _ => rfl) (fun _ _ _ h1 h2 b hb => (h2 b hb).trans (h1 b hb)) 1 [7] rfl (by kernel_rfl) (by kernel_rfl) (by kernel_rfl) (by kernel_rfl) rfl (fun _ _ _ _ h => h) rfl (fun K hK => ?_)
      refine quiet_cell _ _ rfl _ rfl _ _ Try.underlying34 rfl (fun W' h => KeepB.cell h (HC6.out.trans rfl) (by simp)) ?_
      refine hK _ ?_
      simp only [Act.put, List.setIfInBounds_toArray, List.set_cons_succ, List.set_cons_zero]
      clear hK K
      refine takeL (fun _ _ _ => rfl) (fun _ _ _ h1 h2 b hb => (h2 b hb).trans (h1 b hb)) 2 [7] rfl (by kernel_rfl) (by kernel_rfl) (by kernel_rfl) (by kernel_rfl) rfl (fun _ _ _ _ h => h) rfl (fun K hK => ?_)
      refine quiet_agg 30 (.tmp 5) rfl _ rfl C _ Try.underlying30 rfl (szCTo HCL.out) (fun W' h => KeepB.cells h HB5.out.cells (by simp)) ?_
      refine hK _ ?_
      simp only [Act.put, List.setIfInBounds_toArray, List.set_cons_succ, List.set_cons_zero]
      clear hK K
      refine stepL 3 rfl (by kernel_rfl) rfl (fun K hK => ?_)
      go_simp
      refine (HCONV.out _).mono ?_
      rintro e w5 ⟨rfl, hx5⟩
      refine hK _ _ (fun _ b hb => hx5.block b (by have h1 := HBS.out.lt; rcases hb with rfl | rfl <;> omega) (by simp)) ?_
      clear hK K
      refine stepL 4 rfl (by kernel_rfl) rfl (fun K hK => ?_)
      refine wp_one w5 34 (.tmp 25) rfl 44 C Try.underlying34 rfl (szDTo HCL.out) zDTo (by rw [HCL.out]; decide) (by rw [HCL.out]; decide) ?_
      refine hK _ _ (fun _ b hb => ((Ext.refl w5).alloc _).block b (by have h1 := HBS.out.lt; have h2 := hx5.size; rcases hb with rfl | rfl <;> omega) (by simp)) ?_
      clear hK K
      (try simp only [Act.put, List.setIfInBounds_toArray, List.set_cons_succ, List.set_cons_zero])
      refine stepL 5 rfl (by kernel_rfl) rfl (fun K hK => ?_)
      refine wp_app _ (.tmp 23) (.tmp 26) _ _ rfl 44 44 i1 z1 36 64 Try.underlying34 Try.underlying34 hi1 hz1 hi2 hi3 hi4 (by decide) _ _ _ rfl ((HOW.out.ext hx5).ext ((Ext.refl w5).alloc _)) _ 1 1 C rfl (by rw [HCL.out]) (src_new_at rfl C _ 1) hone (by rw [HLTK.out]; unfold maxLen; omega) (by rw [HLTK.out]; omega) ?_
      intro v7 w7 ho7 hm7
      have hbs7 : Blk w7 (w.heap.size + 2) 36 (stc s (.slice Av k cv)) := (HBS.out.keep (hx5.trans ((Ext.refl w5).alloc _)) (by simp)).keep hm7.grown (fun e => (HNE3.out _ e).1 rfl)
      have hb27 : Blk w7 (w.heap.size + 1) 36 Z := (HB0.out.keep (hx5.trans ((Ext.refl w5).alloc _)) (by simp)).keep hm7.grown (fun e => (HNE3.out _ e).2 rfl)
      have HBS7 := Lib.hid hbs7
      have HB27 := Lib.hid hb27
      rw [HLTK.out] at ho7
      obtain ⟨A7, c7, hv7⟩ := Own.form ho7
      subst hv7
      clear hbs7 hb27
      refine hK _ _ (fun _ b hb => hm7.grown.block b (by have h1 := HBS.out.lt; have h2 := hx5.size; simp; rcases hb with rfl | rfl <;> omega) (fun e => by have h9 := HNE3.out b e; exact hb.elim h9.1 (fun hb => by rw [hb] at e; exact HG5.out e))) ?_
      clear hK K
      (try simp only [Act.put, List.setIfInBounds_toArray, List.set_cons_succ, List.set_cons_zero])
      refine takeN (fun _ _ _ => rfl) 6 rfl (by kernel_rfl) (by kernel_rfl) (by kernel_rfl) rfl (fun _ _ _ _ h => h) rfl (fun K hK => ?_)
      go_big_quiet_op
      first | refine hK _ ?_ | refine ⟨_, fun _ _ => rfl, hK _ ?_⟩
      clear hK K
      refine stepL 7 rfl (by kernel_rfl) rfl (fun K hK => ?_)
      have s9 : w7.cell? ⟨w.heap.size + 1 + 1, 6, none⟩ = some (.slice Av k cv) := (HBS7.out.cell 6).trans rfl
      have f9 : w7.frozen? ⟨w.heap.size + 1 + 1, 6, none⟩ = false := HBS7.out.free 6
      go_simp
      refine hK _ _ (fun h => absurd rfl h) ?_
      clear hK K
      refine doneL (by kernel_rfl) ?_ _
      have hb8 := Blk.set (w := w7) HBS7.out 6 (.slice A7 (k + 1) c7)
      have hb28 : Blk (w7.setCell ⟨w.heap.size + 2, 6, none⟩ (.slice A7 (k + 1) c7)) (w.heap.size + 1) 36 Z := HB27.out.keep (only_set 6 _) (by simp)
      have hx8 : Ext w (w7.setCell ⟨w.heap.size + 2, 6, none⟩ (.slice A7 (k + 1) c7)) := grown_then (grown_then (HX0.out.trans (hx5.trans ((Ext.refl w5).alloc _))) hm7.grown (.inr fun g hg => by have := HAP.out g hg; omega)) (only_set 6 _) (.inr (by rintro b ⟨⟩; omega))
      have hap8 : ∀ b, (Value.slice A7 (k + 1) c7).ownBlock = some b → w.heap.size + 3 ≤ b := fun b hb => by
        rcases hm7.at_ with e | h
        · exact HAP.out b (e.symm.trans hb)
        · have h1 := h b hb; have h2 := HX0.out.size; have h3 := hx5.size; have h4 := HBS.out.lt; simp at h1; omega
      have ho8 : Own (w7.setCell ⟨w.heap.size + 2, 6, none⟩ (.slice A7 (k + 1) c7)) 44 36 (.slice A7 (k + 1) c7) (k + 1) ((cs.take k).flatMap condCells ++ C) := ho7.keep (only_set 6 _) (by
        cases hvb : (Value.slice A7 (k + 1) c7).ownBlock with
        | none => exact .inl rfl
        | some b => exact .inr (by have := hap8 b hvb; simp; omega))
      have HB8 := Lib.hid hb8
      have HB28 := Lib.hid hb28
      have HX8 := Lib.hid hx8
      have HAP8 := Lib.hid hap8
      have HO8 := Lib.hid ho8
      clear hb8 hb28 hx8 hap8 ho8 ho7 s9 f9
      go_wp2
      go_roundw
      case rel =>
        refine ⟨k + 1, by omega, by go_num, HX8.out, HB28.out, ⟨.slice A7 (k + 1) c7, ?_, ⟨?_, ?_⟩, HAP8.out⟩, _, rfl⟩
        · have h := HB8.out
          simpa [stc] using h
        · intro c hc
          rw [HTK.out] at hc
          rcases List.mem_append.1 hc with hc | hc
          · exact HOT.out c hc
          · rw [List.mem_singleton.1 hc]; exact HHOK.out
        · have e1 : (cs.take k ++ [ck]).flatMap condCells = (cs.take k).flatMap condCells ++ condCells ck := by simp
          have e2 : List.length (α := Cd) (cs.take k ++ [ck]) = k + 1 := by rw [List.length_append, HLTK.out]; rfl
          rw [HTK.out, e1, e2, HCE.out]
          exact HO8.out
      case measure => simp [intOf]; omega
    · obtain rfl : k = List.length (α := Cd) cs := by omega
      rw [List.take_length] at ho
      obtain ⟨Av, cv, hv⟩ := ho.2.form
      have hone := stc_one s Av (List.length (α := Cd) cs) cv
      rw [← hv] at hone
      have HONE := Lib.hid hone
      have HV := Lib.hid hv
      have HX := Lib.hid hx
      have HO := Lib.hid ho
      have HAP := Lib.hid hap
      have hc3 := hb3.cells
      have hr8 : wr.heap[w.heap.size + 1]? = some (.cells Z.toArray 36 (0, 0)) := hb2
      clear hone hv hx ho hap hb3 hb2
      go_wp2_with (first
        | (refine wpList_load_agg _ rfl 36 (.tmp 3) rfl _ rfl (stc s v) _ Try.underlying36 rfl (szSTo rfl) hc3 ?_)
        | (refine wpList_store_row _ rfl 36 (.tmp 2) (.tmp 30) rfl (w.heap.size + 1) rfl Z (stc s v) _ rfl hr8 (szSTo rfl) (by rw [HZL.out]; rfl) HONE.out ?_)
        | fail)
      have hc9 := Blk.cells (t := 36) (setRow_at (cs' := (stc s v).toArray) hr8)
      (try simp only [Exit.inBlock, Exit.then])
      refine bodyPost_ret (results_agg rfl _ _ _ _ _ rfl Try.underlying36 rfl (szSTo rfl) hc9) rfl ?_
      refine ⟨v, rfl, ⟨HO.out.1, HO.out.2.keep (setRow_only _) ?_⟩, grown_then HX.out (setRow_only _) (.inr (by rintro b ⟨⟩; omega)), fun b hb => by have := HAP.out b hb; omega⟩
      cases hvb : v.ownBlock with
      | none => exact .inl rfl
      | some b => exact .inr (by have := HAP.out b hvb; simp; omega)

theorem rcond_fields : ∃ fields, Try.prog.underlying 30 = some (.struct fields) ∧ fields.toList.mapM (fun f => (Try.prog.info? f.type).map fun i => (f.offset, i.size)) = some [(0, 1), (1, 1), (2, 1), (3, 32), (35, 1)] :=
  ⟨_, Try.underlying30, by kernel_rfl⟩
theorem rcond_zero : (Try.prog.info? 30).bind (fun i => i.zero.map (·.cells)) = some (condCells (0, 0, 0, List.replicate 32 0, 0, ())).toArray := by kernel_rfl
set_option maxRecDepth 100000 in
set_option maxHeartbeats 1000000 in
theorem From10 (ck : Cd) (w : World) (hok : CondOk ck) : Calls Try.prog 36 #[.agg (condCells ck).toArray] w fun e w' => e = .returned (.agg (condCells ck).toArray) ∧ Ext w w' := by
  obtain ⟨fields, hfu, hfp⟩ := rcond_fields
  have hz : (Try.prog.info? 30).bind (fun i => i.zero.map (·.cells)) = some zcl.toArray := rcond_zero
  have hzl : zcl.length = 36 := rfl
  generalize zcl = Z at hz hzl
  have hcl := condCells_len hok
  have hone := condCells_one ck
  have hdef : condCells ck = .int .u64 (ck.1 : Int) :: .int .i64 ck.2.1 :: .int .u64 (ck.2.2.1 : Int) :: (bv ck.2.2.2.1 ++ [.int .u64 (ck.2.2.2.2.1 : Int)]) := rfl
  have hhl : (bv ck.2.2.2.1).length = 32 := by simp [hok.hash]
  generalize hB : bv ck.2.2.2.1 = B at *
  have c35 : (condCells ck)[35]? = some (.int .u64 (ck.2.2.2.2.1 : Int)) := by
    rw [hdef]
    rw [List.getElem?_cons_succ, List.getElem?_cons_succ, List.getElem?_cons_succ, List.getElem?_append_right (by omega), hhl]
    rfl
  have hx0 : Ext w ((w.alloc (.cells (condCells ck).toArray 44)).alloc (.cells Z.toArray 30)) := ((Ext.refl w).alloc _).alloc _
  have hb0 : Blk ((w.alloc (.cells (condCells ck).toArray 44)).alloc (.cells Z.toArray 30)) w.heap.size 44 (condCells ck) := (Blk.new _ _ _).keep ((Ext.refl _).alloc _) (by simp)
  have hr8 : ((w.alloc (.cells (condCells ck).toArray 44)).alloc (.cells Z.toArray 30)).heap[w.heap.size + 1]? = some (.cells Z.toArray 30 (0, 0)) := Blk.new_at (by simp) _ _
  have c0 : ((w.alloc (.cells (condCells ck).toArray 44)).alloc (.cells Z.toArray 30)).cell? ⟨w.heap.size, 0, none⟩ = some (.int .u64 (ck.1 : Int)) := (hb0.cell 0).trans (by rw [hdef]; rfl)
  have c1 : ((w.alloc (.cells (condCells ck).toArray 44)).alloc (.cells Z.toArray 30)).cell? ⟨w.heap.size, 1, none⟩ = some (.int .i64 ck.2.1) := (hb0.cell 1).trans (by rw [hdef]; rfl)
  have c2 : ((w.alloc (.cells (condCells ck).toArray 44)).alloc (.cells Z.toArray 30)).cell? ⟨w.heap.size, 2, none⟩ = some (.int .u64 (ck.2.2.1 : Int)) := (hb0.cell 2).trans (by rw [hdef]; rfl)
  have c5 : ((w.alloc (.cells (condCells ck).toArray 44)).alloc (.cells Z.toArray 30)).cell? ⟨w.heap.size, 35, none⟩ = some (.int .u64 (ck.2.2.2.2.1 : Int)) := (hb0.cell 35).trans c35
  have hb3 : Cells ((w.alloc (.cells (condCells ck).toArray 44)).alloc (.cells Z.toArray 30)) ⟨w.heap.size, 3, none⟩ B := by
    have h := hb0.cells.drop 3
    have e3 : (condCells ck).drop 3 = B ++ [.int .u64 (ck.2.2.2.2.1 : Int)] := by rw [hdef]; rfl
    rw [e3] at h
    have h2 := h.left
    simpa [Addr.add] using h2
  have hfl : fillL ([(0, 1), (1, 1), (2, 1), (3, 32), (35, 1)].toArray[·]?) Z [(0, [.int .u64 (ck.1 : Int)]), (1, [.int .i64 ck.2.1]), (2, [.int .u64 (ck.2.2.1 : Int)]), (3, B), (4, [.int .u64 (ck.2.2.2.2.1 : Int)])] = some (condCells ck) := by
    rw [hdef]
    obtain ⟨z0, z1, z2, T, rfl, hT⟩ : ∃ z0 z1 z2 T, Z = z0 :: z1 :: z2 :: T ∧ T.length = 33 := by
      match Z, hzl with
      | z0 :: z1 :: z2 :: T, h => exact ⟨z0, z1, z2, T, rfl, by simpa using h⟩
    simp [fillL, hhl, hT]
  have HFL := Lib.hid hfl
  have HDEF := Lib.hid hdef
  have HHL := Lib.hid hhl
  have HCL := Lib.hid hcl
  have HX0 := Lib.hid hx0
  have HZL := Lib.hid hzl
  clear hfl hdef hhl hcl hb0 hx0 c35 hzl
  generalize condCells ck = C at *
  go_enter Try.func36, Try.ntmps36
  go_wp2_with (first
    | (refine wpList_alloc _ rfl 30 rfl _ hz ?_)
    | (refine wpList_load_agg _ rfl 42 (.tmp 9) rfl _ rfl B _ Try.underlying42 rfl (by rw [HHL.out]; kernel_rfl) hb3 ?_)
    | (refine wpList_build_st (.inl rfl) 30 #[(0, .tmp 4), (1, .tmp 6), (2, .tmp 8), (3, .tmp 10), (4, .tmp 12)] rfl fields Z C _ _ hfu hz hfp (by simp [Value.cells, Act.eval]) HFL.out ?_)
    | (refine wpList_store_row _ rfl 30 (.tmp 2) (.tmp 13) rfl (w.heap.size + 1) rfl Z C _ rfl hr8 (rcond_size HCL.out) (by rw [HCL.out, HZL.out]) hone ?_)
    | fail)
  have hc9 := Blk.cells (t := 30) (setRow_at (cs' := C.toArray) hr8)
  (try simp only [Exit.inBlock, Exit.then])
  refine bodyPost_ret (results_agg rfl _ _ _ _ _ rfl Try.underlying30 rfl (rcond_size HCL.out) hc9) rfl ?_
  exact ⟨rfl, grown_then HX0.out (setRow_only _) (.inr (by rintro b ⟨⟩; omega))⟩


theorem szSFrom {n : Nat} (h : n = 7) : (Try.prog.info? 27).map (·.size) = some n := by subst h; kernel_rfl
theorem szCFrom {n : Nat} (h : n = 36) : (Try.prog.info? 44).map (·.size) = some n := by subst h; kernel_rfl
theorem szDFrom {n : Nat} (h : n = 36) : (Try.prog.info? 30).map (·.size) = some n := by subst h; kernel_rfl
theorem zSFrom : (Try.prog.info? 27).bind (fun i => i.zero.map (·.cells)) = some zst.toArray := by kernel_rfl
theorem zCFrom : (Try.prog.info? 44).bind (fun i => i.zero.map (·.cells)) = some (condCells (0, 0, 0, List.replicate 32 0, 0, ())).toArray := by kernel_rfl
theorem zDFrom : ((Try.prog.info? 30).bind (·.zero)).isSome = true := by kernel_rfl
theorem bytesFrom : (Try.prog.info? 30).map (fun i => (i.zero.map (·.cells.size), i.size, i.bytes)) = some (some 36, 36, 64) := by kernel_rfl
theorem partsFrom : ∃ (i : TypeInfo) (z : Value), Try.prog.info? 30 = some i ∧ i.zero = some z ∧ i.size = 36 ∧ i.bytes = 64 ∧ z.cells.size = 36 := by
  obtain ⟨i, hi, h⟩ := Option.map_eq_some_iff.1 bytesFrom
  simp only [Prod.mk.injEq] at h
  obtain ⟨h1, h2, h3⟩ := h
  obtain ⟨z, hz, hz2⟩ := Option.map_eq_some_iff.1 h1
  exact ⟨i, z, hi, hz, h2, h3, hz2⟩
theorem Own.lt'From {w : World} {v : Value} {n : Nat} {xs : List Value} {e : TypeId} {size : Nat} (h : Own w e size v n xs) : ∀ g, v.ownBlock = some g → g < w.heap.size := fun g hg => (World.ownsRow.lt h g hg).2
def OwnFrom (w : World) (v : Value) (cs : List Cd) : Prop := (∀ c ∈ cs, CondOk c) ∧ Own w 30 36 v (List.length (α := Cd) cs) (cs.flatMap condCells)
set_option maxRecDepth 100000 in
set_option maxHeartbeats 2000000 in
theorem From12 (s : St) (v : Value) (w : World) (F : Fp) (hc : Conds w F v s.cs) (hF : ∀ b, F b → b < w.heap.size) (hlen : List.length (α := Cd) s.cs ≤ 1099511627776) :
    Calls Try.prog 15 #[.agg (stc s v).toArray] w fun e w' => ∃ v', e = .returned (.agg (stc s v').toArray) ∧ OwnFrom w' v' s.cs ∧ Ext w w' ∧ ∀ b, v'.ownBlock = some b → w.heap.size ≤ b := by
  obtain ⟨i1, z1, hi1, hz1, hi2, hi3, hi4⟩ := partsFrom
  obtain ⟨cs, hcs⟩ : ∃ cs, cs = s.cs := ⟨_, rfl⟩
  rw [← hcs] at hc hlen ⊢
  have HCS := Lib.hid hcs
  clear hcs
  obtain ⟨A, c, xs, rfl, hlc, hcm, hA, hcell, hall⟩ := conds_open hc
  clear hc
  unfold maxLen at hcm
  have hz := zSFrom
  have hzl : zst.length = 7 := rfl
  generalize hZE : zst = Z at hz hzl
  have hzc := zCFrom
  have hzcl : (condCells (0, 0, 0, List.replicate 32 0, 0, ())).length = 36 := rfl
  generalize condCells (0, 0, 0, List.replicate 32 0, 0, ()) = ZC at hzc hzcl
  have HZL := Lib.hid hzl
  have HZCL := Lib.hid hzcl
  clear hzl hzcl
  show Calls _ _ #[stv s (.slice A (List.length (α := Cd) cs) c)] w _
  go_enter Try.func15, Try.ntmps15
  go_wp2_with (first
    | (refine wpList_alloc _ rfl 27 rfl _ hz ?_)
    | (refine wpList_build (.inl rfl) 27 _ rfl (.agg (stc s (.slice none 0 0)).toArray) (by kernel_rfl) ?_)
    | (refine wpList_store_new _ rfl 27 (.tmp 3) (.tmp 14) rfl rfl Z (stc s (.slice none 0 0)) _ rfl (szSFrom rfl) (by rw [HZL.out]; rfl) (stc_one _ _ _ _) ?_)
    | fail)
  have hx0 : Ext w (((w.alloc (.cells (stc s (.slice A (List.length (α := Cd) cs) c)).toArray 36)).alloc (.cells Z.toArray 27)).alloc (.cells (stc s (.slice none 0 0)).toArray 27)) := (((Ext.refl w).alloc _).alloc _).alloc _
  have hb2 : Blk (((w.alloc (.cells (stc s (.slice A (List.length (α := Cd) cs) c)).toArray 36)).alloc (.cells Z.toArray 27)).alloc (.cells (stc s (.slice none 0 0)).toArray 27)) (w.heap.size + 1) 27 Z := (Blk.new_at (by simp) _ _).keep ((Ext.refl _).alloc _) (by simp)
  have hb3 : Blk (((w.alloc (.cells (stc s (.slice A (List.length (α := Cd) cs) c)).toArray 36)).alloc (.cells Z.toArray 27)).alloc (.cells (stc s (.slice none 0 0)).toArray 27)) (w.heap.size + 2) 27 (stc s (.slice none 0 0)) := Blk.new_at (by simp) _ _
  have HX0 := Lib.hid hx0
  have HB2 := Lib.hid hb2
  have HB3 := Lib.hid hb3
  clear hx0 hb2 hb3
  go_loopw [5, 18] (fun p i wr => ∃ k : Nat, k ≤ List.length (α := Cd) cs ∧ i = .int .i64 k ∧ Ext w wr ∧ Blk wr (w.heap.size + 1) 27 Z ∧ (∃ v, Blk wr (w.heap.size + 2) 27 (stc s v) ∧ OwnFrom wr v (cs.take k) ∧ ∀ b, v.ownBlock = some b → w.heap.size + 3 ≤ b) ∧ ∃ q, p = q) (fun _ i _ => List.length (α := Cd) cs - (intOf i).toNat)
  case atStart => exact ⟨0, by omega, rfl, HX0.out, HB2.out, ⟨.slice none 0 0, HB3.out, ⟨by simp, by simpa using Own.nil _ _ _⟩, by simp [Value.ownBlock]⟩, _, rfl⟩
  case round =>
    clear HX0 HB2 HB3
    obtain ⟨k, hk, rfl, hx, hb2, ⟨v, hb3, ho, hap⟩, q, rfl⟩ := hrel
    by_cases hlt : k < List.length (α := Cd) cs
    · obtain ⟨ad, rfl, hf, hcells⟩ := hcell (by omega)
      obtain ⟨hcc, hok⟩ := conds_at hall (hcells.keep (hx.same hF _ hf)) hlt
      have htk : cs.take (k + 1) = cs.take k ++ [cs[k]] := List.take_succ_eq_append_getElem hlt
      have hltk : List.length (α := Cd) (cs.take k) = k := by simp; omega
      generalize hck : cs[k] = ck at *
      have HCL := Lib.hid (condCells_len hok)
      have hone := condCells_one ck
      have hconv := fun W => From10 ck W hok
      have HHOK := Lib.hid hok
      generalize hCE : condCells ck = C at *
      have HCE := Lib.hid hCE
      have HTK := Lib.hid htk
      have HLTK := Lib.hid hltk
      have HCONV := Lib.hid hconv
      have HX := Lib.hid hx
      have HB2 := Lib.hid hb2
      have HB3 := Lib.hid hb3
      have HO := Lib.hid ho
      have HAP := Lib.hid hap
      have HOT := Lib.hid ho.1
      obtain ⟨Av, cv, hv⟩ := ho.2.form
      rw [hltk] at hv
      subst hv
      clear hx hb2 hb3 ho hap hck hok hcells hCE htk hltk hconv
      go_wp2_with (first
        | (refine wpList_load_agg _ rfl 44 (.tmp 20) rfl _ rfl C _ Try.underlying44 rfl (szCFrom HCL.out) hcc ?_)
        | (refine wpList_alloc _ rfl 44 rfl _ hzc ?_)
        | (refine wpList_store_new _ rfl 44 (.tmp 5) (.tmp 21) rfl rfl ZC C _ rfl (szCFrom HCL.out) (by rw [HCL.out, HZCL.out]) hone ?_)
        | fail)
      have hxw : Ext wr (wr.alloc (.cells C.toArray 44)).drew := ((Ext.refl wr).alloc _).drew
      have hb5 : Blk (wr.alloc (.cells C.toArray 44)).drew wr.heap.size 44 C := Blk.new wr _ _
      have hg5 : w.heap.size + 3 ≤ wr.heap.size := by have := HB3.out.lt; omega
      have hgo : some wr.heap.size ≠ (Value.slice Av k cv).ownBlock := fun e => by have := (Own.lt'From HO.out.2 _ e.symm); omega
      have HG5 := Lib.hid hgo
      clear hgo
      refine startL 7 (KeepB fun b => b = w.heap.size + 2 ∨ b = wr.heap.size) (by kernel_rfl) ?_
      (try simp only [Act.put, List.setIfInBounds_toArray, List.set_cons_succ, List.set_cons_zero])
      generalize (wr.alloc (.cells C.toArray 44)).drew = w0 at *
      generalize wr.heap.size = g5 at *
      have hb2 := HB2.out.keep hxw (by simp)
      have hb3 := HB3.out.keep hxw (by simp)
      have ho := HO.out.2.ext hxw
      have hx0 := HX.out.trans hxw
      have c6 := hb3.cell 6
      have HB0 := Lib.hid hb2
      have HB5 := Lib.hid hb5
      have HBS := Lib.hid hb3
      have HX0 := Lib.hid hx0
      have HOW := Lib.hid ho
      have HC6 := Lib.hid c6
      have hsz5 : g5 < w0.heap.size := hb5.lt
      have hne3 : ∀ b, some b = (Value.slice Av k cv).ownBlock → b ≠ w.heap.size + 2 ∧ b ≠ w.heap.size + 1 := fun b hb => by have := HAP.out b hb.symm; omega
      have HNE3 := Lib.hid hne3
      clear hb2 hb5 hb3 hx0 ho c6 hxw HB2 HB3 HX HO hne3
      refine takeN (fun _ _ _ => rfl) 0 rfl (by kernel_rfl) (by kernel_rfl) (by kernel_rfl) rfl (fun _ _ _ _ h => h) rfl (fun K hK => ?_)
      go_big_quiet_op
      first | refine hK _ ?_ | refine ⟨_, fun _ _ => rfl, hK _ ?_⟩
      clear hK K
      refine takeL (fun _ _ _ => rfl) (fun _ _ _ h1 h2 b hb => (h2 b hb).trans (h1 b hb)) 1 [7] rfl (by kernel_rfl) (by kernel_rfl) (by kernel_rfl) (by kernel_rfl) rfl (fun _ _ _ _ h => h) rfl (fun K hK => ?_)
      refine quiet_cell _ _ rfl _ rfl _ _ Try.underlying25 rfl (fun W' h => KeepB.cell h (HC6.out.trans rfl) (by simp)) ?_
      refine hK _ ?_
      simp only [Act.put, List.setIfInBounds_toArray, List.set_cons_succ, List.set_cons_zero]
      clear hK K
      refine takeL (fun _ _ _ => rfl) (fun _ _ _ h1 h2 b hb => (h2 b hb).trans (h1 b hb)) 2 [7] rfl (by kernel_rfl) (by kernel_rfl) (by kernel_rfl) (by kernel_rfl) rfl (fun _ _ _ _ h => h) rfl (fun K hK => ?_)
      refine quiet_agg 44 (.tmp 5) rfl _ rfl C _ Try.underlying44 rfl (szCFrom HCL.out) (fun W' h => KeepB.cells h HB5.out.cells (by simp)) ?_
      refine hK _ ?_
      simp only [Act.put, List.setIfInBounds_toArray, List.set_cons_succ, List.set_cons_zero]
      clear hK K
      refine stepL 3 rfl (by kernel_rfl) rfl (fun K hK => ?_)
      go_simp
      refine (HCONV.out _).mono ?_
      rintro e w5 ⟨rfl, hx5⟩
      refine hK _ _ (fun _ b hb => hx5.block b (by have h1 := HBS.out.lt; rcases hb with rfl | rfl <;> omega) (by simp)) ?_
      clear hK K
      refine stepL 4 rfl (by kernel_rfl) rfl (fun K hK => ?_)
      refine wp_one w5 25 (.tmp 25) rfl 30 C Try.underlying25 rfl (szDFrom HCL.out) zDFrom (by rw [HCL.out]; decide) (by rw [HCL.out]; decide) ?_
      refine hK _ _ (fun _ b hb => ((Ext.refl w5).alloc _).block b (by have h1 := HBS.out.lt; have h2 := hx5.size; rcases hb with rfl | rfl <;> omega) (by simp)) ?_
      clear hK K
      (try simp only [Act.put, List.setIfInBounds_toArray, List.set_cons_succ, List.set_cons_zero])
      refine stepL 5 rfl (by kernel_rfl) rfl (fun K hK => ?_)
      refine wp_app _ (.tmp 23) (.tmp 26) _ _ rfl 30 30 i1 z1 36 64 Try.underlying25 Try.underlying25 hi1 hz1 hi2 hi3 hi4 (by decide) _ _ _ rfl ((HOW.out.ext hx5).ext ((Ext.refl w5).alloc _)) _ 1 1 C rfl (by rw [HCL.out]) (src_new_at rfl C _ 1) hone (by rw [HLTK.out]; unfold maxLen; omega) (by rw [HLTK.out]; omega) ?_
      intro v7 w7 ho7 hm7
      have hbs7 : Blk w7 (w.heap.size + 2) 27 (stc s (.slice Av k cv)) := (HBS.out.keep (hx5.trans ((Ext.refl w5).alloc _)) (by simp)).keep hm7.grown (fun e => (HNE3.out _ e).1 rfl)
      have hb27 : Blk w7 (w.heap.size + 1) 27 Z := (HB0.out.keep (hx5.trans ((Ext.refl w5).alloc _)) (by simp)).keep hm7.grown (fun e => (HNE3.out _ e).2 rfl)
      have HBS7 := Lib.hid hbs7
      have HB27 := Lib.hid hb27
      rw [HLTK.out] at ho7
      obtain ⟨A7, c7, hv7⟩ := Own.form ho7
      subst hv7
      clear hbs7 hb27
      refine hK _ _ (fun _ b hb => hm7.grown.block b (by have h1 := HBS.out.lt; have h2 := hx5.size; simp; rcases hb with rfl | rfl <;> omega) (fun e => by have h9 := HNE3.out b e; exact hb.elim h9.1 (fun hb => by rw [hb] at e; exact HG5.out e))) ?_
      clear hK K
      (try simp only [Act.put, List.setIfInBounds_toArray, List.set_cons_succ, List.set_cons_zero])
      refine takeN (fun _ _ _ => rfl) 6 rfl (by kernel_rfl) (by kernel_rfl) (by kernel_rfl) rfl (fun _ _ _ _ h => h) rfl (fun K hK => ?_)
      go_big_quiet_op
      first | refine hK _ ?_ | refine ⟨_, fun _ _ => rfl, hK _ ?_⟩
      clear hK K
      refine stepL 7 rfl (by kernel_rfl) rfl (fun K hK => ?_)
      have s9 : w7.cell? ⟨w.heap.size + 1 + 1, 6, none⟩ = some (.slice Av k cv) := (HBS7.out.cell 6).trans rfl
      have f9 : w7.frozen? ⟨w.heap.size + 1 + 1, 6, none⟩ = false := HBS7.out.free 6
      go_simp
      refine hK _ _ (fun h => absurd rfl h) ?_
      clear hK K
      refine doneL (by kernel_rfl) ?_ _
      have hb8 := Blk.set (w := w7) HBS7.out 6 (.slice A7 (k + 1) c7)
      have hb28 : Blk (w7.setCell ⟨w.heap.size + 2, 6, none⟩ (.slice A7 (k + 1) c7)) (w.heap.size + 1) 27 Z := HB27.out.keep (only_set 6 _) (by simp)
      have hx8 : Ext w (w7.setCell ⟨w.heap.size + 2, 6, none⟩ (.slice A7 (k + 1) c7)) := grown_then (grown_then (HX0.out.trans (hx5.trans ((Ext.refl w5).alloc _))) hm7.grown (.inr fun g hg => by have := HAP.out g hg; omega)) (only_set 6 _) (.inr (by rintro b ⟨⟩; omega))
      have hap8 : ∀ b, (Value.slice A7 (k + 1) c7).ownBlock = some b → w.heap.size + 3 ≤ b := fun b hb => by
        rcases hm7.at_ with e | h
        · exact HAP.out b (e.symm.trans hb)
        · have h1 := h b hb; have h2 := HX0.out.size; have h3 := hx5.size; have h4 := HBS.out.lt; simp at h1; omega
      have ho8 : Own (w7.setCell ⟨w.heap.size + 2, 6, none⟩ (.slice A7 (k + 1) c7)) 30 36 (.slice A7 (k + 1) c7) (k + 1) ((cs.take k).flatMap condCells ++ C) := ho7.keep (only_set 6 _) (by
        cases hvb : (Value.slice A7 (k + 1) c7).ownBlock with
        | none => exact .inl rfl
        | some b => exact .inr (by have := hap8 b hvb; simp; omega))
      have HB8 := Lib.hid hb8
      have HB28 := Lib.hid hb28
      have HX8 := Lib.hid hx8
      have HAP8 := Lib.hid hap8
      have HO8 := Lib.hid ho8
      clear hb8 hb28 hx8 hap8 ho8 ho7 s9 f9
      go_wp2
      go_roundw
      case rel =>
        refine ⟨k + 1, by omega, by go_num, HX8.out, HB28.out, ⟨.slice A7 (k + 1) c7, ?_, ⟨?_, ?_⟩, HAP8.out⟩, _, rfl⟩
        · have h := HB8.out
          simpa [stc] using h
        · intro c hc
          rw [HTK.out] at hc
          rcases List.mem_append.1 hc with hc | hc
          · exact HOT.out c hc
          · rw [List.mem_singleton.1 hc]; exact HHOK.out
        · have e1 : (cs.take k ++ [ck]).flatMap condCells = (cs.take k).flatMap condCells ++ condCells ck := by simp
          have e2 : List.length (α := Cd) (cs.take k ++ [ck]) = k + 1 := by rw [List.length_append, HLTK.out]; rfl
          rw [HTK.out, e1, e2, HCE.out]
          exact HO8.out
      case measure => simp [intOf]; omega
    · obtain rfl : k = List.length (α := Cd) cs := by omega
      rw [List.take_length] at ho
      obtain ⟨Av, cv, hv⟩ := ho.2.form
      have hone := stc_one s Av (List.length (α := Cd) cs) cv
      rw [← hv] at hone
      have HONE := Lib.hid hone
      have HV := Lib.hid hv
      have HX := Lib.hid hx
      have HO := Lib.hid ho
      have HAP := Lib.hid hap
      have hc3 := hb3.cells
      have hr8 : wr.heap[w.heap.size + 1]? = some (.cells Z.toArray 27 (0, 0)) := hb2
      clear hone hv hx ho hap hb3 hb2
      go_wp2_with (first
        | (refine wpList_load_agg _ rfl 27 (.tmp 3) rfl _ rfl (stc s v) _ Try.underlying27 rfl (szSFrom rfl) hc3 ?_)
        | (refine wpList_store_row _ rfl 27 (.tmp 2) (.tmp 30) rfl (w.heap.size + 1) rfl Z (stc s v) _ rfl hr8 (szSFrom rfl) (by rw [HZL.out]; rfl) HONE.out ?_)
        | fail)
      have hc9 := Blk.cells (t := 27) (setRow_at (cs' := (stc s v).toArray) hr8)
      (try simp only [Exit.inBlock, Exit.then])
      refine bodyPost_ret (results_agg rfl _ _ _ _ _ rfl Try.underlying27 rfl (szSFrom rfl) hc9) rfl ?_
      refine ⟨v, rfl, ⟨HO.out.1, HO.out.2.keep (setRow_only _) ?_⟩, grown_then HX.out (setRow_only _) (.inr (by rintro b ⟨⟩; omega)), fun b hb => by have := HAP.out b hb; omega⟩
      cases hvb : v.ownBlock with
      | none => exact .inl rfl
      | some b => exact .inr (by have := HAP.out b hvb; simp; omega)

end Go.Proofs.Ytnpolfihbfdggaa
