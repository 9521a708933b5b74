/- The walk of the document's Op of layer 13: a wish's bytes. Conditions: the numbers are in their bounds. -/
import Derived.Test.YtemladlnpaaefaaRCond
import Derived.Test.YtemladlnpaaefaaLayOp
set_option linter.unusedVariables false
set_option linter.unusedSimpArgs false
set_option linter.unnecessarySimpa false
namespace Go.Proofs.Ytemladlnpaaefaa
open Go.RowKit

section
variable {g : Nat} {w0 w : World} {v0 cur : Value} {bs : List UInt8} {xs : List Item}
theorem wp_emptyL {o : Oper} {a : Act} {K : Act → World → Prop} {Q : Exit → Act → World → Prop} {P : Program} (w : World) (t : TypeId) (ho : o.op = .buildSlice t 0 #[])
    (e : TypeId) (ht : P.underlying t = some (.slice e)) (hi : (P.info? e).map (·.size) = some 1) (hz : ((P.info? e).bind (·.zero)).isSome = true)
    (h : K (a.put o.dst (.slice (some ⟨w.heap.size, 0, none⟩) 0 0)) (w.alloc (.cells #[] e))) : o.wp P a w K Q := by
    obtain ⟨i, hi', hs⟩ := Option.map_eq_some_iff.1 hi
    rw [hi', Option.bind_some] at hz
    obtain ⟨z, hz⟩ := Option.isSome_iff_exists.1 hz
    unfold Oper.wp execOp
    have hrun : (Instr.buildSlice t 0 #[]).run P w = .ok (.slice (some ⟨w.heap.size, 0, none⟩) 0 0) (w.alloc (.cells #[] e)) := by
      unfold Instr.buildSlice
      simp [Sem.run_bind, run_underlying ht, Result.andThen_ok, sizeOf, typeInfo, run_program, hi', Sem.run_pure, hs, zeroValue, hz, newRow, Instr.fill]
      have e : ∀ f : Nat → Value, Array.map f (Array.range 0) = #[] := fun f => Array.eq_empty_of_size_eq_zero (by simp)
      rw [e]
    simp only [ho, List.map_toArray, List.map_nil, Sem.run_bind, hrun, Result.andThen_ok, Sem.run_pure]
    exact h
theorem CJ.mk0 (h : CJ g w0 v0 cur [] xs w) {o : Oper} {a : Act} {K : Act → World → Prop} {Q : Exit → Act → World → Prop} (t : TypeId) (ho : o.op = .buildSlice t 0 #[]) (ht : Try.prog.underlying t = some (.slice 5)) (hi : (Try.prog.info? 5).map (·.size) = some 1) (hz : ((Try.prog.info? 5).bind (·.zero)).isSome = true)
    (hk : ∀ v' W', CJ g w0 v0 v' [] xs W' → KeepB (fun b => b = g) w W' → K (a.put o.dst v') W') : o.wp Try.prog a w K Q := by
  refine wp_emptyL w t ho 5 ht hi hz ?_
  have ho' : OwnB (w.alloc (.cells #[] 5)) (.slice (some ⟨w.heap.size, 0, none⟩) 0 0) [] := own_empty rfl
  have h1 := h.call (v' := .slice (some ⟨w.heap.size, 0, none⟩) 0 0) ho' ⟨((Ext.refl w).alloc _).any _, .inr (by rintro b ⟨⟩; exact Nat.le_refl _)⟩
  exact hk _ _ h1.1 h1.2
theorem CJ.rcond (c : Cd) (hok : CondOk c) (h : CJ g w0 v0 cur bs xs w) (hb : bs.length ≤ 140737488354304) :
    Calls Try.prog 38 #[cur, .agg (condCells c).toArray] w fun e w' => ∃ v', e = .returned v' ∧ CJ g w0 v0 v' (bs ++ condB c) xs w' ∧ KeepB (fun b => b = g) w w' := by
  refine (RCond c cur bs w _ hok (OwnB.holds h.own) (OwnB.lt h.own) hb).mono ?_
  rintro e w' ⟨v', rfl, ho, hf⟩
  exact ⟨v', rfl, h.call ho (Fresh.moved hf cur)⟩
end
set_option maxRecDepth 100000 in
set_option maxHeartbeats 8000000 in
theorem ROp (o : Wish) (vb : Value) (bs : List UInt8) (w : World) (F : Fp) (hok : CondOk o.c) (ham : o.am < 18446744073709551616) (hid : o.id < 18446744073709551616) (hv : (Ty.sl .u8).holds w F [vb] bs) (hF : ∀ b, F b → b < w.heap.size) (hb : bs.length ≤ 140737488353280) :
    Calls Try.prog 25 #[vb, .agg (wishCells o).toArray] w fun e w' => ∃ v', e = .returned v' ∧ OwnB w' v' (bs ++ opB o) ∧ Fresh w w' v' := by
  obtain ⟨A, d, hvb⟩ : ∃ A d, vb = .slice A bs.length d := by
    obtain ⟨A, c, xs', hv, _⟩ := hv
    exact ⟨A, c, by simpa using hv⟩
  subst hvb
  have hb0 : Blk (w.alloc (.cells (wishCells o).toArray 28)) w.heap.size 28 (wishCells o) := Blk.new _ _ _
  have hx0 : Ext w (w.alloc (.cells (wishCells o).toArray 28)) := (Ext.refl w).alloc _
  have c38 := wish_38 hok
  have cc : ((wishCells o).drop 2).take 36 = condCells o.c := List.take_left' (condCells_len hok)
  have c0 : (wishCells o)[0]? = some (.int .i64 o.kind) := rfl
  have c1 : (wishCells o)[1]? = some (.int .u64 (o.am : Int)) := rfl
  have hco := fun (g : Nat) (w0 w : World) (v0 cur : Value) (bs : List UInt8) (xs : List Item) (h : CJ g w0 v0 cur bs xs w) hb => CJ.rcond o.c hok h hb
  have hcl := condCells_len hok
  generalize condCells o.c = CC at *
  generalize wishCells o = OC at *
  have HCO := Lib.hid hco
  have HCL := Lib.hid hcl
  have HB0 := Lib.hid hb0
  have HX0 := Lib.hid hx0
  have HW := Lib.hid hv
  have HFW := Lib.hid hF
  have HC1 := Lib.hid c1
  have HC38 := Lib.hid c38
  have HCC := Lib.hid cc
  clear hb0 hx0 hv hF c1 c38 cc hco hcl
  go_enter Try.func25, Try.ntmps25
  go_wp2
  have hb0 : Blk (w.alloc (.cells OC.toArray 28)).drew w.heap.size 28 OC := HB0.out
  have hx : Ext w (w.alloc (.cells OC.toArray 28)).drew := HX0.out.drew
  refine startM (KeepB fun b => b = w.heap.size) (by kernel_rfl) ?_
  (try simp only [Act.put, List.setIfInBounds_toArray, List.set_cons_succ, List.set_cons_zero])
  generalize (w.alloc (.cells OC.toArray 28)).drew = w0 at *
  have HK0 := Lib.hid ((hb0.cell 0).trans c0)
  have hJ0 : CJ w.heap.size w0 (Value.slice none 0 0) (Value.slice none 0 0) [] [] w0 := CJ.start hb0.lt (Own.nil _ _ _) (by simp [Value.ownBlock])
  have HX := Lib.hid hx
  have HBB := Lib.hid hb0
  have HV : Hid (∀ {cur : Value} {l : List UInt8} {xs : List Item} {W : World}, CJ w.heap.size w0 (Value.slice none 0 0) cur l xs W → (Ty.sl .u8).holds W F [.slice A bs.length d] bs) := Lib.hid (fun h => (HX.out.trans h.ext).holds HFW.out HW.out)
  clear hb0 hx c0
  refine takeK 1 rfl (by kernel_rfl) (by kernel_rfl) (by kernel_rfl) rfl (fun _ _ _ _ h => h) rfl (fun K hK => ?_)
  go_big_quiet_op
  first | refine hK _ ?_ | refine ⟨_, fun _ _ => rfl, hK _ ?_⟩
  clear hK K
  refine takeK 3 rfl (by kernel_rfl) (by kernel_rfl) (by kernel_rfl) rfl (fun _ _ _ _ h => h) rfl (fun K hK => ?_)
  go_big_quiet_op
  first | refine hK _ ?_ | refine ⟨_, fun _ _ => rfl, hK _ ?_⟩
  clear hK K
  refine takeK 4 rfl (by kernel_rfl) (by kernel_rfl) (by kernel_rfl) rfl (fun _ _ _ _ h => h) rfl (fun K hK => ?_)
  refine quiet_cell _ _ rfl _ rfl _ _ Try.underlying3 rfl (fun W' h => KeepB.cell h HK0.out rfl) ?_
  refine hK _ ?_
  simp only [Act.put, List.setIfInBounds_toArray, List.set_cons_succ, List.set_cons_zero]
  clear hK K
  refine takeK 5 rfl (by kernel_rfl) (by kernel_rfl) (by kernel_rfl) rfl (fun _ _ _ _ h => h) rfl (fun K hK => ?_)
  go_big_quiet_op
  first | refine hK _ ?_ | refine ⟨_, fun _ _ => rfl, hK _ ?_⟩
  clear hK K
  apply lat3 (fun v5 v7 v11 W => CJ w.heap.size w0 (.slice none 0 0) v7 ([] ++ bs) [⟨.u8, [byteOf o.kind], v11⟩] W)
  intro hM4
  apply lat2 (fun v5 v11 W => CJ w.heap.size w0 (.slice none 0 0) v5 [] [⟨.u8, [byteOf o.kind], v11⟩] W)
  intro hM3
  apply lat2 (fun v5 v7 W => CJ w.heap.size w0 (.slice none 0 0) v7 ([] ++ bs) [] W)
  intro hM2
  apply lat1 (fun v11 W => CJ w.heap.size w0 (Value.slice none 0 0) (Value.slice none 0 0) [] [⟨.u8, [byteOf o.kind], v11⟩] W)
  intro hM1
  apply lat1 (fun v5 W => CJ w.heap.size w0 (.slice none 0 0) v5 [] [] W)
  intro hM0
  · have HJ := Lib.hid hJ0
    refine manyM 0 [6] (by kernel_rfl) ⟨oneM rfl rfl (fun K hK => ?_), oneM rfl rfl (fun K hK => ?_), trivial⟩
    · refine HJ.out.mk0 42 rfl Try.underlying42 u8_size1 u8_zero1 ?_
      intro v5 W hJ hkb
      have HJ := Lib.hid hJ
      clear hJ
      refine hK _ _ hkb ?_
      clear hK K
      (try simp only [Act.put, List.setIfInBounds_toArray, List.set_cons_succ, List.set_cons_zero])
      exact hM0 v5 _ (HJ.out.sub (by intro x hx; cases hx))
    · refine HJ.out.mk1 42 (.tmp 10) rfl 5 Try.underlying42 .u8 (byteOf o.kind) _ [Value.int .u8 ((byteOf o.kind).toNat : Int)] rfl (by rw [byteOf_eq]; rfl) (fun _ _ => rfl) u8_size1 u8_zero1 (show 1 ≤ 16777216 by decide) (show 0 < 1 by decide) ?_
      intro v11 W hJ hkb
      have HJ := Lib.hid hJ
      clear hJ
      refine hK _ _ hkb ?_
      clear hK K
      (try simp only [Act.put, List.setIfInBounds_toArray, List.set_cons_succ, List.set_cons_zero])
      exact hM1 v11 _ (HJ.out.sub (by intro x hx; simp only [List.mem_cons, List.not_mem_nil, or_false] at hx; rcases hx with rfl <;> first | exact (.head _)))
  · intro v5 W hJ
    have HJ := Lib.hid hJ
    clear hJ
    refine manyM 2 [6] (by kernel_rfl) ⟨oneM rfl rfl (fun K hK => ?_), oneM rfl rfl (fun K hK => ?_), trivial⟩
    · refine HJ.out.appS (.tmp 5) (.tmp 6) _ _ rfl Try.underlying42 Try.underlying42 rfl A _ d bs rfl rfl (src_bytes (HV.out HJ.out)) (by simp only [List.length_nil]; omega) ?_
      intro v7 W hJ hkb
      have HJ := Lib.hid hJ
      clear hJ
      refine hK _ _ hkb ?_
      clear hK K
      (try simp only [Act.put, List.setIfInBounds_toArray, List.set_cons_succ, List.set_cons_zero])
      exact hM2 v5 v7 _ (HJ.out.sub (by intro x hx; cases hx))
    · refine HJ.out.mk1 42 (.tmp 10) rfl 5 Try.underlying42 .u8 (byteOf o.kind) _ [Value.int .u8 ((byteOf o.kind).toNat : Int)] rfl (by rw [byteOf_eq]; rfl) (fun _ _ => rfl) u8_size1 u8_zero1 (show 1 ≤ 16777216 by decide) (show 0 < 1 by decide) ?_
      intro v11 W hJ hkb
      have HJ := Lib.hid hJ
      clear hJ
      refine hK _ _ hkb ?_
      clear hK K
      (try simp only [Act.put, List.setIfInBounds_toArray, List.set_cons_succ, List.set_cons_zero])
      exact hM3 v5 v11 _ (HJ.out.sub (by intro x hx; simp only [List.mem_cons, List.not_mem_nil, or_false] at hx; rcases hx with rfl <;> first | exact (.head _)))
  · intro v11 W hJ
    have HJ := Lib.hid hJ
    clear hJ
    refine stepM 0 rfl (by kernel_rfl) rfl (fun K hK => ?_)
    refine HJ.out.mk0 42 rfl Try.underlying42 u8_size1 u8_zero1 ?_
    intro v5 W hJ hkb
    have HJ := Lib.hid hJ
    clear hJ
    refine hK _ _ hkb ?_
    clear hK K
    (try simp only [Act.put, List.setIfInBounds_toArray, List.set_cons_succ, List.set_cons_zero])
    exact relist (by kernel_rfl) (hM3 v5 v11 _ (HJ.out.sub (by intro x hx; simp only [List.mem_cons, List.not_mem_nil, or_false] at hx; rcases hx with rfl <;> first | exact (.head _))))
  · intro v5 v7 W hJ
    have HJ := Lib.hid hJ
    clear hJ
    refine stepM 6 rfl (by kernel_rfl) rfl (fun K hK => ?_)
    refine HJ.out.mk1 42 (.tmp 10) rfl 5 Try.underlying42 .u8 (byteOf o.kind) _ [Value.int .u8 ((byteOf o.kind).toNat : Int)] rfl (by rw [byteOf_eq]; rfl) (fun _ _ => rfl) u8_size1 u8_zero1 (show 1 ≤ 16777216 by decide) (show 0 < 1 by decide) ?_
    intro v11 W hJ hkb
    have HJ := Lib.hid hJ
    clear hJ
    refine hK _ _ hkb ?_
    clear hK K
    (try simp only [Act.put, List.setIfInBounds_toArray, List.set_cons_succ, List.set_cons_zero])
    exact hM4 v5 v7 v11 _ (HJ.out.sub (by intro x hx; simp only [List.mem_cons, List.not_mem_nil, or_false] at hx; rcases hx with rfl <;> first | exact (.head _)))
  · intro v5 v11 W hJ
    have HJ := Lib.hid hJ
    clear hJ
    refine stepM 2 rfl (by kernel_rfl) rfl (fun K hK => ?_)
    refine HJ.out.appS (.tmp 5) (.tmp 6) _ _ rfl Try.underlying42 Try.underlying42 rfl A _ d bs rfl rfl (src_bytes (HV.out HJ.out)) (by simp only [List.length_nil]; omega) ?_
    intro v7 W hJ hkb
    have HJ := Lib.hid hJ
    clear hJ
    refine hK _ _ hkb ?_
    clear hK K
    (try simp only [Act.put, List.setIfInBounds_toArray, List.set_cons_succ, List.set_cons_zero])
    exact relist (by kernel_rfl) (hM4 v5 v7 v11 _ (HJ.out.sub (by intro x hx; simp only [List.mem_cons, List.not_mem_nil, or_false] at hx; rcases hx with rfl <;> first | exact (.head _))))
  intro v5 v7 v11 W hJ
  have HJ := Lib.hid hJ
  clear hJ
  refine stepM 7 rfl (by kernel_rfl) rfl (fun K hK => ?_)
  refine HJ.out.appI (.tmp 7) (.tmp 11) _ _ rfl Try.underlying42 Try.underlying42 rfl (.head _) rfl (by simp only [List.length_append, List.length_nil, List.length_cons]; omega) ?_
  intro v12 W hJ hkb
  have HJ := Lib.hid hJ
  clear hJ
  refine hK _ _ hkb ?_
  clear hK K
  (try simp only [Act.put, List.setIfInBounds_toArray, List.set_cons_succ, List.set_cons_zero])
  refine takeK 8 rfl (by kernel_rfl) (by kernel_rfl) (by kernel_rfl) rfl (fun _ _ _ _ h => h) rfl (fun K hK => ?_)
  go_big_quiet_op
  first | refine hK _ ?_ | refine ⟨_, fun _ _ => rfl, hK _ ?_⟩
  clear hK K
  refine doneM (by kernel_rfl) ?_ _
  have ho13 : OwnB W v12 (bs ++ [byteOf o.kind]) := HJ.out.own
  have hx13 : Ext w W := HX.out.trans HJ.out.ext
  have hb13 : Blk W w.heap.size 28 OC := by
    show W.heap[w.heap.size]? = _
    rw [HJ.out.blk (by simp [Value.ownBlock])]; exact HBB.out
  have hf13 : ∀ b, v12.ownBlock = some b → w.heap.size < b := fun b hb => by
    have h1 := (Fresh.new (w := w0) (w' := W) HJ.out.mv) b hb
    have h2 := HJ.out.lt
    omega
  have HO13 := Lib.hid ho13
  have HX13 := Lib.hid hx13
  have HB13 := Lib.hid hb13
  have HF13 := Lib.hid hf13
  clear HJ ho13 hx13 hb13 hf13 HV
  go_wp2
  have hbq : Blk W.drew w.heap.size 28 OC := HB13.out
  have hxq : Ext w W.drew := HX13.out.drew
  have hoq : OwnB W.drew v12 (bs ++ [byteOf o.kind]) := HO13.out.ext (Ext.refl _).drew
  refine startM (KeepB fun b => b = w.heap.size) (by kernel_rfl) ?_
  (try simp only [Act.put, List.setIfInBounds_toArray, List.set_cons_succ, List.set_cons_zero])
  generalize W.drew = wq at *
  have HK1 := Lib.hid ((hbq.cell 1).trans HC1.out)
  have HK38 := Lib.hid ((hbq.cell 38).trans HC38.out)
  have hkc : Cells wq ⟨w.heap.size, 2, none⟩ CC := by have h := (hbq.cells.drop 2).take 36; rw [HCC.out, addr_at] at h; exact h
  have HKC := Lib.hid hkc
  have hne : ∀ b, v12.ownBlock = some b → b ≠ w.heap.size := fun b hb e => by have := HF13.out b hb; omega
  have hJ0 : CJ w.heap.size wq v12 v12 (bs ++ [byteOf o.kind]) [] wq := CJ.start hbq.lt hoq hne
  have HXQ := Lib.hid hxq
  clear hbq hxq hoq hkc hne
  refine takeK 0 rfl (by kernel_rfl) (by kernel_rfl) (by kernel_rfl) rfl (fun _ _ _ _ h => h) rfl (fun K hK => ?_)
  go_big_quiet_op
  first | refine hK _ ?_ | refine ⟨_, fun _ _ => rfl, hK _ ?_⟩
  clear hK K
  refine takeK 1 rfl (by kernel_rfl) (by kernel_rfl) (by kernel_rfl) rfl (fun _ _ _ _ h => h) rfl (fun K hK => ?_)
  go_big_quiet_op
  first | refine hK _ ?_ | refine ⟨_, fun _ _ => rfl, hK _ ?_⟩
  clear hK K
  refine takeK 2 rfl (by kernel_rfl) (by kernel_rfl) (by kernel_rfl) rfl (fun _ _ _ _ h => h) rfl (fun K hK => ?_)
  refine quiet_cell _ _ rfl _ rfl _ _ Try.underlying23 rfl (fun W' h => KeepB.cell h HK1.out rfl) ?_
  refine hK _ ?_
  simp only [Act.put, List.setIfInBounds_toArray, List.set_cons_succ, List.set_cons_zero]
  clear hK K
  refine takeK 4 rfl (by kernel_rfl) (by kernel_rfl) (by kernel_rfl) rfl (fun _ _ _ _ h => h) rfl (fun K hK => ?_)
  go_big_quiet_op
  first | refine hK _ ?_ | refine ⟨_, fun _ _ => rfl, hK _ ?_⟩
  clear hK K
  refine takeK 5 rfl (by kernel_rfl) (by kernel_rfl) (by kernel_rfl) rfl (fun _ _ _ _ h => h) rfl (fun K hK => ?_)
  refine quiet_cell _ _ rfl _ rfl _ _ Try.underlying23 rfl (fun W' h => KeepB.cell h HK38.out rfl) ?_
  refine hK _ ?_
  simp only [Act.put, List.setIfInBounds_toArray, List.set_cons_succ, List.set_cons_zero]
  clear hK K
  refine takeK 7 rfl (by kernel_rfl) (by kernel_rfl) (by kernel_rfl) rfl (fun _ _ _ _ h => h) rfl (fun K hK => ?_)
  go_big_quiet_op
  first | refine hK _ ?_ | refine ⟨_, fun _ _ => rfl, hK _ ?_⟩
  clear hK K
  refine takeK 8 rfl (by kernel_rfl) (by kernel_rfl) (by kernel_rfl) rfl (fun _ _ _ _ h => h) rfl (fun K hK => ?_)
  refine quiet_agg 26 (.tmp 20) rfl _ rfl CC _ Try.underlying26 rfl (rcond_size HCL.out) (fun W' h => KeepB.cells h HKC.out rfl) ?_
  refine hK _ ?_
  simp only [Act.put, List.setIfInBounds_toArray, List.set_cons_succ, List.set_cons_zero]
  clear hK K
  apply lat2 (fun v16 v19 W => CJ w.heap.size wq v12 v19 (((bs ++ [byteOf o.kind]) ++ be 8 o.am) ++ be 8 o.id) [] W)
  intro hM1
  apply lat1 (fun v16 W => CJ w.heap.size wq v12 v16 ((bs ++ [byteOf o.kind]) ++ be 8 o.am) [] W)
  intro hM0
  · have HJ := Lib.hid hJ0
    refine stepM 3 rfl (by kernel_rfl) rfl (fun K hK => ?_)
    go_simp
    refine (HJ.out.num o.am 8 ham (by omega) (by simp only [List.length_append, List.length_cons, List.length_nil, be_length]; omega)).mono ?_
    rintro e W ⟨v16, rfl, hJ, hkb⟩
    have HJ := Lib.hid hJ
    clear hJ
    refine hK _ _ hkb ?_
    clear hK K
    exact hM0 v16 _ (HJ.out.sub (by intro x hx; cases hx))
  · intro v16 W hJ
    have HJ := Lib.hid hJ
    clear hJ
    refine stepM 6 rfl (by kernel_rfl) rfl (fun K hK => ?_)
    go_simp
    refine (HJ.out.num o.id 8 hid (by omega) (by simp only [List.length_append, List.length_cons, List.length_nil, be_length]; omega)).mono ?_
    rintro e W ⟨v19, rfl, hJ, hkb⟩
    have HJ := Lib.hid hJ
    clear hJ
    refine hK _ _ hkb ?_
    clear hK K
    exact hM1 v16 v19 _ (HJ.out.sub (by intro x hx; cases hx))
  intro v16 v19 W hJ
  have HJ := Lib.hid hJ
  clear hJ
  refine stepM 9 rfl (by kernel_rfl) rfl (fun K hK => ?_)
  go_simp
  refine (HCO.out _ _ _ _ _ _ _ HJ.out (by simp only [List.length_append, List.length_cons, List.length_nil, be_length]; omega)).mono ?_
  rintro e W ⟨v22, rfl, hJ, hkb⟩
  have HJ := Lib.hid hJ
  clear hJ
  refine hK _ _ hkb ?_
  clear hK K
  refine takeK 10 rfl (by kernel_rfl) (by kernel_rfl) (by kernel_rfl) rfl (fun _ _ _ _ h => h) rfl (fun K hK => ?_)
  go_big_quiet_op
  first | refine hK _ ?_ | refine ⟨_, fun _ _ => rfl, hK _ ?_⟩
  clear hK K
  refine doneM (by kernel_rfl) ?_ _
  have ho9 := HJ.out.own
  have hfr : ∀ b, v12.ownBlock = some b → w.heap.size ≤ b := fun b hb => Nat.le_of_lt (HF13.out b hb)
  have hx9 : Ext w W := grown_then HXQ.out HJ.out.mv.grown (.inr hfr)
  have hn9 : ∀ b, v22.ownBlock = some b → w.heap.size ≤ b := fun b hb => by
    rcases HJ.out.mv.at_ with e | hn
    · exact hfr b (e.symm.trans hb)
    · exact Nat.le_trans HXQ.out.size (hn b hb)
  clear HJ
  go_wp2
  go_ret
  exact ⟨_, rfl, by simpa [opB] using ho9, ⟨hx9, .inr hn9⟩⟩
end Go.Proofs.Ytemladlnpaaefaa
