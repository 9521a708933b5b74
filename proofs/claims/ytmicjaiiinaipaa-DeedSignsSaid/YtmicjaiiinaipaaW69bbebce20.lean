/- Walks and plain laws, put together in build order. Conditions: what each of them names. -/
import Derived.Laws.Bits64b
import Derived.Test.YtmicjaiiinaipaaWa8ac4001f8
set_option linter.unusedVariables false
set_option linter.unusedSimpArgs false
set_option linter.unnecessarySimpa false
namespace Go.Proofs.Ytmicjaiiinaipaa
section
open Go.RowKit

theorem wf_lt {n : Nat} (h : (Lit.int .u64 (n : Int)).wf = true) : n < 18446744073709551616 := by have := bounds_u64 h; omega
set_option maxRecDepth 100000 in
set_option maxHeartbeats 8000000 in
theorem RCond (c : Cd) (vb : Value) (bs : List UInt8) (w : World) (F : Fp) (hok : CondOk c) (hv : (Ty.sl .u8).holds w F [vb] bs) (hF : ∀ b, F b → b < w.heap.size) (hb : bs.length ≤ 140737488354304) :
    Calls Try.prog 32 #[vb, .agg (condCells c).toArray] w fun e w' => ∃ v', e = .returned v' ∧ OwnB w' v' (bs ++ condB c) ∧ Fresh w w' v' := by
  have HH := Lib.hid hok.hash
  have hid := wf_lt hok.id
  have ham := wf_lt hok.am
  have hex := wf_lt hok.exp
  have hb0 : Blk (w.alloc (.cells (condCells c).toArray 30)) w.heap.size 30 (condCells c) := Blk.new _ _ _
  have hx0 : Ext w (w.alloc (.cells (condCells c).toArray 30)) := (Ext.refl w).alloc _
  have c35 : (condCells c)[35]? = some (.int .u64 (c.2.2.2.2.1 : Int)) := by
    show (bv c.2.2.2.1 ++ [Value.int .u64 (c.2.2.2.2.1 : Int)])[32]? = _
    rw [List.getElem?_append_right (by rw [bv_length, HH.out]; omega), bv_length, HH.out]
    rfl
  have ch : ((condCells c).drop 3).take 32 = bv c.2.2.2.1 := List.take_left' (by rw [bv_length, HH.out])
  have c0 : (condCells c)[0]? = some (.int .u64 (c.1 : Int)) := rfl
  have c1 : (condCells c)[1]? = some (.int .i64 c.2.1) := rfl
  have c2 : (condCells c)[2]? = some (.int .u64 (c.2.2.1 : Int)) := rfl
  generalize condCells c = CC at *
  have HB0 := Lib.hid hb0
  have HX0 := Lib.hid hx0
  have HW := Lib.hid hv
  have HFW := Lib.hid hF
  have HC2 := Lib.hid c2
  have HC35 := Lib.hid c35
  have HCH := Lib.hid ch
  clear hb0 hx0 hv hF c2 c35 ch
  go_enter Try.func32, Try.ntmps32
  go_wp2
  have hb0 : Blk (w.alloc (.cells CC.toArray 30)).drew w.heap.size 30 CC := HB0.out
  have hx : Ext w (w.alloc (.cells CC.toArray 30)).drew := HX0.out.drew
  refine startM (KeepB fun b => b = w.heap.size) (by kernel_rfl) ?_
  (try simp only [Act.put, List.setIfInBounds_toArray, List.set_cons_succ, List.set_cons_zero])
  generalize (w.alloc (.cells CC.toArray 30)).drew = w0 at *
  have HK0 := Lib.hid ((hb0.cell 0).trans c0)
  have HK1 := Lib.hid ((hb0.cell 1).trans c1)
  have hJ0 : CJ w.heap.size w0 (Value.slice none 0 0) (Value.slice none 0 0) [] [] w0 := CJ.start hb0.lt (Own.nil _ _ _) (by simp [Value.ownBlock])
  have HX := Lib.hid hx
  have HBB := Lib.hid hb0
  have HV : Hid (∀ {cur : Value} {l : List UInt8} {xs : List Item} {W : World}, CJ w.heap.size w0 (Value.slice none 0 0) cur l xs W → (Ty.sl .u8).holds W F [vb] bs) := Lib.hid (fun h => (HX.out.trans h.ext).holds HFW.out HW.out)
  have HVF : Hid (∀ {cur : Value} {l : List UInt8} {xs : List Item} {W : World}, CJ w.heap.size w0 (Value.slice none 0 0) cur l xs W → ∀ b, F b → b < W.heap.size) := Lib.hid (fun h b hb => Nat.lt_of_lt_of_le (HFW.out b hb) (HX.out.trans h.ext).size)
  clear hb0 hx c0 c1
  refine takeK 0 rfl (by kernel_rfl) (by kernel_rfl) (by kernel_rfl) rfl (fun _ _ _ _ h => h) rfl (fun K hK => ?_)
  go_big_quiet_op
  first | refine hK _ ?_ | refine ⟨_, fun _ _ => rfl, hK _ ?_⟩
  clear hK K
  refine takeK 1 rfl (by kernel_rfl) (by kernel_rfl) (by kernel_rfl) rfl (fun _ _ _ _ h => h) rfl (fun K hK => ?_)
  go_big_quiet_op
  first | refine hK _ ?_ | refine ⟨_, fun _ _ => rfl, hK _ ?_⟩
  clear hK K
  refine takeK 2 rfl (by kernel_rfl) (by kernel_rfl) (by kernel_rfl) rfl (fun _ _ _ _ h => h) rfl (fun K hK => ?_)
  refine quiet_cell _ _ rfl _ rfl _ _ Try.underlying23 rfl (fun W' h => KeepB.cell h HK0.out rfl) ?_
  refine hK _ ?_
  simp only [Act.put, List.setIfInBounds_toArray, List.set_cons_succ, List.set_cons_zero]
  clear hK K
  refine takeK 4 rfl (by kernel_rfl) (by kernel_rfl) (by kernel_rfl) rfl (fun _ _ _ _ h => h) rfl (fun K hK => ?_)
  go_big_quiet_op
  first | refine hK _ ?_ | refine ⟨_, fun _ _ => rfl, hK _ ?_⟩
  clear hK K
  refine takeK 5 rfl (by kernel_rfl) (by kernel_rfl) (by kernel_rfl) rfl (fun _ _ _ _ h => h) rfl (fun K hK => ?_)
  refine quiet_cell _ _ rfl _ rfl _ _ Try.underlying3 rfl (fun W' h => KeepB.cell h HK1.out rfl) ?_
  refine hK _ ?_
  simp only [Act.put, List.setIfInBounds_toArray, List.set_cons_succ, List.set_cons_zero]
  clear hK K
  refine takeK 6 rfl (by kernel_rfl) (by kernel_rfl) (by kernel_rfl) rfl (fun _ _ _ _ h => h) rfl (fun K hK => ?_)
  go_big_quiet_op
  first | refine hK _ ?_ | refine ⟨_, fun _ _ => rfl, hK _ ?_⟩
  clear hK K
  apply lat2 (fun v8 v12 W => CJ w.heap.size w0 (.slice none 0 0) v8 (bs ++ be 8 c.1) [⟨.u8, [byteOf c.2.1], v12⟩] W)
  intro hM2
  apply lat1 (fun v12 W => CJ w.heap.size w0 (Value.slice none 0 0) (Value.slice none 0 0) [] [⟨.u8, [byteOf c.2.1], v12⟩] W)
  intro hM1
  apply lat1 (fun v8 W => CJ w.heap.size w0 (.slice none 0 0) v8 (bs ++ be 8 c.1) [] W)
  intro hM0
  · have HJ := Lib.hid hJ0
    refine anyofM 3 [7] (by kernel_rfl) ⟨oneM rfl rfl (fun K hK => ?_), oneM rfl rfl (fun K hK => ?_), trivial⟩
    · go_simp
      refine (HJ.out.num0 vb bs F (HV.out HJ.out) (HVF.out HJ.out) c.1 8 hid (by omega) (by omega)).mono ?_
      rintro e W ⟨v8, rfl, hJ, hkb⟩
      have HJ := Lib.hid hJ
      clear hJ
      refine hK _ _ hkb ?_
      clear hK K
      exact hM0 v8 _ (HJ.out.sub (by intro x hx; cases hx))
    · refine HJ.out.mk1 35 (.tmp 11) rfl 5 Try.underlying35 .u8 (byteOf c.2.1) _ [Value.int .u8 ((byteOf c.2.1).toNat : Int)] rfl (by rw [byteOf_eq]; rfl) (fun _ _ => rfl) u8_sizeU u8_zeroU (show 1 ≤ 16777216 by decide) (show 0 < 1 by decide) ?_
      intro v12 W hJ hkb
      have HJ := Lib.hid hJ
      clear hJ
      refine hK _ _ hkb ?_
      clear hK K
      (try simp only [Act.put, List.setIfInBounds_toArray, List.set_cons_succ, List.set_cons_zero])
      exact hM1 v12 _ (HJ.out.sub (by intro x hx; simp only [List.mem_cons, List.not_mem_nil, or_false] at hx; rcases hx with rfl <;> first | exact (.head _)))
  · intro v8 W hJ
    have HJ := Lib.hid hJ
    clear hJ
    refine stepM 7 rfl (by kernel_rfl) rfl (fun K hK => ?_)
    refine HJ.out.mk1 35 (.tmp 11) rfl 5 Try.underlying35 .u8 (byteOf c.2.1) _ [Value.int .u8 ((byteOf c.2.1).toNat : Int)] rfl (by rw [byteOf_eq]; rfl) (fun _ _ => rfl) u8_sizeU u8_zeroU (show 1 ≤ 16777216 by decide) (show 0 < 1 by decide) ?_
    intro v12 W hJ hkb
    have HJ := Lib.hid hJ
    clear hJ
    refine hK _ _ hkb ?_
    clear hK K
    (try simp only [Act.put, List.setIfInBounds_toArray, List.set_cons_succ, List.set_cons_zero])
    exact hM2 v8 v12 _ (HJ.out.sub (by intro x hx; simp only [List.mem_cons, List.not_mem_nil, or_false] at hx; rcases hx with rfl <;> first | exact (.head _)))
  · intro v12 W hJ
    have HJ := Lib.hid hJ
    clear hJ
    refine stepM 3 rfl (by kernel_rfl) rfl (fun K hK => ?_)
    go_simp
    refine (HJ.out.num0 vb bs F (HV.out HJ.out) (HVF.out HJ.out) c.1 8 hid (by omega) (by omega)).mono ?_
    rintro e W ⟨v8, rfl, hJ, hkb⟩
    have HJ := Lib.hid hJ
    clear hJ
    refine hK _ _ hkb ?_
    clear hK K
    exact relist (by kernel_rfl) (hM2 v8 v12 _ (HJ.out.sub (by intro x hx; simp only [List.mem_cons, List.not_mem_nil, or_false] at hx; rcases hx with rfl <;> first | exact (.head _))))
  intro v8 v12 W hJ
  have HJ := Lib.hid hJ
  clear hJ
  refine stepM 8 rfl (by kernel_rfl) rfl (fun K hK => ?_)
  refine HJ.out.appI (.tmp 8) (.tmp 12) _ _ rfl Try.underlying35 Try.underlying35 rfl (.head _) rfl (by simp only [List.length_append, List.length_cons, List.length_nil, be_length]; omega) ?_
  intro v13 W hJ hkb
  have HJ := Lib.hid hJ
  clear hJ
  refine hK _ _ hkb ?_
  clear hK K
  (try simp only [Act.put, List.setIfInBounds_toArray, List.set_cons_succ, List.set_cons_zero])
  refine takeK 9 rfl (by kernel_rfl) (by kernel_rfl) (by kernel_rfl) rfl (fun _ _ _ _ h => h) rfl (fun K hK => ?_)
  go_big_quiet_op
  first | refine hK _ ?_ | refine ⟨_, fun _ _ => rfl, hK _ ?_⟩
  clear hK K
  refine doneM (by kernel_rfl) ?_ _
  have ho13 := HJ.out.own
  have hx13 : Ext w W := HX.out.trans HJ.out.ext
  have hb13 : Blk W w.heap.size 30 CC := by
    show W.heap[w.heap.size]? = _
    rw [HJ.out.blk (by simp [Value.ownBlock])]; exact HBB.out
  have hf13 : ∀ b, v13.ownBlock = some b → w.heap.size < b := fun b hb => by
    have h1 := (Fresh.new (w := w0) (w' := W) HJ.out.mv) b hb
    have h2 := HJ.out.lt
    omega
  have HO13 := Lib.hid ho13
  have HX13 := Lib.hid hx13
  have HB13 := Lib.hid hb13
  have HF13 := Lib.hid hf13
  clear HJ ho13 hx13 hb13 hf13 HV HVF
  go_wp2
  have hbq : Blk W.drew w.heap.size 30 CC := HB13.out
  have hxq : Ext w W.drew := HX13.out.drew
  have hoq : OwnB W.drew v13 ((bs ++ be 8 c.1) ++ [byteOf c.2.1]) := HO13.out.ext (Ext.refl _).drew
  refine startM (KeepB fun b => b = w.heap.size) (by kernel_rfl) ?_
  (try simp only [Act.put, List.setIfInBounds_toArray, List.set_cons_succ, List.set_cons_zero])
  generalize W.drew = wq at *
  have HK2 := Lib.hid ((hbq.cell 2).trans HC2.out)
  have hkh : Cells wq ⟨w.heap.size, 3, none⟩ (bv c.2.2.2.1) := by have h := (hbq.cells.drop 3).take 32; rw [HCH.out, addr_at] at h; exact h
  have HKH := Lib.hid hkh
  have hne : ∀ b, v13.ownBlock = some b → b ≠ w.heap.size := fun b hb e => by have := HF13.out b hb; omega
  have HNE := Lib.hid hne
  have hJ0 : CJ w.heap.size wq v13 v13 ((bs ++ be 8 c.1) ++ [byteOf c.2.1]) [] wq := CJ.start hbq.lt hoq hne
  have HXQ := Lib.hid hxq
  have HBQ := Lib.hid hbq
  clear hbq hxq hoq hkh hne
  refine takeK 0 rfl (by kernel_rfl) (by kernel_rfl) (by kernel_rfl) rfl (fun _ _ _ _ h => h) rfl (fun K hK => ?_)
  go_big_quiet_op
  first | refine hK _ ?_ | refine ⟨_, fun _ _ => rfl, hK _ ?_⟩
  clear hK K
  refine takeK 1 rfl (by kernel_rfl) (by kernel_rfl) (by kernel_rfl) rfl (fun _ _ _ _ h => h) rfl (fun K hK => ?_)
  go_big_quiet_op
  first | refine hK _ ?_ | refine ⟨_, fun _ _ => rfl, hK _ ?_⟩
  clear hK K
  refine takeK 2 rfl (by kernel_rfl) (by kernel_rfl) (by kernel_rfl) rfl (fun _ _ _ _ h => h) rfl (fun K hK => ?_)
  refine quiet_cell _ _ rfl _ rfl _ _ Try.underlying23 rfl (fun W' h => KeepB.cell h HK2.out rfl) ?_
  refine hK _ ?_
  simp only [Act.put, List.setIfInBounds_toArray, List.set_cons_succ, List.set_cons_zero]
  clear hK K
  refine takeK 4 rfl (by kernel_rfl) (by kernel_rfl) (by kernel_rfl) rfl (fun _ _ _ _ h => h) rfl (fun K hK => ?_)
  go_big_quiet_op
  first | refine hK _ ?_ | refine ⟨_, fun _ _ => rfl, hK _ ?_⟩
  clear hK K
  refine takeK 5 rfl (by kernel_rfl) (by kernel_rfl) (by kernel_rfl) rfl (fun _ _ _ _ h => h) rfl (fun K hK => ?_)
  go_big_quiet_op
  first | refine hK _ ?_ | refine ⟨_, fun _ _ => rfl, hK _ ?_⟩
  clear hK K
  apply lat1 (fun v17 W => CJ w.heap.size wq v13 v17 (((bs ++ be 8 c.1) ++ [byteOf c.2.1]) ++ be 8 c.2.2.1) [] W)
  intro hM0
  · have HJ := Lib.hid hJ0
    refine stepM 3 rfl (by kernel_rfl) rfl (fun K hK => ?_)
    go_simp
    refine (HJ.out.num c.2.2.1 8 ham (by omega) (by simp only [List.length_append, List.length_cons, List.length_nil, be_length]; omega)).mono ?_
    rintro e W ⟨v17, rfl, hJ, hkb⟩
    have HJ := Lib.hid hJ
    clear hJ
    refine hK _ _ hkb ?_
    clear hK K
    exact hM0 v17 _ (HJ.out.sub (by intro x hx; cases hx))
  intro v17 W hJ
  have HJ := Lib.hid hJ
  clear hJ
  refine stepM 6 rfl (by kernel_rfl) rfl (fun K hK => ?_)
  refine HJ.out.appS (.tmp 17) (.tmp 19) _ _ rfl Try.underlying35 Try.underlying35 rfl _ 32 32 c.2.2.2.1 rfl HH.out (fun _ => ⟨_, rfl, HKH.out.keep (HJ.out.blk HNE.out)⟩) (by simp only [List.length_append, List.length_cons, List.length_nil, be_length]; omega) ?_
  intro v20 W hJ hkb
  have HJ := Lib.hid hJ
  clear hJ
  refine hK _ _ hkb ?_
  clear hK K
  (try simp only [Act.put, List.setIfInBounds_toArray, List.set_cons_succ, List.set_cons_zero])
  refine takeK 7 rfl (by kernel_rfl) (by kernel_rfl) (by kernel_rfl) rfl (fun _ _ _ _ h => h) rfl (fun K hK => ?_)
  go_big_quiet_op
  first | refine hK _ ?_ | refine ⟨_, fun _ _ => rfl, hK _ ?_⟩
  clear hK K
  refine doneM (by kernel_rfl) ?_ _
  have ho20 := HJ.out.own
  have hfr : ∀ b, v13.ownBlock = some b → w.heap.size ≤ b := fun b hb => Nat.le_of_lt (HF13.out b hb)
  have hx20 : Ext w W := grown_then HXQ.out HJ.out.mv.grown (.inr hfr)
  have c35 : W.cell? ⟨w.heap.size, 35, none⟩ = some (.int .u64 (c.2.2.2.2.1 : Int)) := (World.cell?_of_block (HJ.out.blk HNE.out)).trans ((HBQ.out.cell 35).trans HC35.out)
  have HX20 := Lib.hid hx20
  have HO20 := Lib.hid ho20
  clear HJ hx20 ho20 hfr
  go_wp2_with (first
    | (go_at_call 31; refine (Ref_Num v20 _ c.2.2.2.2.1 8 _ _ (OwnB.holds HO20.out) (OwnB.lt HO20.out) hex (by omega) (by simp only [List.length_append, List.length_cons, List.length_nil, be_length, HH.out]; omega)).mono ?_; rintro e w24 ⟨v24, rfl, ho24, hf24⟩)
    | fail)
  go_ret
  exact ⟨_, rfl, by simpa [condB] using ho24, ⟨HX20.out.trans (Fresh.ext hf24), .inr fun b hb => Nat.le_trans HX20.out.size (Fresh.new hf24 b hb)⟩⟩
end
section
open Go.RowKit

section
variable {g : Nat} {w0 w : World} {v0 cur : Value} {bs : List UInt8} {xs : List Item}
theorem wp_emptyL {o : Oper} {a : Act} {K : Act → World → Prop} {Q : Exit → Act → World → Prop} {P : Program} (w : World) (t : TypeId) (ho : o.op = .buildSlice t 0 #[])
    (e : TypeId) (ht : P.underlying t = some (.slice e)) (hi : (P.info? e).map (·.size) = some 1) (hz : ((P.info? e).bind (·.zero)).isSome = true)
    (h : K (a.put o.dst (.slice (some ⟨w.heap.size, 0, none⟩) 0 0)) (w.alloc (.cells #[] e))) : o.wp P a w K Q := by
    obtain ⟨i, hi', hs⟩ := Option.map_eq_some_iff.1 hi
    rw [hi', Option.bind_some] at hz
    obtain ⟨z, hz⟩ := Option.isSome_iff_exists.1 hz
    unfold Oper.wp execOp
    have hrun : (Instr.buildSlice t 0 #[]).run P w = .ok (.slice (some ⟨w.heap.size, 0, none⟩) 0 0) (w.alloc (.cells #[] e)) := by
      unfold Instr.buildSlice
      simp [Sem.run_bind, run_underlying ht, Result.andThen_ok, sizeOf, typeInfo, run_program, hi', Sem.run_pure, hs, zeroValue, hz, newRow, Instr.fill]
      have e : ∀ f : Nat → Value, Array.map f (Array.range 0) = #[] := fun f => Array.eq_empty_of_size_eq_zero (by simp)
      rw [e]
    simp only [ho, List.map_toArray, List.map_nil, Sem.run_bind, hrun, Result.andThen_ok, Sem.run_pure]
    exact h
theorem CJ.mk0 (h : CJ g w0 v0 cur [] xs w) {o : Oper} {a : Act} {K : Act → World → Prop} {Q : Exit → Act → World → Prop} (t : TypeId) (ho : o.op = .buildSlice t 0 #[]) (ht : Try.prog.underlying t = some (.slice 5)) (hi : (Try.prog.info? 5).map (·.size) = some 1) (hz : ((Try.prog.info? 5).bind (·.zero)).isSome = true)
    (hk : ∀ v' W', CJ g w0 v0 v' [] xs W' → KeepB (fun b => b = g) w W' → K (a.put o.dst v') W') : o.wp Try.prog a w K Q := by
  refine wp_emptyL w t ho 5 ht hi hz ?_
  have ho' : OwnB (w.alloc (.cells #[] 5)) (.slice (some ⟨w.heap.size, 0, none⟩) 0 0) [] := own_empty rfl
  have h1 := h.call (v' := .slice (some ⟨w.heap.size, 0, none⟩) 0 0) ho' ⟨((Ext.refl w).alloc _).any _, .inr (by rintro b ⟨⟩; exact Nat.le_refl _)⟩
  exact hk _ _ h1.1 h1.2
theorem CJ.rcond (c : Cd) (hok : CondOk c) (h : CJ g w0 v0 cur bs xs w) (hb : bs.length ≤ 140737488354304) :
    Calls Try.prog 32 #[cur, .agg (condCells c).toArray] w fun e w' => ∃ v', e = .returned v' ∧ CJ g w0 v0 v' (bs ++ condB c) xs w' ∧ KeepB (fun b => b = g) w w' := by
  refine (RCond c cur bs w _ hok (OwnB.holds h.own) (OwnB.lt h.own) hb).mono ?_
  rintro e w' ⟨v', rfl, ho, hf⟩
  exact ⟨v', rfl, h.call ho (Fresh.moved hf cur)⟩
end
set_option maxRecDepth 100000 in
set_option maxHeartbeats 8000000 in
theorem ROp (o : Wish) (vb : Value) (bs : List UInt8) (w : World) (F : Fp) (hok : CondOk o.c) (ham : o.am < 18446744073709551616) (hid : o.id < 18446744073709551616) (hv : (Ty.sl .u8).holds w F [vb] bs) (hF : ∀ b, F b → b < w.heap.size) (hb : bs.length ≤ 140737488353280) :
    Calls Try.prog 12 #[vb, .agg (wishCells o).toArray] w fun e w' => ∃ v', e = .returned v' ∧ OwnB w' v' (bs ++ opB o) ∧ Fresh w w' v' := by
  obtain ⟨A, d, hvb⟩ : ∃ A d, vb = .slice A bs.length d := by
    obtain ⟨A, c, xs', hv, _⟩ := hv
    exact ⟨A, c, by simpa using hv⟩
  subst hvb
  have hb0 : Blk (w.alloc (.cells (wishCells o).toArray 32)) w.heap.size 32 (wishCells o) := Blk.new _ _ _
  have hx0 : Ext w (w.alloc (.cells (wishCells o).toArray 32)) := (Ext.refl w).alloc _
  have c38 := wish_38 hok
  have cc : ((wishCells o).drop 2).take 36 = condCells o.c := List.take_left' (condCells_len hok)
  have c0 : (wishCells o)[0]? = some (.int .i64 o.kind) := rfl
  have c1 : (wishCells o)[1]? = some (.int .u64 (o.am : Int)) := rfl
  have hco := fun (g : Nat) (w0 w : World) (v0 cur : Value) (bs : List UInt8) (xs : List Item) (h : CJ g w0 v0 cur bs xs w) hb => CJ.rcond o.c hok h hb
  have hcl := condCells_len hok
  generalize condCells o.c = CC at *
  generalize wishCells o = OC at *
  have HCO := Lib.hid hco
  have HCL := Lib.hid hcl
  have HB0 := Lib.hid hb0
  have HX0 := Lib.hid hx0
  have HW := Lib.hid hv
  have HFW := Lib.hid hF
  have HC1 := Lib.hid c1
  have HC38 := Lib.hid c38
  have HCC := Lib.hid cc
  clear hb0 hx0 hv hF c1 c38 cc hco hcl
  go_enter Try.func12, Try.ntmps12
  go_wp2
  have hb0 : Blk (w.alloc (.cells OC.toArray 32)).drew w.heap.size 32 OC := HB0.out
  have hx : Ext w (w.alloc (.cells OC.toArray 32)).drew := HX0.out.drew
  refine startM (KeepB fun b => b = w.heap.size) (by kernel_rfl) ?_
  (try simp only [Act.put, List.setIfInBounds_toArray, List.set_cons_succ, List.set_cons_zero])
  generalize (w.alloc (.cells OC.toArray 32)).drew = w0 at *
  have HK0 := Lib.hid ((hb0.cell 0).trans c0)
  have hJ0 : CJ w.heap.size w0 (Value.slice none 0 0) (Value.slice none 0 0) [] [] w0 := CJ.start hb0.lt (Own.nil _ _ _) (by simp [Value.ownBlock])
  have HX := Lib.hid hx
  have HBB := Lib.hid hb0
  have HV : Hid (∀ {cur : Value} {l : List UInt8} {xs : List Item} {W : World}, CJ w.heap.size w0 (Value.slice none 0 0) cur l xs W → (Ty.sl .u8).holds W F [.slice A bs.length d] bs) := Lib.hid (fun h => (HX.out.trans h.ext).holds HFW.out HW.out)
  clear hb0 hx c0
  refine takeK 1 rfl (by kernel_rfl) (by kernel_rfl) (by kernel_rfl) rfl (fun _ _ _ _ h => h) rfl (fun K hK => ?_)
  go_big_quiet_op
  first | refine hK _ ?_ | refine ⟨_, fun _ _ => rfl, hK _ ?_⟩
  clear hK K
  refine takeK 3 rfl (by kernel_rfl) (by kernel_rfl) (by kernel_rfl) rfl (fun _ _ _ _ h => h) rfl (fun K hK => ?_)
  go_big_quiet_op
  first | refine hK _ ?_ | refine ⟨_, fun _ _ => rfl, hK _ ?_⟩
  clear hK K
  refine takeK 4 rfl (by kernel_rfl) (by kernel_rfl) (by kernel_rfl) rfl (fun _ _ _ _ h => h) rfl (fun K hK => ?_)
  refine quiet_cell _ _ rfl _ rfl _ _ Try.underlying3 rfl (fun W' h => KeepB.cell h HK0.out rfl) ?_
  refine hK _ ?_
  simp only [Act.put, List.setIfInBounds_toArray, List.set_cons_succ, List.set_cons_zero]
  clear hK K
  refine takeK 5 rfl (by kernel_rfl) (by kernel_rfl) (by kernel_rfl) rfl (fun _ _ _ _ h => h) rfl (fun K hK => ?_)
  go_big_quiet_op
  first | refine hK _ ?_ | refine ⟨_, fun _ _ => rfl, hK _ ?_⟩
  clear hK K
  apply lat3 (fun v5 v7 v11 W => CJ w.heap.size w0 (.slice none 0 0) v7 ([] ++ bs) [⟨.u8, [byteOf o.kind], v11⟩] W)
  intro hM4
  apply lat2 (fun v5 v11 W => CJ w.heap.size w0 (.slice none 0 0) v5 [] [⟨.u8, [byteOf o.kind], v11⟩] W)
  intro hM3
  apply lat2 (fun v5 v7 W => CJ w.heap.size w0 (.slice none 0 0) v7 ([] ++ bs) [] W)
  intro hM2
  apply lat1 (fun v11 W => CJ w.heap.size w0 (Value.slice none 0 0) (Value.slice none 0 0) [] [⟨.u8, [byteOf o.kind], v11⟩] W)
  intro hM1
  apply lat1 (fun v5 W => CJ w.heap.size w0 (.slice none 0 0) v5 [] [] W)
  intro hM0
  · have HJ := Lib.hid hJ0
    refine anyofM 0 [6] (by kernel_rfl) ⟨oneM rfl rfl (fun K hK => ?_), oneM rfl rfl (fun K hK => ?_), trivial⟩
    · refine HJ.out.mk0 35 rfl Try.underlying35 u8_sizeU u8_zeroU ?_
      intro v5 W hJ hkb
      have HJ := Lib.hid hJ
      clear hJ
      refine hK _ _ hkb ?_
      clear hK K
      (try simp only [Act.put, List.setIfInBounds_toArray, List.set_cons_succ, List.set_cons_zero])
      exact hM0 v5 _ (HJ.out.sub (by intro x hx; cases hx))
    · refine HJ.out.mk1 35 (.tmp 10) rfl 5 Try.underlying35 .u8 (byteOf o.kind) _ [Value.int .u8 ((byteOf o.kind).toNat : Int)] rfl (by rw [byteOf_eq]; rfl) (fun _ _ => rfl) u8_sizeU u8_zeroU (show 1 ≤ 16777216 by decide) (show 0 < 1 by decide) ?_
      intro v11 W hJ hkb
      have HJ := Lib.hid hJ
      clear hJ
      refine hK _ _ hkb ?_
      clear hK K
      (try simp only [Act.put, List.setIfInBounds_toArray, List.set_cons_succ, List.set_cons_zero])
      exact hM1 v11 _ (HJ.out.sub (by intro x hx; simp only [List.mem_cons, List.not_mem_nil, or_false] at hx; rcases hx with rfl <;> first | exact (.head _)))
  · intro v5 W hJ
    have HJ := Lib.hid hJ
    clear hJ
    refine anyofM 2 [6] (by kernel_rfl) ⟨oneM rfl rfl (fun K hK => ?_), oneM rfl rfl (fun K hK => ?_), trivial⟩
    · refine HJ.out.appS (.tmp 5) (.tmp 6) _ _ rfl Try.underlying35 Try.underlying35 rfl A _ d bs rfl rfl (src_bytes (HV.out HJ.out)) (by simp only [List.length_nil]; omega) ?_
      intro v7 W hJ hkb
      have HJ := Lib.hid hJ
      clear hJ
      refine hK _ _ hkb ?_
      clear hK K
      (try simp only [Act.put, List.setIfInBounds_toArray, List.set_cons_succ, List.set_cons_zero])
      exact hM2 v5 v7 _ (HJ.out.sub (by intro x hx; cases hx))
    · refine HJ.out.mk1 35 (.tmp 10) rfl 5 Try.underlying35 .u8 (byteOf o.kind) _ [Value.int .u8 ((byteOf o.kind).toNat : Int)] rfl (by rw [byteOf_eq]; rfl) (fun _ _ => rfl) u8_sizeU u8_zeroU (show 1 ≤ 16777216 by decide) (show 0 < 1 by decide) ?_
      intro v11 W hJ hkb
      have HJ := Lib.hid hJ
      clear hJ
      refine hK _ _ hkb ?_
      clear hK K
      (try simp only [Act.put, List.setIfInBounds_toArray, List.set_cons_succ, List.set_cons_zero])
      exact hM3 v5 v11 _ (HJ.out.sub (by intro x hx; simp only [List.mem_cons, List.not_mem_nil, or_false] at hx; rcases hx with rfl <;> first | exact (.head _)))
  · intro v11 W hJ
    have HJ := Lib.hid hJ
    clear hJ
    refine stepM 0 rfl (by kernel_rfl) rfl (fun K hK => ?_)
    refine HJ.out.mk0 35 rfl Try.underlying35 u8_sizeU u8_zeroU ?_
    intro v5 W hJ hkb
    have HJ := Lib.hid hJ
    clear hJ
    refine hK _ _ hkb ?_
    clear hK K
    (try simp only [Act.put, List.setIfInBounds_toArray, List.set_cons_succ, List.set_cons_zero])
    exact relist (by kernel_rfl) (hM3 v5 v11 _ (HJ.out.sub (by intro x hx; simp only [List.mem_cons, List.not_mem_nil, or_false] at hx; rcases hx with rfl <;> first | exact (.head _))))
  · intro v5 v7 W hJ
    have HJ := Lib.hid hJ
    clear hJ
    refine stepM 6 rfl (by kernel_rfl) rfl (fun K hK => ?_)
    refine HJ.out.mk1 35 (.tmp 10) rfl 5 Try.underlying35 .u8 (byteOf o.kind) _ [Value.int .u8 ((byteOf o.kind).toNat : Int)] rfl (by rw [byteOf_eq]; rfl) (fun _ _ => rfl) u8_sizeU u8_zeroU (show 1 ≤ 16777216 by decide) (show 0 < 1 by decide) ?_
    intro v11 W hJ hkb
    have HJ := Lib.hid hJ
    clear hJ
    refine hK _ _ hkb ?_
    clear hK K
    (try simp only [Act.put, List.setIfInBounds_toArray, List.set_cons_succ, List.set_cons_zero])
    exact hM4 v5 v7 v11 _ (HJ.out.sub (by intro x hx; simp only [List.mem_cons, List.not_mem_nil, or_false] at hx; rcases hx with rfl <;> first | exact (.head _)))
  · intro v5 v11 W hJ
    have HJ := Lib.hid hJ
    clear hJ
    refine stepM 2 rfl (by kernel_rfl) rfl (fun K hK => ?_)
    refine HJ.out.appS (.tmp 5) (.tmp 6) _ _ rfl Try.underlying35 Try.underlying35 rfl A _ d bs rfl rfl (src_bytes (HV.out HJ.out)) (by simp only [List.length_nil]; omega) ?_
    intro v7 W hJ hkb
    have HJ := Lib.hid hJ
    clear hJ
    refine hK _ _ hkb ?_
    clear hK K
    (try simp only [Act.put, List.setIfInBounds_toArray, List.set_cons_succ, List.set_cons_zero])
    exact relist (by kernel_rfl) (hM4 v5 v7 v11 _ (HJ.out.sub (by intro x hx; simp only [List.mem_cons, List.not_mem_nil, or_false] at hx; rcases hx with rfl <;> first | exact (.head _))))
  intro v5 v7 v11 W hJ
  have HJ := Lib.hid hJ
  clear hJ
  refine stepM 7 rfl (by kernel_rfl) rfl (fun K hK => ?_)
  refine HJ.out.appI (.tmp 7) (.tmp 11) _ _ rfl Try.underlying35 Try.underlying35 rfl (.head _) rfl (by simp only [List.length_append, List.length_nil, List.length_cons]; omega) ?_
  intro v12 W hJ hkb
  have HJ := Lib.hid hJ
  clear hJ
  refine hK _ _ hkb ?_
  clear hK K
  (try simp only [Act.put, List.setIfInBounds_toArray, List.set_cons_succ, List.set_cons_zero])
  refine takeK 8 rfl (by kernel_rfl) (by kernel_rfl) (by kernel_rfl) rfl (fun _ _ _ _ h => h) rfl (fun K hK => ?_)
  go_big_quiet_op
  first | refine hK _ ?_ | refine ⟨_, fun _ _ => rfl, hK _ ?_⟩
  clear hK K
  refine doneM (by kernel_rfl) ?_ _
  have ho13 : OwnB W v12 (bs ++ [byteOf o.kind]) := HJ.out.own
  have hx13 : Ext w W := HX.out.trans HJ.out.ext
  have hb13 : Blk W w.heap.size 32 OC := by
    show W.heap[w.heap.size]? = _
    rw [HJ.out.blk (by simp [Value.ownBlock])]; exact HBB.out
  have hf13 : ∀ b, v12.ownBlock = some b → w.heap.size < b := fun b hb => by
    have h1 := (Fresh.new (w := w0) (w' := W) HJ.out.mv) b hb
    have h2 := HJ.out.lt
    omega
  have HO13 := Lib.hid ho13
  have HX13 := Lib.hid hx13
  have HB13 := Lib.hid hb13
  have HF13 := Lib.hid hf13
  clear HJ ho13 hx13 hb13 hf13 HV
  go_wp2
  have hbq : Blk W.drew w.heap.size 32 OC := HB13.out
  have hxq : Ext w W.drew := HX13.out.drew
  have hoq : OwnB W.drew v12 (bs ++ [byteOf o.kind]) := HO13.out.ext (Ext.refl _).drew
  refine startM (KeepB fun b => b = w.heap.size) (by kernel_rfl) ?_
  (try simp only [Act.put, List.setIfInBounds_toArray, List.set_cons_succ, List.set_cons_zero])
  generalize W.drew = wq at *
  have HK1 := Lib.hid ((hbq.cell 1).trans HC1.out)
  have HK38 := Lib.hid ((hbq.cell 38).trans HC38.out)
  have hkc : Cells wq ⟨w.heap.size, 2, none⟩ CC := by have h := (hbq.cells.drop 2).take 36; rw [HCC.out, addr_at] at h; exact h
  have HKC := Lib.hid hkc
  have hne : ∀ b, v12.ownBlock = some b → b ≠ w.heap.size := fun b hb e => by have := HF13.out b hb; omega
  have hJ0 : CJ w.heap.size wq v12 v12 (bs ++ [byteOf o.kind]) [] wq := CJ.start hbq.lt hoq hne
  have HXQ := Lib.hid hxq
  clear hbq hxq hoq hkc hne
  refine takeK 0 rfl (by kernel_rfl) (by kernel_rfl) (by kernel_rfl) rfl (fun _ _ _ _ h => h) rfl (fun K hK => ?_)
  go_big_quiet_op
  first | refine hK _ ?_ | refine ⟨_, fun _ _ => rfl, hK _ ?_⟩
  clear hK K
  refine takeK 1 rfl (by kernel_rfl) (by kernel_rfl) (by kernel_rfl) rfl (fun _ _ _ _ h => h) rfl (fun K hK => ?_)
  go_big_quiet_op
  first | refine hK _ ?_ | refine ⟨_, fun _ _ => rfl, hK _ ?_⟩
  clear hK K
  refine takeK 2 rfl (by kernel_rfl) (by kernel_rfl) (by kernel_rfl) rfl (fun _ _ _ _ h => h) rfl (fun K hK => ?_)
  refine quiet_cell _ _ rfl _ rfl _ _ Try.underlying23 rfl (fun W' h => KeepB.cell h HK1.out rfl) ?_
  refine hK _ ?_
  simp only [Act.put, List.setIfInBounds_toArray, List.set_cons_succ, List.set_cons_zero]
  clear hK K
  refine takeK 4 rfl (by kernel_rfl) (by kernel_rfl) (by kernel_rfl) rfl (fun _ _ _ _ h => h) rfl (fun K hK => ?_)
  go_big_quiet_op
  first | refine hK _ ?_ | refine ⟨_, fun _ _ => rfl, hK _ ?_⟩
  clear hK K
  refine takeK 5 rfl (by kernel_rfl) (by kernel_rfl) (by kernel_rfl) rfl (fun _ _ _ _ h => h) rfl (fun K hK => ?_)
  refine quiet_cell _ _ rfl _ rfl _ _ Try.underlying23 rfl (fun W' h => KeepB.cell h HK38.out rfl) ?_
  refine hK _ ?_
  simp only [Act.put, List.setIfInBounds_toArray, List.set_cons_succ, List.set_cons_zero]
  clear hK K
  refine takeK 7 rfl (by kernel_rfl) (by kernel_rfl) (by kernel_rfl) rfl (fun _ _ _ _ h => h) rfl (fun K hK => ?_)
  go_big_quiet_op
  first | refine hK _ ?_ | refine ⟨_, fun _ _ => rfl, hK _ ?_⟩
  clear hK K
  refine takeK 8 rfl (by kernel_rfl) (by kernel_rfl) (by kernel_rfl) rfl (fun _ _ _ _ h => h) rfl (fun K hK => ?_)
  refine quiet_agg 30 (.tmp 20) rfl _ rfl CC _ Try.underlying30 rfl (rcond_size HCL.out) (fun W' h => KeepB.cells h HKC.out rfl) ?_
  refine hK _ ?_
  simp only [Act.put, List.setIfInBounds_toArray, List.set_cons_succ, List.set_cons_zero]
  clear hK K
  apply lat2 (fun v16 v19 W => CJ w.heap.size wq v12 v19 (((bs ++ [byteOf o.kind]) ++ be 8 o.am) ++ be 8 o.id) [] W)
  intro hM1
  apply lat1 (fun v16 W => CJ w.heap.size wq v12 v16 ((bs ++ [byteOf o.kind]) ++ be 8 o.am) [] W)
  intro hM0
  · have HJ := Lib.hid hJ0
    refine stepM 3 rfl (by kernel_rfl) rfl (fun K hK => ?_)
    go_simp
    refine (HJ.out.num o.am 8 ham (by omega) (by simp only [List.length_append, List.length_cons, List.length_nil, be_length]; omega)).mono ?_
    rintro e W ⟨v16, rfl, hJ, hkb⟩
    have HJ := Lib.hid hJ
    clear hJ
    refine hK _ _ hkb ?_
    clear hK K
    exact hM0 v16 _ (HJ.out.sub (by intro x hx; cases hx))
  · intro v16 W hJ
    have HJ := Lib.hid hJ
    clear hJ
    refine stepM 6 rfl (by kernel_rfl) rfl (fun K hK => ?_)
    go_simp
    refine (HJ.out.num o.id 8 hid (by omega) (by simp only [List.length_append, List.length_cons, List.length_nil, be_length]; omega)).mono ?_
    rintro e W ⟨v19, rfl, hJ, hkb⟩
    have HJ := Lib.hid hJ
    clear hJ
    refine hK _ _ hkb ?_
    clear hK K
    exact hM1 v16 v19 _ (HJ.out.sub (by intro x hx; cases hx))
  intro v16 v19 W hJ
  have HJ := Lib.hid hJ
  clear hJ
  refine stepM 9 rfl (by kernel_rfl) rfl (fun K hK => ?_)
  go_simp
  refine (HCO.out _ _ _ _ _ _ _ HJ.out (by simp only [List.length_append, List.length_cons, List.length_nil, be_length]; omega)).mono ?_
  rintro e W ⟨v22, rfl, hJ, hkb⟩
  have HJ := Lib.hid hJ
  clear hJ
  refine hK _ _ hkb ?_
  clear hK K
  refine takeK 10 rfl (by kernel_rfl) (by kernel_rfl) (by kernel_rfl) rfl (fun _ _ _ _ h => h) rfl (fun K hK => ?_)
  go_big_quiet_op
  first | refine hK _ ?_ | refine ⟨_, fun _ _ => rfl, hK _ ?_⟩
  clear hK K
  refine doneM (by kernel_rfl) ?_ _
  have ho9 := HJ.out.own
  have hfr : ∀ b, v12.ownBlock = some b → w.heap.size ≤ b := fun b hb => Nat.le_of_lt (HF13.out b hb)
  have hx9 : Ext w W := grown_then HXQ.out HJ.out.mv.grown (.inr hfr)
  have hn9 : ∀ b, v22.ownBlock = some b → w.heap.size ≤ b := fun b hb => by
    rcases HJ.out.mv.at_ with e | hn
    · exact hfr b (e.symm.trans hb)
    · exact Nat.le_trans HXQ.out.size (hn b hb)
  clear HJ
  go_wp2
  go_ret
  exact ⟨_, rfl, by simpa [opB] using ho9, ⟨hx9, .inr hn9⟩⟩
end
section
open Go.RowKit

set_option maxRecDepth 100000 in
set_option maxHeartbeats 8000000 in
theorem DRState (s : St) (hw : StWf s) (u : Value) (F : Fp) (vb : Value) (bs : List UInt8) (w : World) (hc : Conds w F u s.cs) (hv : (Ty.sl .u8).holds w F [vb] bs) (hF : ∀ b, F b → b < w.heap.size) (hlen : List.length (α := Cd) s.cs ≤ 1099511627776) (hb : bs.length ≤ 1099511627776) :
    Calls Try.prog 9 #[vb, stv s u] w fun e w' => ∃ v', e = .returned v' ∧ OwnB w' v' (bs ++ stateB s) ∧ Fresh w w' v' := by
  have hoks := conds_ok hc
  obtain ⟨A, c, xs, rfl, hlc, hcm, hA, hcell, hall⟩ := conds_open hc
  unfold maxLen at hcm
  clear hc
  have hch : s.chan < 18446744073709551616 := by have := bounds_u32 hw.chan; omega
  have hch32 : s.chan < 4294967296 := by have := bounds_u32 hw.chan; omega
  have hro := wf_lt hw.round
  have hm0 := wf_lt hw.m0
  have hm1 := wf_lt hw.m1
  have ht0 := wf_lt hw.t0
  have ht1 := wf_lt hw.t1
  have hwk : IntKind.u64.wrap (s.chan : Int) = (s.chan : Int) := by simp [IntKind.wrap, IntKind.bits, IntKind.signed]; omega
  obtain ⟨SC, hSC⟩ : ∃ SC, SC = stc s (.slice A (List.length (α := Cd) s.cs) c) := ⟨_, rfl⟩
  have hst : stv s (.slice A (List.length (α := Cd) s.cs) c) = .agg SC.toArray := by rw [hSC]; rfl
  rw [hst]
  have HS0 : Hid (SC[0]? = some (.int .u32 (s.chan : Int))) := Lib.hid (by rw [hSC]; rfl)
  have HS1 : Hid (SC[1]? = some (.int .u64 (s.round : Int))) := Lib.hid (by rw [hSC]; rfl)
  have HS2 : Hid (SC[2]? = some (.int .u64 (s.m0 : Int))) := Lib.hid (by rw [hSC]; rfl)
  have HS3 : Hid (SC[3]? = some (.int .u64 (s.m1 : Int))) := Lib.hid (by rw [hSC]; rfl)
  have HS4 : Hid (SC[4]? = some (.int .u64 (s.t0 : Int))) := Lib.hid (by rw [hSC]; rfl)
  have HS5 : Hid (SC[5]? = some (.int .u64 (s.t1 : Int))) := Lib.hid (by rw [hSC]; rfl)
  have HS6 : Hid (SC[6]? = some (.slice A (List.length (α := Cd) s.cs) c)) := Lib.hid (by rw [hSC]; rfl)
  have hb0 : Blk (w.alloc (.cells SC.toArray 27)) w.heap.size 27 SC := Blk.new _ _ _
  have hx0 : Ext w (w.alloc (.cells SC.toArray 27)) := (Ext.refl w).alloc _
  have HB0 := Lib.hid hb0
  have HX0 := Lib.hid hx0
  have HW := Lib.hid hv
  have HFW := Lib.hid hF
  have HALL := Lib.hid hall
  have HCELL := Lib.hid hcell
  have HOKS := Lib.hid hoks
  clear hb0 hx0 hv hF hall hcell hst hSC hoks hw
  go_enter Try.func9, Try.ntmps9
  go_wp2
  have hb0 : Blk (w.alloc (.cells SC.toArray 27)).drew w.heap.size 27 SC := HB0.out
  have hx : Ext w (w.alloc (.cells SC.toArray 27)).drew := HX0.out.drew
  refine startM (KeepB fun b => b = w.heap.size) (by kernel_rfl) ?_
  (try simp only [Act.put, List.setIfInBounds_toArray, List.set_cons_succ, List.set_cons_zero])
  generalize (w.alloc (.cells SC.toArray 27)).drew = w0 at *
  have HK0 := Lib.hid ((hb0.cell 0).trans HS0.out)
  have HK1 := Lib.hid ((hb0.cell 1).trans HS1.out)
  have hJ0 : CJ w.heap.size w0 (Value.slice none 0 0) (Value.slice none 0 0) [] [] w0 := CJ.start hb0.lt (Own.nil _ _ _) (by simp [Value.ownBlock])
  have HX := Lib.hid hx
  have HBB := Lib.hid hb0
  have HV : Hid (∀ {cur : Value} {l : List UInt8} {xs : List Item} {W : World}, CJ w.heap.size w0 (Value.slice none 0 0) cur l xs W → (Ty.sl .u8).holds W F [vb] bs) := Lib.hid (fun h => (HX.out.trans h.ext).holds HFW.out HW.out)
  have HVF : Hid (∀ {cur : Value} {l : List UInt8} {xs : List Item} {W : World}, CJ w.heap.size w0 (Value.slice none 0 0) cur l xs W → ∀ b, F b → b < W.heap.size) := Lib.hid (fun h b hb => Nat.lt_of_lt_of_le (HFW.out b hb) (HX.out.trans h.ext).size)
  clear hb0 hx HB0 HX0
  refine takeK 0 rfl (by kernel_rfl) (by kernel_rfl) (by kernel_rfl) rfl (fun _ _ _ _ h => h) rfl (fun K hK => ?_)
  go_big_quiet_op
  first | refine hK _ ?_ | refine ⟨_, fun _ _ => rfl, hK _ ?_⟩
  clear hK K
  refine takeK 1 rfl (by kernel_rfl) (by kernel_rfl) (by kernel_rfl) rfl (fun _ _ _ _ h => h) rfl (fun K hK => ?_)
  go_big_quiet_op
  first | refine hK _ ?_ | refine ⟨_, fun _ _ => rfl, hK _ ?_⟩
  clear hK K
  refine takeK 2 rfl (by kernel_rfl) (by kernel_rfl) (by kernel_rfl) rfl (fun _ _ _ _ h => h) rfl (fun K hK => ?_)
  refine quiet_cell _ _ rfl _ rfl _ _ Try.underlying22 rfl (fun W' h => KeepB.cell h HK0.out rfl) ?_
  refine hK _ ?_
  simp only [Act.put, List.setIfInBounds_toArray, List.set_cons_succ, List.set_cons_zero]
  clear hK K
  refine takeK 3 rfl (by kernel_rfl) (by kernel_rfl) (by kernel_rfl) rfl (fun _ _ _ _ h => h) rfl (fun K hK => ?_)
  go_big_quiet_op
  first | refine hK _ ?_ | refine ⟨_, fun _ _ => rfl, hK _ ?_⟩
  clear hK K
  refine takeK 5 rfl (by kernel_rfl) (by kernel_rfl) (by kernel_rfl) rfl (fun _ _ _ _ h => h) rfl (fun K hK => ?_)
  go_big_quiet_op
  first | refine hK _ ?_ | refine ⟨_, fun _ _ => rfl, hK _ ?_⟩
  clear hK K
  refine takeK 6 rfl (by kernel_rfl) (by kernel_rfl) (by kernel_rfl) rfl (fun _ _ _ _ h => h) rfl (fun K hK => ?_)
  refine quiet_cell _ _ rfl _ rfl _ _ Try.underlying23 rfl (fun W' h => KeepB.cell h HK1.out rfl) ?_
  refine hK _ ?_
  simp only [Act.put, List.setIfInBounds_toArray, List.set_cons_succ, List.set_cons_zero]
  clear hK K
  apply lat1 (fun v10 W => CJ w.heap.size w0 (.slice none 0 0) v10 (bs ++ be 4 s.chan) [] W)
  intro hM0
  · have HJ := Lib.hid hJ0
    refine stepM 4 rfl (by kernel_rfl) rfl (fun K hK => ?_)
    go_simp
    refine (HJ.out.num0 vb bs F (HV.out HJ.out) (HVF.out HJ.out) s.chan 4 hch (by omega) (by omega)).mono ?_
    rintro e W ⟨v10, rfl, hJ, hkb⟩
    have HJ := Lib.hid hJ
    clear hJ
    refine hK _ _ hkb ?_
    clear hK K
    exact hM0 v10 _ (HJ.out.sub (by intro x hx; cases hx))
  intro v10 W hJ
  have HJ := Lib.hid hJ
  clear hJ
  refine stepM 7 rfl (by kernel_rfl) rfl (fun K hK => ?_)
  go_simp
  refine (HJ.out.num s.round 8 hro (by omega) (by simp only [List.length_append, List.length_cons, List.length_nil, be_length]; omega)).mono ?_
  rintro e W ⟨v13, rfl, hJ, hkb⟩
  have HJ := Lib.hid hJ
  clear hJ
  refine hK _ _ hkb ?_
  clear hK K
  refine takeK 8 rfl (by kernel_rfl) (by kernel_rfl) (by kernel_rfl) rfl (fun _ _ _ _ h => h) rfl (fun K hK => ?_)
  go_big_quiet_op
  first | refine hK _ ?_ | refine ⟨_, fun _ _ => rfl, hK _ ?_⟩
  clear hK K
  refine doneM (by kernel_rfl) ?_ _
  have ho13 := HJ.out.own
  have hx13 : Ext w W := HX.out.trans HJ.out.ext
  have hb13 : Blk W w.heap.size 27 SC := by
    show W.heap[w.heap.size]? = _
    rw [HJ.out.blk (by simp [Value.ownBlock])]; exact HBB.out
  have hf13 : ∀ b, v13.ownBlock = some b → w.heap.size < b := fun b hb => by
    have h1 := (Fresh.new (w := w0) (w' := W) HJ.out.mv) b hb
    have h2 := HJ.out.lt
    omega
  have HO13 := Lib.hid ho13
  have HX13 := Lib.hid hx13
  have HB13 := Lib.hid hb13
  have HF13 := Lib.hid hf13
  clear HJ ho13 hx13 hb13 hf13 HV HVF HX HBB HK0 HK1
  go_wp2
  have hbq : Blk W.drew w.heap.size 27 SC := HB13.out
  have hxq : Ext w W.drew := HX13.out.drew
  have hoq : OwnB W.drew v13 ((bs ++ be 4 s.chan) ++ be 8 s.round) := HO13.out.ext (Ext.refl _).drew
  refine startM (KeepB fun b => b = w.heap.size) (by kernel_rfl) ?_
  (try simp only [Act.put, List.setIfInBounds_toArray, List.set_cons_succ, List.set_cons_zero])
  generalize W.drew = wq at *
  have HK2 := Lib.hid ((hbq.cell 2).trans HS2.out)
  have HK3 := Lib.hid ((hbq.cell 3).trans HS3.out)
  have hne : ∀ b, v13.ownBlock = some b → b ≠ w.heap.size := fun b hb e => by have := HF13.out b hb; omega
  have HNE := Lib.hid hne
  have hJ0 : CJ w.heap.size wq v13 v13 ((bs ++ be 4 s.chan) ++ be 8 s.round) [] wq := CJ.start hbq.lt hoq hne
  have HXQ := Lib.hid hxq
  have HBQ := Lib.hid hbq
  clear hbq hxq hoq hne HO13 HX13 HB13
  refine takeK 0 rfl (by kernel_rfl) (by kernel_rfl) (by kernel_rfl) rfl (fun _ _ _ _ h => h) rfl (fun K hK => ?_)
  go_big_quiet_op
  first | refine hK _ ?_ | refine ⟨_, fun _ _ => rfl, hK _ ?_⟩
  clear hK K
  refine takeK 1 rfl (by kernel_rfl) (by kernel_rfl) (by kernel_rfl) rfl (fun _ _ _ _ h => h) rfl (fun K hK => ?_)
  go_big_quiet_op
  first | refine hK _ ?_ | refine ⟨_, fun _ _ => rfl, hK _ ?_⟩
  clear hK K
  refine takeK 2 rfl (by kernel_rfl) (by kernel_rfl) (by kernel_rfl) rfl (fun _ _ _ _ h => h) rfl (fun K hK => ?_)
  go_big_quiet_op
  first | refine hK _ ?_ | refine ⟨_, fun _ _ => rfl, hK _ ?_⟩
  clear hK K
  refine takeK 3 rfl (by kernel_rfl) (by kernel_rfl) (by kernel_rfl) rfl (fun _ _ _ _ h => h) rfl (fun K hK => ?_)
  refine quiet_cell _ _ rfl _ rfl _ _ Try.underlying23 rfl (fun W' h => KeepB.cell h HK2.out rfl) ?_
  refine hK _ ?_
  simp only [Act.put, List.setIfInBounds_toArray, List.set_cons_succ, List.set_cons_zero]
  clear hK K
  refine takeK 5 rfl (by kernel_rfl) (by kernel_rfl) (by kernel_rfl) rfl (fun _ _ _ _ h => h) rfl (fun K hK => ?_)
  go_big_quiet_op
  first | refine hK _ ?_ | refine ⟨_, fun _ _ => rfl, hK _ ?_⟩
  clear hK K
  refine takeK 6 rfl (by kernel_rfl) (by kernel_rfl) (by kernel_rfl) rfl (fun _ _ _ _ h => h) rfl (fun K hK => ?_)
  go_big_quiet_op
  first | refine hK _ ?_ | refine ⟨_, fun _ _ => rfl, hK _ ?_⟩
  clear hK K
  refine takeK 7 rfl (by kernel_rfl) (by kernel_rfl) (by kernel_rfl) rfl (fun _ _ _ _ h => h) rfl (fun K hK => ?_)
  refine quiet_cell _ _ rfl _ rfl _ _ Try.underlying23 rfl (fun W' h => KeepB.cell h HK3.out rfl) ?_
  refine hK _ ?_
  simp only [Act.put, List.setIfInBounds_toArray, List.set_cons_succ, List.set_cons_zero]
  clear hK K
  apply lat1 (fun v18 W => CJ w.heap.size wq v13 v18 (((bs ++ be 4 s.chan) ++ be 8 s.round) ++ be 8 s.m0) [] W)
  intro hM0
  · have HJ := Lib.hid hJ0
    refine stepM 4 rfl (by kernel_rfl) rfl (fun K hK => ?_)
    go_simp
    refine (HJ.out.num s.m0 8 hm0 (by omega) (by simp only [List.length_append, List.length_cons, List.length_nil, be_length]; omega)).mono ?_
    rintro e W ⟨v18, rfl, hJ, hkb⟩
    have HJ := Lib.hid hJ
    clear hJ
    refine hK _ _ hkb ?_
    clear hK K
    exact hM0 v18 _ (HJ.out.sub (by intro x hx; cases hx))
  intro v18 W hJ
  have HJ := Lib.hid hJ
  clear hJ
  refine stepM 8 rfl (by kernel_rfl) rfl (fun K hK => ?_)
  go_simp
  refine (HJ.out.num s.m1 8 hm1 (by omega) (by simp only [List.length_append, List.length_cons, List.length_nil, be_length]; omega)).mono ?_
  rintro e W ⟨v22, rfl, hJ, hkb⟩
  have HJ := Lib.hid hJ
  clear hJ
  refine hK _ _ hkb ?_
  clear hK K
  refine takeK 9 rfl (by kernel_rfl) (by kernel_rfl) (by kernel_rfl) rfl (fun _ _ _ _ h => h) rfl (fun K hK => ?_)
  go_big_quiet_op
  first | refine hK _ ?_ | refine ⟨_, fun _ _ => rfl, hK _ ?_⟩
  clear hK K
  refine doneM (by kernel_rfl) ?_ _
  have ho22 := HJ.out.own
  have hx22 : Ext w W := grown_then HXQ.out HJ.out.mv.grown (.inr (fun b hb => Nat.le_of_lt (HF13.out b hb)))
  have hb22 : Blk W w.heap.size 27 SC := by
    show W.heap[w.heap.size]? = _
    rw [HJ.out.blk HNE.out]; exact HBQ.out
  have hf22 : ∀ b, v22.ownBlock = some b → w.heap.size < b := fun b hb => by
    have h0 := HJ.out.mv.at_
    rcases h0 with e | hn
    · exact HF13.out b (e.symm.trans hb)
    · have h1 := hn b hb; have h2 := HJ.out.lt; omega
  have HO22 := Lib.hid ho22
  have HX22 := Lib.hid hx22
  have HB22 := Lib.hid hb22
  have HF22 := Lib.hid hf22
  clear HJ ho22 hx22 hb22 hf22 HXQ HBQ HNE HK2 HK3
  go_wp2
  have hbq : Blk W.drew w.heap.size 27 SC := HB22.out
  have hxq : Ext w W.drew := HX22.out.drew
  have hoq : OwnB W.drew v22 ((((bs ++ be 4 s.chan) ++ be 8 s.round) ++ be 8 s.m0) ++ be 8 s.m1) := HO22.out.ext (Ext.refl _).drew
  refine startM (KeepB fun b => b = w.heap.size) (by kernel_rfl) ?_
  (try simp only [Act.put, List.setIfInBounds_toArray, List.set_cons_succ, List.set_cons_zero])
  generalize W.drew = wq at *
  have HK4 := Lib.hid ((hbq.cell 4).trans HS4.out)
  have HK5 := Lib.hid ((hbq.cell 5).trans HS5.out)
  have hne : ∀ b, v22.ownBlock = some b → b ≠ w.heap.size := fun b hb e => by have := HF22.out b hb; omega
  have HNE := Lib.hid hne
  have hJ0 : CJ w.heap.size wq v22 v22 ((((bs ++ be 4 s.chan) ++ be 8 s.round) ++ be 8 s.m0) ++ be 8 s.m1) [] wq := CJ.start hbq.lt hoq hne
  have HXQ := Lib.hid hxq
  have HBQ := Lib.hid hbq
  clear hbq hxq hoq hne HO22 HX22 HB22
  refine takeK 0 rfl (by kernel_rfl) (by kernel_rfl) (by kernel_rfl) rfl (fun _ _ _ _ h => h) rfl (fun K hK => ?_)
  go_big_quiet_op
  first | refine hK _ ?_ | refine ⟨_, fun _ _ => rfl, hK _ ?_⟩
  clear hK K
  refine takeK 1 rfl (by kernel_rfl) (by kernel_rfl) (by kernel_rfl) rfl (fun _ _ _ _ h => h) rfl (fun K hK => ?_)
  go_big_quiet_op
  first | refine hK _ ?_ | refine ⟨_, fun _ _ => rfl, hK _ ?_⟩
  clear hK K
  refine takeK 2 rfl (by kernel_rfl) (by kernel_rfl) (by kernel_rfl) rfl (fun _ _ _ _ h => h) rfl (fun K hK => ?_)
  go_big_quiet_op
  first | refine hK _ ?_ | refine ⟨_, fun _ _ => rfl, hK _ ?_⟩
  clear hK K
  refine takeK 3 rfl (by kernel_rfl) (by kernel_rfl) (by kernel_rfl) rfl (fun _ _ _ _ h => h) rfl (fun K hK => ?_)
  refine quiet_cell _ _ rfl _ rfl _ _ Try.underlying23 rfl (fun W' h => KeepB.cell h HK4.out rfl) ?_
  refine hK _ ?_
  simp only [Act.put, List.setIfInBounds_toArray, List.set_cons_succ, List.set_cons_zero]
  clear hK K
  refine takeK 5 rfl (by kernel_rfl) (by kernel_rfl) (by kernel_rfl) rfl (fun _ _ _ _ h => h) rfl (fun K hK => ?_)
  go_big_quiet_op
  first | refine hK _ ?_ | refine ⟨_, fun _ _ => rfl, hK _ ?_⟩
  clear hK K
  refine takeK 6 rfl (by kernel_rfl) (by kernel_rfl) (by kernel_rfl) rfl (fun _ _ _ _ h => h) rfl (fun K hK => ?_)
  go_big_quiet_op
  first | refine hK _ ?_ | refine ⟨_, fun _ _ => rfl, hK _ ?_⟩
  clear hK K
  refine takeK 7 rfl (by kernel_rfl) (by kernel_rfl) (by kernel_rfl) rfl (fun _ _ _ _ h => h) rfl (fun K hK => ?_)
  refine quiet_cell _ _ rfl _ rfl _ _ Try.underlying23 rfl (fun W' h => KeepB.cell h HK5.out rfl) ?_
  refine hK _ ?_
  simp only [Act.put, List.setIfInBounds_toArray, List.set_cons_succ, List.set_cons_zero]
  clear hK K
  apply lat1 (fun v27 W => CJ w.heap.size wq v22 v27 (((((bs ++ be 4 s.chan) ++ be 8 s.round) ++ be 8 s.m0) ++ be 8 s.m1) ++ be 8 s.t0) [] W)
  intro hM0
  · have HJ := Lib.hid hJ0
    refine stepM 4 rfl (by kernel_rfl) rfl (fun K hK => ?_)
    go_simp
    refine (HJ.out.num s.t0 8 ht0 (by omega) (by simp only [List.length_append, List.length_cons, List.length_nil, be_length]; omega)).mono ?_
    rintro e W ⟨v27, rfl, hJ, hkb⟩
    have HJ := Lib.hid hJ
    clear hJ
    refine hK _ _ hkb ?_
    clear hK K
    exact hM0 v27 _ (HJ.out.sub (by intro x hx; cases hx))
  intro v27 W hJ
  have HJ := Lib.hid hJ
  clear hJ
  refine stepM 8 rfl (by kernel_rfl) rfl (fun K hK => ?_)
  go_simp
  refine (HJ.out.num s.t1 8 ht1 (by omega) (by simp only [List.length_append, List.length_cons, List.length_nil, be_length]; omega)).mono ?_
  rintro e W ⟨v31, rfl, hJ, hkb⟩
  have HJ := Lib.hid hJ
  clear hJ
  refine hK _ _ hkb ?_
  clear hK K
  refine takeK 9 rfl (by kernel_rfl) (by kernel_rfl) (by kernel_rfl) rfl (fun _ _ _ _ h => h) rfl (fun K hK => ?_)
  go_big_quiet_op
  first | refine hK _ ?_ | refine ⟨_, fun _ _ => rfl, hK _ ?_⟩
  clear hK K
  refine doneM (by kernel_rfl) ?_ _
  have ho31 := HJ.out.own
  have hx31 : Ext w W := grown_then HXQ.out HJ.out.mv.grown (.inr (fun b hb => Nat.le_of_lt (HF22.out b hb)))
  have hb31 : Blk W w.heap.size 27 SC := by
    show W.heap[w.heap.size]? = _
    rw [HJ.out.blk HNE.out]; exact HBQ.out
  have hf31 : ∀ b, v31.ownBlock = some b → w.heap.size < b := fun b hb => by
    have h0 := HJ.out.mv.at_
    rcases h0 with e | hn
    · exact HF22.out b (e.symm.trans hb)
    · have h1 := hn b hb; have h2 := HJ.out.lt; omega
  have HO31 := Lib.hid ho31
  have HX31 := Lib.hid hx31
  have HB31 := Lib.hid hb31
  have HF31 := Lib.hid hf31
  clear HJ ho31 hx31 hb31 hf31 HXQ HBQ HNE HK4 HK5
  have c6 := (HB31.out.cell 6).trans HS6.out
  obtain ⟨nc, hnc⟩ : ∃ nc, nc = List.length (α := Cd) s.cs := ⟨_, rfl⟩
  rw [← hnc] at c6 hlen hlc HCELL
  have HNC := Lib.hid hnc
  obtain ⟨i0, hi, hz0, hz1, hz2⟩ := info_parts u8_info
  have hlb : ((((((bs ++ be 4 s.chan) ++ be 8 s.round) ++ be 8 s.m0) ++ be 8 s.m1) ++ be 8 s.t0) ++ be 8 s.t1).length = bs.length + 44 := by simp only [List.length_append, be_length]
  have HLB := Lib.hid hlb
  have hxa : Ext W (W.alloc (.cells #[.int .u8 ((byteOf (nc : Int)).toNat : Int)] 5)) := (Ext.refl W).alloc _
  rw [byteOf_eq] at hxa
  have HXA := Lib.hid hxa
  have c6a : (W.alloc (.cells #[.int .u8 ((nc : Int) % 256)] 5)).cell? ⟨w.heap.size, 6, none⟩ = some (.slice A nc c) := ((HB31.out.keep hxa (by simp)).cell 6).trans (HS6.out.trans (by rw [← hnc]))
  clear hnc hlb hxa
  go_wp2_with (first
    | ((with_reducible refine wpDst 38 rfl ?_); go_must (refine wpList_app _ rfl (.tmp 32) (.tmp 37) _ _ rfl 5 5 i0 _ 1 1 Try.underlying35 Try.underlying35 hi hz0 hz1 hz2 rfl (by decide) v31 _ _ rfl (HO31.out.ext HXA.out) _ 1 1 [Value.int .u8 ((nc : Int) % 256)] rfl rfl (src_new_at rfl [Value.int .u8 ((nc : Int) % 256)] _ 1) (by simp [Value.oneCell']) (by have := HLB.out; unfold maxLen; omega) (by have := HLB.out; omega) ?_)
       intro v38 w38 ho38 hm38)
    | fail)
  have ho9 : OwnB w38 v38 (bs ++ headB s) := by
    have e : (bv ((((((bs ++ be 4 s.chan) ++ be 8 s.round) ++ be 8 s.m0) ++ be 8 s.m1) ++ be 8 s.t0) ++ be 8 s.t1) ++ [Value.int .u8 ((nc : Int) % 256)]) = bv (((((((bs ++ be 4 s.chan) ++ be 8 s.round) ++ be 8 s.m0) ++ be 8 s.m1) ++ be 8 s.t0) ++ be 8 s.t1) ++ [byteOf (nc : Int)]) := by rw [bv_append ((((((bs ++ be 4 s.chan) ++ be 8 s.round) ++ be 8 s.m0) ++ be 8 s.m1) ++ be 8 s.t0) ++ be 8 s.t1) [byteOf (nc : Int)]]; rw [show bv [byteOf (nc : Int)] = [Value.int .u8 ((byteOf (nc : Int)).toNat : Int)] from rfl, byteOf_eq]
    have h := ho38
    rw [e] at h
    have e2 : (((((((bs ++ be 4 s.chan) ++ be 8 s.round) ++ be 8 s.m0) ++ be 8 s.m1) ++ be 8 s.t0) ++ be 8 s.t1) ++ [byteOf (nc : Int)]) = bs ++ headB s := by rw [HNC.out]; simp [headB]
    show Own w38 5 1 v38 (bs ++ headB s).length (bv (bs ++ headB s))
    rw [← e2, List.length_append]
    exact h
  have hx9 : Ext w w38 := grown_then (HX31.out.trans HXA.out) hm38.grown (.inr fun b hb => Nat.le_of_lt (HF31.out b hb))
  have hf9 : ∀ b, v38.ownBlock = some b → w.heap.size < b := fun b hb => by
    rcases hm38.at_ with e | hn
    · exact HF31.out b (e.symm.trans hb)
    · have h1 := hn b hb
      have h2 := HB31.out.lt
      simp at h1
      omega
  have hb9 : Blk w38 w.heap.size 27 SC := (HB31.out.keep HXA.out (by simp)).keep hm38.grown (fun e => by have := HF31.out _ e.symm; omega)
  have HO9 := Lib.hid ho9
  have HX9 := Lib.hid hx9
  have HF9 := Lib.hid hf9
  have HB9 := Lib.hid hb9
  clear ho9 hx9 hf9 hb9 ho38 hm38 HXA c6 c6a
  go_loopw [0, 5] (fun cur i wr => ∃ k : Nat, k ≤ nc ∧ i = .int .i64 k ∧ OwnB wr cur (bs ++ headB s ++ (s.cs.take k).flatMap condB) ∧ Ext w wr ∧ (∀ b, cur.ownBlock = some b → w.heap.size < b) ∧ Blk wr w.heap.size 27 SC) (fun _ i _ => nc - (intOf i).toNat)
  case atStart => exact ⟨0, by omega, rfl, by simpa using HO9.out, HX9.out, HF9.out, HB9.out⟩
  case round =>
    clear HO9 HX9 HF9 HB9
    obtain ⟨k, hk, rfl, hov, hx, hfn, hbk⟩ := hrel
    have c6 : wr.cell? ⟨w.heap.size, 6, none⟩ = some (.slice A nc c) := (hbk.cell 6).trans (HS6.out.trans (by rw [← HNC.out]))
    by_cases hlt : k < nc
    · obtain ⟨ad, rfl, hf, hcells⟩ := HCELL.out (by omega)
      have hlt2 : k < List.length (α := Cd) s.cs := by rw [← HNC.out]; exact hlt
      obtain ⟨hcc, hok⟩ := conds_at HALL.out (hcells.keep (hx.same HFW.out _ hf)) hlt2
      have htk : s.cs.take (k + 1) = s.cs.take k ++ [s.cs[k]] := List.take_succ_eq_append_getElem hlt2
      have hfl := conds_flat (s.cs.take k) (fun x hx => HOKS.out x (List.mem_of_mem_take hx))
      have hltk : List.length (α := Cd) (s.cs.take k) = k := by simp; omega
      rw [hltk] at hfl
      generalize s.cs[k] = ck at *
      have hcl := condCells_len hok
      have hbl : (bs ++ headB s ++ (s.cs.take k).flatMap condB).length ≤ 140737488354304 := by rw [List.length_append, List.length_append, hfl, headB_len]; omega
      have hlay := RCond ck u0 _ wr _ hok (OwnB.holds hov) (OwnB.lt hov) hbl
      obtain ⟨CC, hCC⟩ : ∃ CC, CC = condCells ck := ⟨_, rfl⟩
      rw [← hCC] at hcc hcl hlay
      have HTK := Lib.hid htk
      have HCL := Lib.hid hcl
      have HLAY := Lib.hid hlay
      have HX := Lib.hid hx
      have HFN := Lib.hid hfn
      have HBK := Lib.hid hbk
      have HCC := Lib.hid hcc
      clear htk hcl hlay hx hfn hbk hov hok hfl hltk hbl hcells hCC hcc
      go_wp2_with (first
        | ((with_reducible refine wpDst 51 rfl ?_); refine wpList_load_agg _ rfl 30 (.tmp 50) rfl _ rfl CC _ Try.underlying30 rfl (rcond_size HCL.out) (by exact HCC.out) ?_)
        | fail)
      refine HLAY.out.mono ?_
      rintro e w' ⟨v', rfl, ho', hf'⟩
      have ho9 : OwnB w' v' (bs ++ headB s ++ (s.cs.take (k + 1)).flatMap condB) := by rw [HTK.out, List.flatMap_append, ← List.append_assoc]; simpa using ho'
      have hx9 : Ext w w' := HX.out.trans (Fresh.ext hf')
      have hn9 : ∀ b, v'.ownBlock = some b → w.heap.size < b := fun b hb => by
        have h1 := Fresh.new hf' b hb
        have h2 := HBK.out.lt
        omega
      have hb9 : Blk w' w.heap.size 27 SC := HBK.out.keep (Fresh.ext hf') (by simp)
      have HO9 := Lib.hid ho9
      have HX9 := Lib.hid hx9
      have HN9 := Lib.hid hn9
      have HB9 := Lib.hid hb9
      clear ho9 hx9 hn9 hb9 ho' hf'
      go_wp2_with fail
      go_roundw
      case rel => exact ⟨k + 1, by omega, by go_num, HO9.out, HX9.out, HN9.out, HB9.out⟩
      case measure => simp [intOf]; omega
    · obtain rfl : k = nc := by omega
      have htk : s.cs.take k = s.cs := List.take_of_length_le (by rw [HNC.out]; exact Nat.le_refl _)
      rw [htk] at hov
      have HO9 := Lib.hid hov
      have HX9 := Lib.hid hx
      have HN9 := Lib.hid hfn
      clear hov hx hfn hbk htk
      go_wp2_with fail
      go_ret
      exact ⟨_, rfl, by rw [stateB, ← List.append_assoc]; exact HO9.out, ⟨HX9.out, .inr fun b hb => Nat.le_of_lt (HN9.out b hb)⟩⟩
end
section

/-- A word turned to the right. -/
def rotr (x n : Nat) : Nat := x / 2 ^ n + x % 2 ^ n * 2 ^ (32 - n)
def threeM (x a b c : Nat) (falls : Bool) : Nat := rotr x a ^^^ rotr x b ^^^ (if falls then x / 2 ^ c else rotr x c)
def pickM (e f g : Nat) : Nat := g ^^^ (e &&& (f ^^^ g))
def mostM (a b c : Nat) : Nat := (a &&& b) ||| (c &&& (a ||| b))

def firstK : List Nat := [1779033703, 3144134277, 1013904242, 2773480762, 1359893119, 2600822924, 528734635, 1541459225]
def stirK : List Nat := [
  1116352408, 1899447441, 3049323471, 3921009573, 961987163, 1508970993, 2453635748, 2870763221,
  3624381080, 310598401, 607225278, 1426881987, 1925078388, 2162078206, 2614888103, 3248222580,
  3835390401, 4022224774, 264347078, 604807628, 770255983, 1249150122, 1555081692, 1996064986,
  2554220882, 2821834349, 2952996808, 3210313671, 3336571891, 3584528711, 113926993, 338241895,
  666307205, 773529912, 1294757372, 1396182291, 1695183700, 1986661051, 2177026350, 2456956037,
  2730485921, 2820302411, 3259730800, 3345764771, 3516065817, 3600352804, 4094571909, 275423344,
  430227734, 506948616, 659060556, 883997877, 958139571, 1322822218, 1537002063, 1747873779,
  1955562222, 2024104815, 2227730452, 2361852424, 2428436474, 2756734187, 3204031479, 3329325298]

/-- One word more. -/
def wordMix (a b c d : Nat) : Nat := (a + threeM b 7 18 3 true + c + threeM d 17 19 10 true) % 4294967296
def wordNext (w : List Nat) (i : Nat) : Nat := wordMix (w.getD i 0) (w.getD (i + 1) 0) (w.getD (i + 9) 0) (w.getD (i + 14) 0)
/-- The first 16 + n words. -/
def sched (b : List Nat) : Nat → List Nat
  | 0 => b
  | n + 1 => sched b n ++ [wordNext (sched b n) n]
def roundM (s : List Nat) (k w : Nat) : List Nat :=
  match s with
  | [a, b, c, d, e, f, g, h] => [(h + threeM e 6 11 25 false + pickM e f g + k + w + threeM a 2 13 22 false + mostM a b c) % 4294967296, a, b, c, (d + (h + threeM e 6 11 25 false + pickM e f g + k + w)) % 4294967296, e, f, g]
  | _ => s
/-- The words behind the first n rounds. -/
def rounds (s : List Nat) (w : List Nat) : Nat → List Nat
  | 0 => s
  | n + 1 => roundM (rounds s w n) (stirK.getD n 0) (w.getD n 0)
def words (b : List UInt8) (n : Nat) : List Nat := (List.range n).map fun i => beNum ((b.drop (4 * i)).take 4)
def block (s : List Nat) (b : List UInt8) : List Nat := List.zipWith (fun x y => (x + y) % 4294967296) s (rounds s (sched (words b 16) 48) 64)
/-- The words behind the first n blocks. -/
def blocks (b : List UInt8) : Nat → List Nat
  | 0 => firstK
  | n + 1 => block (blocks b n) ((b.drop (64 * n)).take 64)
/-- What fills up the last block but for the length. -/
def fill (n : Nat) : List UInt8 := 128 :: List.replicate (63 - (n + 8) % 64) 0
def padded (b : List UInt8) : List UInt8 := b ++ fill b.length ++ be 8 (b.length * 8)
def sha (b : List UInt8) : List UInt8 := (blocks (padded b) ((padded b).length / 64)).flatMap (be 4)
end
section
open Go

theorem bits_u32 (a b : Nat) (ha : a < 4294967296) (hb : b < 4294967296) :
    bits .and .u32 (a : Int) (b : Int) = ((a &&& b : Nat) : Int) ∧ bits .or .u32 (a : Int) (b : Int) = ((a ||| b : Nat) : Int) ∧ bits .xor .u32 (a : Int) (b : Int) = ((a ^^^ b : Nat) : Int) := by
  have hx : a &&& b < 2 ^ 32 := Nat.and_lt_two_pow _ (by omega)
  have hy : a ||| b < 2 ^ 32 := Nat.or_lt_two_pow (by omega) (by omega)
  have hz : a ^^^ b < 2 ^ 32 := Nat.xor_lt_two_pow (by omega) (by omega)
  have hw : ∀ n : Nat, n < 2 ^ 32 → IntKind.u32.wrap (n : Int) = n := fun n h => by
    simp [IntKind.wrap, IntKind.bits, IntKind.signed]; omega
  have h1 : (BitVec.ofInt 32 (a : Int)).toNat = a := by
    rw [BitVec.ofInt_natCast, BitVec.toNat_ofNat]; exact Nat.mod_eq_of_lt (by omega)
  have h2 : (BitVec.ofInt 32 (b : Int)).toNat = b := by
    rw [BitVec.ofInt_natCast, BitVec.toNat_ofNat]; exact Nat.mod_eq_of_lt (by omega)
  refine ⟨?_, ?_, ?_⟩
  · show IntKind.u32.wrap ((BitVec.ofInt 32 (a : Int) &&& BitVec.ofInt 32 (b : Int)).toNat : Int) = _
    rw [BitVec.toNat_and, h1, h2, hw _ hx]
  · show IntKind.u32.wrap ((BitVec.ofInt 32 (a : Int) ||| BitVec.ofInt 32 (b : Int)).toNat : Int) = _
    rw [BitVec.toNat_or, h1, h2, hw _ hy]
  · show IntKind.u32.wrap ((BitVec.ofInt 32 (a : Int) ^^^ BitVec.ofInt 32 (b : Int)).toNat : Int) = _
    rw [BitVec.toNat_xor, h1, h2, hw _ hz]
theorem and_lt32 {a b : Nat} (h : b < 4294967296) : a &&& b < 4294967296 := Nat.and_lt_two_pow (n := 32) _ h
theorem or_lt32 {a b : Nat} (h : a < 4294967296) (k : b < 4294967296) : a ||| b < 4294967296 := Nat.or_lt_two_pow (n := 32) h k
theorem xor_lt32 {a b : Nat} (h : a < 4294967296) (k : b < 4294967296) : a ^^^ b < 4294967296 := Nat.xor_lt_two_pow (n := 32) h k
theorem pow_split {c : Nat} (h : c ≤ 32) : 2 ^ c * 2 ^ (32 - c) = 4294967296 := by rw [← Nat.pow_add, show c + (32 - c) = 32 by omega]
theorem div_lt32 {x c : Nat} (hx : x < 4294967296) (hc : c ≤ 32) : x / 2 ^ c < 2 ^ (32 - c) := by
  rw [Nat.div_lt_iff_lt_mul (Nat.two_pow_pos c), Nat.mul_comm, pow_split hc]; exact hx
theorem rotr_lt {x c : Nat} (hx : x < 4294967296) (hc : c ≤ 32) : rotr x c < 4294967296 := by
  have h1 := div_lt32 hx hc
  have h2 : x % 2 ^ c + 1 ≤ 2 ^ c := Nat.mod_lt _ (Nat.two_pow_pos c)
  have h3 := Nat.mul_le_mul_right (2 ^ (32 - c)) h2
  rw [pow_split hc, Nat.add_mul] at h3
  unfold rotr
  omega
theorem rotr_or (x c : Nat) (hx : x < 4294967296) (hc : c ≤ 32) : (x * 2 ^ (32 - c)) % 4294967296 ||| x / 2 ^ c = rotr x c := by
  have e : (x * 2 ^ (32 - c)) % 4294967296 = x % 2 ^ c * 2 ^ (32 - c) := by rw [← pow_split hc, Nat.mul_mod_mul_right]
  have h1 := div_lt32 hx hc
  have := Nat.shiftLeft_add_eq_or_of_lt h1 (x % 2 ^ c)
  rw [e, ← Nat.shiftLeft_eq, ← this, Nat.shiftLeft_eq, rotr, Nat.add_comm]
theorem rot_bits (x c : Nat) (hx : x < 4294967296) (hc : c ≤ 32) : bits .or .u32 ((x : Int) * 2 ^ (32 - c) % 4294967296) ((x : Int) / 2 ^ c) = ((rotr x c : Nat) : Int) := by
  have e1 : (x : Int) * 2 ^ (32 - c) % 4294967296 = ((x * 2 ^ (32 - c) % 4294967296 : Nat) : Int) := by rw [Int.natCast_emod, Int.natCast_mul, Int.natCast_pow]; rfl
  have e2 : (x : Int) / 2 ^ c = ((x / 2 ^ c : Nat) : Int) := by rw [Int.natCast_ediv, Int.natCast_pow]; rfl
  have h2 : x / 2 ^ c < 4294967296 := Nat.lt_of_le_of_lt (Nat.div_le_self _ _) hx
  rw [e1, e2, (bits_u32 _ _ (Nat.mod_lt _ (by decide)) h2).2.1, rotr_or x c hx hc]
theorem threeM_lt {x a b c : Nat} {f : Bool} (hx : x < 4294967296) (ha : a ≤ 32) (hb : b ≤ 32) (hc : c ≤ 32) : threeM x a b c f < 4294967296 := by
  unfold threeM
  refine xor_lt32 (xor_lt32 (rotr_lt hx ha) (rotr_lt hx hb)) ?_
  cases f
  · exact rotr_lt hx hc
  · exact Nat.lt_of_le_of_lt (Nat.div_le_self _ _) hx
theorem pickM_lt {e f g : Nat} (hf : f < 4294967296) (hg : g < 4294967296) : pickM e f g < 4294967296 := xor_lt32 hg (and_lt32 (xor_lt32 hf hg))
theorem mostM_lt {a b c : Nat} (ha : a < 4294967296) (hb : b < 4294967296) : mostM a b c < 4294967296 := or_lt32 (and_lt32 hb) (and_lt32 (or_lt32 ha hb))

/-! ### The words of a block -/
theorem sched_length (b : List Nat) : ∀ n, (sched b n).length = b.length + n
  | 0 => rfl
  | n + 1 => by rw [sched, List.length_append, sched_length b n]; rfl
theorem sched_take (b : List Nat) (n m : Nat) : (sched b (n + m)).take (b.length + n) = sched b n := by
  induction m with
  | zero => rw [Nat.add_zero, ← sched_length b n, List.take_length]
  | succ m ih =>
    rw [← Nat.add_assoc, sched, List.take_append_of_le_length (by rw [sched_length]; omega), ih]
theorem getD_take {l : List Nat} {n i : Nat} (h : i < n) : (l.take n).getD i 0 = l.getD i 0 := by
  simp [List.getD, h]
theorem wordNext_take (l : List Nat) (n i : Nat) (h : i + 14 < n) : wordNext (l.take n) i = wordNext l i := by
  have h0 : (l.take n).getD i 0 = l.getD i 0 := getD_take (by omega)
  have h1 : (l.take n).getD (i + 1) 0 = l.getD (i + 1) 0 := getD_take (by omega)
  have h2 : (l.take n).getD (i + 9) 0 = l.getD (i + 9) 0 := getD_take (by omega)
  have h3 : (l.take n).getD (i + 14) 0 = l.getD (i + 14) 0 := getD_take (by omega)
  unfold wordNext
  rw [h0, h1, h2, h3]
theorem getD_snoc (W : List Nat) (m x : Nat) (hl : W.length = m) : (W ++ [x]).getD m 0 = x := by
  subst hl; simp [List.getD]
theorem sched_succ (b : List Nat) (n : Nat) : sched b (n + 1) = sched b n ++ [wordNext (sched b n) n] := rfl
theorem sched_next (b : List Nat) (hb : b.length = 16) (m n : Nat) (h : n < m) : (sched b m).getD (16 + n) 0 = wordNext (sched b m) n := by
  obtain ⟨k, rfl⟩ : ∃ k, m = n + 1 + k := ⟨m - (n + 1), by omega⟩
  have h1 := sched_take b (n + 1) k
  have h0 := sched_take b n (1 + k)
  rw [← Nat.add_assoc] at h0
  rw [hb] at h0 h1
  generalize sched b (n + 1 + k) = W at h0 h1 ⊢
  rw [← getD_take (n := 16 + (n + 1)) (by omega), h1, sched_succ b n, ← h0, wordNext_take _ _ _ (by omega)]
  have hl : (List.take (16 + n) W).length = 16 + n := by rw [h0, sched_length, hb]
  exact getD_snoc _ _ _ hl
theorem sched_head (b : List Nat) (n i : Nat) (h : i < b.length) : (sched b n).getD i 0 = b.getD i 0 := by
  have h1 := sched_take b 0 n
  rw [Nat.zero_add] at h1
  rw [← getD_take (n := b.length + 0) (by omega), h1]
  rfl
theorem wordNext_lt (w : List Nat) (i : Nat) : wordNext w i < 4294967296 := Nat.mod_lt _ (by decide)
theorem sched_lt (b : List Nat) (hb : ∀ x ∈ b, x < 4294967296) : ∀ n, ∀ x ∈ sched b n, x < 4294967296
  | 0 => hb
  | n + 1 => by
    intro x hx
    rw [sched, List.mem_append] at hx
    rcases hx with hx | hx
    · exact sched_lt b hb n x hx
    · rw [List.mem_singleton] at hx; subst hx; exact wordNext_lt _ _
theorem getD_lt {l : List Nat} (h : ∀ x ∈ l, x < 4294967296) (i : Nat) : l.getD i 0 < 4294967296 := by
  rw [List.getD]
  cases e : l[i]? with
  | none => decide
  | some x => exact h x (List.mem_of_getElem? e)
theorem words_length (b : List UInt8) (n : Nat) : (words b n).length = n := by simp [words]
theorem words_lt (b : List UInt8) (n : Nat) : ∀ x ∈ words b n, x < 4294967296 := by
  intro x hx
  obtain ⟨i, _, rfl⟩ := List.mem_map.1 hx
  exact Nat.lt_of_lt_of_le (beNum_lt _) (show 256 ^ ((b.drop (4 * i)).take 4).length ≤ 256 ^ 4 from Nat.pow_le_pow_right (by decide) (List.length_take_le _ _))
/-- The sixteen words that are known ahead of round i: each in the place of the latest of its remainder. -/
def nearIdx (i j : Nat) : Nat := if i < 16 then j else i - 1 - (i - 1 - j) % 16
def near (w : List Nat) (i : Nat) : List Nat := (List.range 16).map fun j => w.getD (nearIdx i j) 0
theorem near_length (w : List Nat) (i : Nat) : (near w i).length = 16 := by simp [near]
theorem near_get (w : List Nat) (i j : Nat) (h : j < 16) : (near w i)[j]? = some (w.getD (nearIdx i j) 0) := by simp [near, h]
theorem near_small (w : List Nat) (i : Nat) (h : i < 16) : near w (i + 1) = near w i := by
  unfold near
  apply List.map_congr_left
  intro j hj
  have : j < 16 := by simpa using hj
  have e : nearIdx (i + 1) j = nearIdx i j := by
    unfold nearIdx
    rw [if_pos h]
    split <;> omega
  rw [e]
theorem near_step (w : List Nat) (i : Nat) (h : 16 ≤ i) : (near w i).set (i % 16) (w.getD i 0) = near w (i + 1) := by
  apply List.ext_getElem?
  intro j
  rw [List.getElem?_set]
  rcases Nat.lt_or_ge j 16 with hj | hj
  · rw [near_get _ _ _ hj, near_get _ _ _ hj, near_length]
    by_cases e : i % 16 = j
    · have e2 : nearIdx (i + 1) j = i := by unfold nearIdx; split <;> omega
      rw [if_pos e, if_pos (by omega), e2]
    · have e2 : nearIdx (i + 1) j = nearIdx i j := by
        unfold nearIdx
        rw [if_neg (show ¬ i < 16 by omega)]
        split <;> omega
      rw [if_neg e, e2]
  · rw [if_neg (by omega), List.getElem?_eq_none (by rw [near_length]; exact hj), List.getElem?_eq_none (by rw [near_length]; exact hj)]
/-- What round i reads: the words 16, 15, 7, 2 ahead of it. -/
theorem near_reads (w : List Nat) (i : Nat) (h : 16 ≤ i) : (near w i)[i % 16]? = some (w.getD (i - 16) 0) ∧ (near w i)[(i + 1) % 16]? = some (w.getD (i - 16 + 1) 0) ∧
    (near w i)[(i + 9) % 16]? = some (w.getD (i - 16 + 9) 0) ∧ (near w i)[(i + 14) % 16]? = some (w.getD (i - 16 + 14) 0) := by
  refine ⟨?_, ?_, ?_, ?_⟩ <;>
  · rw [near_get _ _ _ (Nat.mod_lt _ (by decide))]
    congr 2
    unfold nearIdx
    split <;> omega
theorem near_at (w : List Nat) (i : Nat) (h : i < 16) : (near w i)[i % 16]? = some (w.getD i 0) := by
  rw [near_get _ _ _ (Nat.mod_lt _ (by decide))]
  congr 2
  unfold nearIdx
  split <;> omega
theorem near_now (w : List Nat) (i : Nat) (h : 16 ≤ i) : (near w (i + 1))[i % 16]? = some (w.getD i 0) := by
  rw [near_get _ _ _ (Nat.mod_lt _ (by decide))]
  congr 2
  unfold nearIdx
  split <;> omega
theorem near_zero_words (b : List UInt8) (n : Nat) : near (sched (words b 16) n) 0 = words b 16 := by
  apply List.ext_getElem?
  intro j
  rcases Nat.lt_or_ge j 16 with hj | hj
  · have hl := words_length b 16
    rw [near_get _ _ _ hj]
    have e : nearIdx 0 j = j := by unfold nearIdx; rw [if_pos (by decide)]
    rw [e, sched_head _ _ _ (by omega), List.getElem?_eq_getElem (by omega)]
    simp [List.getD, List.getElem?_eq_getElem (show j < (words b 16).length by omega)]
  · rw [List.getElem?_eq_none (by rw [near_length]; exact hj), List.getElem?_eq_none (by rw [words_length]; exact hj)]
theorem roundM_eq (a b c d e f g h k w : Nat) : roundM [a, b, c, d, e, f, g, h] k w = [(h + threeM e 6 11 25 false + pickM e f g + k + w + threeM a 2 13 22 false + mostM a b c) % 4294967296, a, b, c, (d + (h + threeM e 6 11 25 false + pickM e f g + k + w)) % 4294967296, e, f, g] := rfl
theorem list8 {s : List Nat} (h : s.length = 8) : ∃ a b c d e f g i, s = [a, b, c, d, e, f, g, i] := by
  match s, h with
  | [a, b, c, d, e, f, g, i], _ => exact ⟨a, b, c, d, e, f, g, i, rfl⟩
theorem roundM_ok {s : List Nat} (h : s.length = 8 ∧ ∀ x ∈ s, x < 4294967296) (k w : Nat) : (roundM s k w).length = 8 ∧ ∀ x ∈ roundM s k w, x < 4294967296 := by
  obtain ⟨a, b, c, d, e, f, g, i, rfl⟩ := list8 h.1
  have h2 := h.2
  simp only [List.mem_cons, List.not_mem_nil, or_false] at h2
  rw [roundM_eq]
  refine ⟨rfl, ?_⟩
  intro x hx
  simp only [List.mem_cons, List.not_mem_nil, or_false] at hx
  rcases hx with rfl | rfl | rfl | rfl | rfl | rfl | rfl | rfl
  · exact Nat.mod_lt _ (by decide)
  · exact h2 _ (by simp)
  · exact h2 _ (by simp)
  · exact h2 _ (by simp)
  · exact Nat.mod_lt _ (by decide)
  · exact h2 _ (by simp)
  · exact h2 _ (by simp)
  · exact h2 _ (by simp)
theorem rounds_ok {s : List Nat} (h : s.length = 8 ∧ ∀ x ∈ s, x < 4294967296) (w : List Nat) : ∀ n, (rounds s w n).length = 8 ∧ ∀ x ∈ rounds s w n, x < 4294967296
  | 0 => h
  | n + 1 => roundM_ok (rounds_ok h w n) _ _
theorem rounds_succ (s w : List Nat) (n : Nat) : rounds s w (n + 1) = roundM (rounds s w n) (stirK.getD n 0) (w.getD n 0) := rfl
theorem stirK_lt (i : Nat) : stirK.getD i 0 < 4294967296 := getD_lt (by decide) i
/-- The words of a block, without their number in sight. -/
theorem block_W (s : List Nat) (b : List UInt8) : ∃ W : List Nat, near W 0 = words b 16 ∧ (∀ x ∈ W, x < 4294967296) ∧ (∀ n, n < 48 → W.getD (16 + n) 0 = wordNext W n) ∧ (∀ n, n = 64 → List.zipWith (fun x y => (x + y) % 4294967296) s (rounds s W n) = block s b) :=
  ⟨sched (words b 16) 48, near_zero_words b 48, sched_lt _ (words_lt b 16) 48, fun n hn => sched_next _ (words_length b 16) 48 n hn, fun n hn => by subst hn; rfl⟩
end
section
open Go.RowKit
section
variable (w : World)

set_option maxHeartbeats 400000 in
theorem Rot (x c : Nat) (hx : x < 4294967296) (hc : 0 < c) (hc2 : c < 32) : Calls Try.prog 72 #[.int .u32 x, .int .i64 (-(c : Int))] w fun e w' => e = .returned (.int .u32 (rotr x c)) ∧ w = w' := by
  have hs : ∀ c : Nat, c < 32 → 0 < c → bits .and .u64 (IntKind.u64.wrap (-(c : Int))) 31 = ((32 - c : Nat) : Int) := by decide +kernel
  have hs := hs c hc2 hc
  have hr := rot_bits x c hx (by omega)
  have e32 : 32 - (32 - c) = c := by omega
  have HR := Lib.hid hr
  have HE := Lib.hid e32
  have hs1 : 0 < 32 - c := by omega
  have hs2 : 32 - c < 32 := by omega
  clear hr e32
  go_enter Try.func72, Try.ntmps72
  go_wp2
  go_ret
  refine ⟨?_, rfl⟩
  rw [← HR.out]
  simp [HE.out]

set_option maxHeartbeats 400000 in
theorem Three (x a b c : Nat) (f : Bool) (hx : x < 4294967296) (ha : 0 < a ∧ a < 32) (hb : 0 < b ∧ b < 32) (hc : 0 < c ∧ c < 32) :
    Calls Try.prog 71 #[.int .u32 x, .int .i64 a, .int .i64 b, .int .i64 c, .bool f] w fun e w' => e = .returned (.int .u32 (threeM x a b c f)) ∧ w = w' := by
  have h1 := rotr_lt hx (show a ≤ 32 by omega)
  have h2 := rotr_lt hx (show b ≤ 32 by omega)
  have h3 := rotr_lt hx (show c ≤ 32 by omega)
  have h4 : x / 2 ^ c < 4294967296 := Nat.lt_of_le_of_lt (Nat.div_le_self _ _) hx
  have x1 := (bits_u32 _ _ h1 h2).2.2
  have x2 := (bits_u32 _ _ (xor_lt32 h1 h2) h3).2.2
  have x3 := (bits_u32 _ _ (xor_lt32 h1 h2) h4).2.2
  rw [← x1] at x2 x3
  rw [show ((x / 2 ^ c : Nat) : Int) = (x : Int) / 2 ^ c by rw [Int.natCast_ediv, Int.natCast_pow]; rfl] at x3
  have X2 := Lib.hid x2
  have X3 := Lib.hid x3
  clear x1 x2 x3
  cases f
  all_goals
    go_enter Try.func71, Try.ntmps71
    go_wp2_with fail
    refine (Rot _ x c hx hc.1 hc.2).mono ?_
    rintro e w1 ⟨rfl, rfl⟩
    go_wp2_with fail
    refine (Rot _ x a hx ha.1 ha.2).mono ?_
    rintro e w1 ⟨rfl, rfl⟩
    go_wp2_with fail
    refine (Rot _ x b hx hb.1 hb.2).mono ?_
    rintro e w1 ⟨rfl, rfl⟩
    go_wp2
    go_ret
  · exact ⟨by show Ending.returned (.int .u32 (bits .xor .u32 (bits .xor .u32 _ _) _)) = _; rw [X2.out]; rfl, rfl⟩
  · exact ⟨by show Ending.returned (.int .u32 (bits .xor .u32 (bits .xor .u32 _ _) _)) = _; rw [X3.out]; rfl, rfl⟩

theorem be4_cells (n : Nat) (hn : n < 4294967296) : bv (be 4 n) = [.int .u8 ((n : Int) / 16777216), .int .u8 ((n : Int) / 65536 % 256), .int .u8 ((n : Int) / 256 % 256), .int .u8 ((n : Int) % 256)] := by
  have e : ∀ m : Nat, ((UInt8.ofNat m).toNat : Int) = (m : Int) % 256 := fun m => by rw [UInt8.toNat_ofNat']; omega
  simp only [be, bv, List.map_cons, List.map_nil, e]
  have h3 : ((n / 256 ^ 3 : Nat) : Int) % 256 = (n : Int) / 16777216 := by omega
  have h2 : ((n / 256 ^ 2 : Nat) : Int) % 256 = (n : Int) / 65536 % 256 := by omega
  have h1 : ((n / 256 ^ 1 : Nat) : Int) % 256 = (n : Int) / 256 % 256 := by omega
  have h0 : ((n / 256 ^ 0 : Nat) : Int) % 256 = (n : Int) % 256 := by omega
  rw [h3, h2, h1, h0]
set_option maxHeartbeats 400000 in
theorem Four (n : Nat) (hn : n < 4294967296) : Calls Try.prog 51 #[.int .u32 n] w fun e w' => e = .returned (.slice (some ⟨w.heap.size, 0, none⟩) 4 4) ∧ w' = w.alloc (.cells (bv (be 4 n)).toArray 5) := by
  go_enter Try.func51, Try.ntmps51
  go_wp2
  go_ret
  exact ⟨rfl, by rw [be4_cells n hn]⟩

theorem be_or32 (n : Nat) (b : UInt8) (hn : n < 16777216) : bits .or .u32 ((n : Int) * 256) (b.toNat : Int) = ((n * 256 + b.toNat : Nat) : Int) := by
  have h := b.toNat_lt
  have := Nat.shiftLeft_add_eq_or_of_lt (i := 8) (b := b.toNat) h n
  rw [Nat.shiftLeft_eq] at this
  rw [show (n : Int) * 256 = ((n * 256 : Nat) : Int) from (Int.natCast_mul n 256).symm, (bits_u32 _ _ (by omega) (by omega)).2.1, ← this]
set_option maxHeartbeats 400000 in
theorem Word (ad : Addr) (l c : Nat) (bs : List UInt8) (hb : bs.length = 4) (hl : 4 ≤ l) (hlc : l ≤ c) (hc : c ≤ maxLen) (hcells : Cells w ad (bv bs)) :
    Calls Try.prog 69 #[.slice (some ad) l c] w fun e w' => e = .returned (.int .u32 (beNum bs)) ∧ w = w' := by
  unfold maxLen at hc
  go_enter Try.func69, Try.ntmps69
  go_wp2
  go_loopw [3, 9] (fun m i wr => wr = w ∧ ∃ k : Nat, k ≤ 4 ∧ i = .int .i64 k ∧ m = .int .u32 ((beNum (bs.take k) : Nat) : Int)) (fun _ i _ => 4 - (intOf i).toNat)
  case atStart => exact ⟨rfl, 0, by omega, rfl, rfl⟩
  case round =>
    obtain ⟨rfl, k, hk, rfl, rfl⟩ := hrel
    by_cases hlt : k < 4
    · have hcx := hcells k (.int .u8 (bs[k].toNat : Int)) (by rw [bv, List.getElem?_map, List.getElem?_eq_getElem (by omega)]; rfl)
      have hst := beNum_step bs k (by omega)
      have hbd := beNum_lt (bs.take k)
      have hlow : beNum (bs.take k) < 256 ^ 3 := Nat.lt_of_lt_of_le hbd (Nat.pow_le_pow_right (by omega) (by simp; omega))
      have hor := be_or32 (beNum (bs.take k)) bs[k] (by omega)
      rw [← hst] at hor
      have hb1 := bs[k].toNat_lt
      have HST := Lib.hid hst
      have HOR := Lib.hid hor
      clear hbd hst hor
      go_wp2
      go_roundw
      case rel => exact ⟨trivial, k + 1, by omega, by go_num, by rw [HOR.out]⟩
      case measure => simp [intOf]; omega
    · obtain rfl : k = 4 := by omega
      have e : bs.take 4 = bs := by rw [← hb, List.take_length]
      rw [e]
      clear e
      go_wp2
      go_ret
      exact ⟨rfl, rfl⟩

theorem stir_info : (Try.prog.info? 151).map (·.size) = some 64 := by kernel_rfl
/-- Words as cells. -/
def nv (ns : List Nat) : List Value := ns.map fun (n : Nat) => Value.int .u32 (n : Int)
@[simp] theorem nv_length (ns : List Nat) : (nv ns).length = ns.length := by simp [nv]
theorem stir_zero : (Try.prog.info? 151).bind (fun i => i.zero.map (·.cells)) = some (nv (List.replicate 64 0)).toArray := by kernel_rfl
theorem nv_one (ns : List Nat) : ∀ u ∈ nv ns, u.oneCell' = true := by
  intro u hu
  obtain ⟨n, _, rfl⟩ := List.mem_map.1 hu
  rfl
set_option maxRecDepth 10000 in
theorem Stirs : Calls Try.prog 70 #[] w fun e w' => e = .returned (.agg (nv stirK).toArray) ∧ Ext w w' := by
  have hz := stir_zero
  have hl : (nv stirK).length = 64 := by rw [nv_length]; rfl
  have hi : (Try.prog.info? 151).map (·.size) = some (nv stirK).length := by rw [hl]; kernel_rfl
  have hlz : (nv stirK).length = (nv (List.replicate 64 0)).length := by rw [hl, nv_length, List.length_replicate]
  have hone := nv_one stirK
  generalize nv (List.replicate 64 0) = Z at hz hlz
  go_enter Try.func70, Try.ntmps70
  go_wp2_with (first
    | (refine wpList_alloc _ rfl 151 rfl _ hz ?_)
    | (refine wpList_build (.inl rfl) 151 _ rfl (.agg (nv stirK).toArray) (by kernel_rfl) ?_)
    | (refine wpList_store_new _ rfl 151 (.tmp 0) (.tmp 1) rfl rfl Z (nv stirK) _ rfl hi hlz hone ?_)
    | fail)
  have hc : Cells (w.alloc (.cells (nv stirK).toArray 151)) ⟨w.heap.size, 0, none⟩ (nv stirK) := by have := Cells.of_block (heap_alloc_new w (.cells (nv stirK).toArray 151)); simpa using this
  (try simp only [Exit.inBlock, Exit.then])
  refine bodyPost_ret (results_agg rfl _ _ _ _ _ rfl Try.underlying151 rfl hi hc) rfl ?_
  exact ⟨rfl, (Ext.refl w).alloc _⟩
set_option maxHeartbeats 1000000 in
theorem New : Calls Try.prog 49 #[] w fun e w' => e = .returned (.pointer (some ⟨w.heap.size, 0, none⟩)) ∧ w' = w.alloc (.cells (nv firstK ++ bv (List.replicate 64 0) ++ [Value.int .u64 0]).toArray 144) := by
  go_enter Try.func49, Try.ntmps49
  go_wp2_with (first
    | (refine wpList_build (.inl rfl) 141 _ rfl (.agg (nv firstK).toArray) (by kernel_rfl) ?_)
    | (refine wpList_build (.inl rfl) 144 _ rfl (.agg (nv firstK ++ bv (List.replicate 64 0) ++ [Value.int .u64 0]).toArray) (by kernel_rfl) ?_)
    | fail)
  go_ret
  exact ⟨rfl, rfl⟩
end
end
end Go.Proofs.Ytmicjaiiinaipaa
