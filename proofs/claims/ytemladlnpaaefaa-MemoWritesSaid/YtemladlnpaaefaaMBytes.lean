/- The walk of memo's Bytes: of what isn't right, and of an Ask. Conditions: the cells and what Right answers. -/
import Derived.Test.YtemladlnpaaefaaRightA
import Derived.Test.YtemladlnpaaefaaOut
import Derived.Test.YtemladlnpaaefaaMono3
set_option linter.unusedVariables false
set_option linter.unusedSimpArgs false
set_option linter.unnecessarySimpa false
namespace Go.Proofs.Ytemladlnpaaefaa
open Go.RowKit

section
variable {P : Program} (w : World)
theorem wp_oneV {o : Oper} {a : Act} {K : Act → World → Prop} {Q : Exit → Act → World → Prop} (t : TypeId) (x : Operand) (ho : o.op = .buildSlice t 1 #[(0, x)])
    (e : TypeId) (u : Value) (cs : List Value) (ht : P.underlying t = some (.slice e)) (hx : a.eval x = u) (hv : u.cells = cs.toArray) (hi : (P.info? e).map (·.size) = some cs.length) (hz : ((P.info? e).bind (·.zero)).isSome = true) (hl : cs.length ≤ 16777216) (hn : 0 < cs.length)
    (h : K (a.put o.dst (.slice (some ⟨w.heap.size, 0, none⟩) 1 1)) (w.alloc (.cells cs.toArray e))) : o.wp P a w K Q := by
    obtain ⟨i, hi', hs⟩ := Option.map_eq_some_iff.1 hi
    rw [hi', Option.bind_some] at hz
    obtain ⟨z, hz⟩ := Option.isSome_iff_exists.1 hz
    have hfill : ∀ (c : Array Value), c.size = cs.length → Instr.fill (fun i => some (i * cs.length, cs.length)) c [(0, u)] = some cs.toArray := by
      intro c hc
      rw [fill_list _ c 0 u cs 0 [] hv (by simp) (by omega)]
      simp only [Instr.fill, List.take_zero, List.nil_append, Nat.zero_add]
      rw [List.drop_eq_nil_of_le (by rw [Array.length_toList]; omega), List.append_nil]
    unfold Oper.wp execOp
    have hrun : (Instr.buildSlice t 1 #[(0, u)]).run P w = .ok (.slice (some ⟨w.heap.size, 0, none⟩) 1 1) (w.alloc (.cells cs.toArray e)) := by
      unfold Instr.buildSlice
      simp only [Sem.run_bind, run_underlying ht, Result.andThen_ok, sizeOf, typeInfo, run_program, hi', Sem.run_pure, hs, Nat.one_mul]
      rw [if_neg (by omega)]
      have h0 : ¬ cs.length = 0 := by omega
      simp only [h0, if_false, Sem.run_bind, Sem.run_pure, Result.andThen_ok, zeroValue, typeInfo, run_program, hi', hz]
      have := hfill ((Array.range cs.length).map fun x => z.cells[x % z.cells.size]!) (by simp)
      simp only [this]
      simp [newRow]
    simp only [ho, List.map_toArray, List.map_cons, List.map_nil, hx, Sem.run_bind, hrun, Result.andThen_ok, Sem.run_pure]
    exact h
theorem wp_bs0 {o : Oper} {a : Act} {K : Act → World → Prop} {Q : Exit → Act → World → Prop} (t : TypeId) (ho : o.op = .buildSlice t 0 #[])
    (e : TypeId) (ht : P.underlying t = some (.slice e)) (hi : (P.info? e).map (·.size) = some 1) (hz : ((P.info? e).bind (·.zero)).isSome = true)
    (h : K (a.put o.dst (.slice (some ⟨w.heap.size, 0, none⟩) 0 0)) (w.alloc (.cells #[] e))) : o.wp P a w K Q := by
    obtain ⟨i, hi', hs⟩ := Option.map_eq_some_iff.1 hi
    rw [hi', Option.bind_some] at hz
    obtain ⟨z, hz⟩ := Option.isSome_iff_exists.1 hz
    unfold Oper.wp execOp
    have hrun : (Instr.buildSlice t 0 #[]).run P w = .ok (.slice (some ⟨w.heap.size, 0, none⟩) 0 0) (w.alloc (.cells #[] e)) := by
      unfold Instr.buildSlice
      simp [Sem.run_bind, run_underlying ht, Result.andThen_ok, sizeOf, typeInfo, run_program, hi', Sem.run_pure, hs, zeroValue, hz, newRow, Instr.fill]
      have e : ∀ f : Nat → Value, Array.map f (Array.range 0) = #[] := fun f => Array.eq_empty_of_size_eq_zero (by simp)
      rw [e]
    simp only [ho, List.map_toArray, List.map_nil, Sem.run_bind, hrun, Result.andThen_ok, Sem.run_pure]
    exact h
end
/-- What is carried while the head of the bytes is laid. -/
structure BJ (w0 : World) (k : UInt8) (ch : Nat) (o8 o12 o13 o16 : Option Value) (W : World) : Prop where
  ext : Ext w0 W
  p8 : ∀ v, o8 = some v → OwnB W v [] ∧ ∀ b, v.ownBlock = some b → w0.heap.size ≤ b
  p12 : ∀ v, o12 = some v → (Ty.sl .u8).holds W (fun b => v.ownBlock = some b) [v] [k] ∧ ∀ b, v.ownBlock = some b → b < W.heap.size
  p13 : ∀ v, o13 = some v → OwnB W v [k] ∧ ∀ b, v.ownBlock = some b → w0.heap.size ≤ b
  p16 : ∀ v, o16 = some v → (Ty.sl (.nat .u32)).holds W (fun b => v.ownBlock = some b) [v] [ch] ∧ ∀ b, v.ownBlock = some b → b < W.heap.size
  ap8 : ∀ v u b, o8 = some v → o16 = some u → v.ownBlock = some b → u.ownBlock ≠ some b
  ap13 : ∀ v u b, o13 = some v → o16 = some u → v.ownBlock = some b → u.ownBlock ≠ some b
section
variable {w0 W W' : World} {k : UInt8} {ch : Nat} {o8 o12 o13 o16 : Option Value}
theorem OwnB.lt' {W : World} {v : Value} {l : List UInt8} (h : OwnB W v l) : ∀ g, v.ownBlock = some g → g < W.heap.size := fun g hg => (World.ownsRow.lt h g hg).2
theorem BJ.start (w0 : World) (k : UInt8) (ch : Nat) : BJ w0 k ch none none none none w0 :=
  ⟨Ext.refl _, fun _ h => (by cases h), fun _ h => (by cases h), fun _ h => (by cases h), fun _ h => (by cases h), fun _ _ _ h => (by cases h), fun _ _ _ h => (by cases h)⟩
theorem BJ.step (h : BJ w0 k ch o8 o12 o13 o16 W) (hx : Ext W W') : BJ w0 k ch o8 o12 o13 o16 W' ∧ KeepB (fun b => b < w0.heap.size) W W' :=
  ⟨⟨h.ext.trans hx, fun v e => ⟨Own.ext (h.p8 v e).1 hx, (h.p8 v e).2⟩, fun v e => ⟨hx.holds (h.p12 v e).2 (h.p12 v e).1, fun b hb => Nat.lt_of_lt_of_le ((h.p12 v e).2 b hb) hx.size⟩,
    fun v e => ⟨Own.ext (h.p13 v e).1 hx, (h.p13 v e).2⟩, fun v e => ⟨hx.holds (h.p16 v e).2 (h.p16 v e).1, fun b hb => Nat.lt_of_lt_of_le ((h.p16 v e).2 b hb) hx.size⟩, h.ap8, h.ap13⟩,
    fun b hb => hx.block b (Nat.lt_of_lt_of_le hb h.ext.size) (by simp)⟩
theorem BJ.b8 (h : BJ w0 k ch none o12 none o16 W) : BJ w0 k ch (some (.slice (some ⟨W.heap.size, 0, none⟩) 0 0)) o12 none o16 (W.alloc (.cells #[] 5)) ∧ KeepB (fun b => b < w0.heap.size) W (W.alloc (.cells #[] 5)) := by
  obtain ⟨h1, h2⟩ := h.step ((Ext.refl W).alloc (.cells #[] 5))
  refine ⟨⟨h1.ext, ?_, h1.p12, h1.p13, h1.p16, ?_, h1.ap13⟩, h2⟩
  · rintro v ⟨⟩
    exact ⟨own_empty rfl, by rintro b ⟨⟩; exact h.ext.size⟩
  · rintro v u b ⟨⟩ hu ⟨⟩ e
    exact absurd ((h.p16 u hu).2 _ e) (Nat.lt_irrefl _)
theorem BJ.b12 (h : BJ w0 k ch o8 none o13 o16 W) : BJ w0 k ch o8 (some (.slice (some ⟨W.heap.size, 0, none⟩) 1 1)) o13 o16 (W.alloc (.cells [Value.int .u8 (k.toNat : Int)].toArray 5)) ∧ KeepB (fun b => b < w0.heap.size) W (W.alloc (.cells [Value.int .u8 (k.toNat : Int)].toArray 5)) := by
  obtain ⟨h1, h2⟩ := h.step ((Ext.refl W).alloc (.cells [Value.int .u8 (k.toNat : Int)].toArray 5))
  refine ⟨⟨h1.ext, h1.p8, ?_, h1.p13, h1.p16, h1.ap8, h1.ap13⟩, h2⟩
  rintro v ⟨⟩
  exact ⟨sl_made rfl rfl rfl (by decide) ⟨[.int .u8 (k.toNat : Int)], [], rfl, rfl, rfl⟩, by rintro b ⟨⟩; simp⟩
theorem BJ.b16 (h : BJ w0 k ch o8 o12 o13 none W) (hch : (Lit.int .u32 (ch : Int)).wf = true) : BJ w0 k ch o8 o12 o13 (some (.slice (some ⟨W.heap.size, 0, none⟩) 1 1)) (W.alloc (.cells [Value.int .u32 (ch : Int)].toArray 22)) ∧ KeepB (fun b => b < w0.heap.size) W (W.alloc (.cells [Value.int .u32 (ch : Int)].toArray 22)) := by
  obtain ⟨h1, h2⟩ := h.step ((Ext.refl W).alloc (.cells [Value.int .u32 (ch : Int)].toArray 22))
  refine ⟨⟨h1.ext, h1.p8, h1.p12, h1.p13, ?_, ?_, ?_⟩, h2⟩
  · rintro v ⟨⟩
    exact ⟨sl_made rfl rfl rfl (by decide) ⟨[.int .u32 (ch : Int)], [], rfl, ⟨rfl, hch⟩, rfl⟩, by rintro b ⟨⟩; simp⟩
  · rintro v u b hv ⟨⟩ hb e
    have h3 := OwnB.lt' (h.p8 v hv).1 b hb
    have : W.heap.size = b := by simpa [Value.ownBlock] using e
    omega
  · rintro v u b hv ⟨⟩ hb e
    have h3 := OwnB.lt' (h.p13 v hv).1 b hb
    have : W.heap.size = b := by simpa [Value.ownBlock] using e
    omega
theorem BJ.one {v8 v12 : Value} (h : BJ w0 k ch (some v8) (some v12) none o16 W) : Calls Try.prog 15 #[v8, v12] W fun e w' => ∃ v13, e = .returned v13 ∧ BJ w0 k ch none none (some v13) o16 w' ∧ KeepB (fun b => b < w0.heap.size) W w' := by
  refine (Out_One v8 v12 [] [k] W _ (h.p8 _ rfl).1 (h.p12 _ rfl).1 (show 0 + 1 ≤ 140737488355328 by decide)).mono ?_
  rintro e w' ⟨v13, rfl, ho, hm⟩
  have hfr : ∀ g, v8.ownBlock = some g → w0.heap.size ≤ g := (h.p8 _ rfl).2
  have hx : Ext w0 w' := grown_then h.ext hm.grown (.inr hfr)
  have hnew : ∀ b, v13.ownBlock = some b → w0.heap.size ≤ b := fun b hb => by
    rcases hm.at_ with e | hn
    · exact hfr b (e.symm.trans hb)
    · exact Nat.le_trans h.ext.size (hn b hb)
  have h16 : ∀ u, o16 = some u → Far (fun b => u.ownBlock = some b) W v8 := fun u hu b hb => ⟨(h.p16 u hu).2 b hb, fun e => h.ap8 v8 u b rfl hu e hb⟩
  refine ⟨v13, rfl, ⟨hx, fun _ h => (by cases h), fun _ h => (by cases h), ?_, fun u hu => ⟨hm.holds (h16 u hu) (h.p16 u hu).1, fun b hb => Nat.lt_of_lt_of_le ((h.p16 u hu).2 b hb) hm.grown.size⟩, fun _ _ _ h => (by cases h), ?_⟩, fun b hb => hm.grown.block b (Nat.lt_of_lt_of_le hb h.ext.size) (fun e => by have := hfr b e.symm; omega)⟩
  · rintro v ⟨⟩
    exact ⟨ho, hnew⟩
  · rintro v u b ⟨⟩ hu hb e
    rcases hm.at_ with e' | hn
    · exact h.ap8 v8 u b rfl hu (e'.symm.trans hb) e
    · have h1 := hn b hb
      have h2 := (h.p16 u hu).2 b e
      omega
theorem BJ.four {v13 v16 : Value} (h : BJ w0 k ch none none (some v13) (some v16) W) : Calls Try.prog 16 #[v13, v16] W fun e w' => ∃ v17, e = .returned v17 ∧ OwnB w' v17 ([k] ++ be 4 ch) ∧ Ext w0 w' ∧ KeepB (fun b => b < w0.heap.size) W w' := by
  have hfr : ∀ g, v13.ownBlock = some g → w0.heap.size ≤ g := (h.p13 _ rfl).2
  refine (Out_Four v13 v16 [k] [ch] W _ (h.p13 _ rfl).1 (h.p16 _ rfl).1 (fun b hb => ⟨(h.p16 _ rfl).2 b hb, fun e => h.ap13 v13 v16 b rfl rfl e hb⟩) (show 1 + 4 * 1 ≤ 140737488355328 by decide)).mono ?_
  rintro e w' ⟨v17, rfl, ho, hm⟩
  refine ⟨v17, rfl, by simpa using ho, grown_then h.ext hm.grown (.inr hfr), fun b hb => hm.grown.block b (Nat.lt_of_lt_of_le hb h.ext.size) (fun e => by have := hfr b e.symm; omega)⟩
end
theorem sharedB {Q : Prop} {A : Value → Value → Value → Value → World → Prop} (J : Value → Value → Value → Value → World → Prop) (h1 : (∀ a b c d w, J a b c d w → A a b c d w) → Q) (h2 : ∀ a b c d w, J a b c d w → A a b c d w) : Q := h1 h2
theorem u8_size1 : (Try.prog.info? 5).map (·.size) = some 1 := by kernel_rfl
theorem u8_zero1 : ((Try.prog.info? 5).bind (·.zero)).isSome = true := by kernel_rfl
theorem u32_size1 : (Try.prog.info? 22).map (·.size) = some 1 := by kernel_rfl
theorem u32_zero1 : ((Try.prog.info? 22).bind (·.zero)).isSome = true := by kernel_rfl
section
variable {w0 W : World} {k : UInt8} {ch : Nat} {o8 o12 o13 o16 : Option Value} {o : Oper} {a : Act} {K : Act → World → Prop} {Q : Exit → Act → World → Prop}
theorem wp_b8 (h : BJ w0 k ch none o12 none o16 W) (t : TypeId) (ho : o.op = .buildSlice t 0 #[]) (ht : Try.prog.underlying t = some (.slice 5))
    (hk : ∀ v W', BJ w0 k ch (some v) o12 none o16 W' → KeepB (fun b => b < w0.heap.size) W W' → K (a.put o.dst v) W') : o.wp Try.prog a W K Q :=
  wp_bs0 W t ho 5 ht u8_size1 u8_zero1 (hk _ _ h.b8.1 h.b8.2)
theorem wp_b12 (h : BJ w0 k ch o8 none o13 o16 W) (t : TypeId) (x : Operand) (ho : o.op = .buildSlice t 1 #[(0, x)]) (ht : Try.prog.underlying t = some (.slice 5)) (hx : a.eval x = .int .u8 (k.toNat : Int))
    (hk : ∀ v W', BJ w0 k ch o8 (some v) o13 o16 W' → KeepB (fun b => b < w0.heap.size) W W' → K (a.put o.dst v) W') : o.wp Try.prog a W K Q :=
  wp_oneV W t x ho 5 _ [Value.int .u8 (k.toNat : Int)] ht hx rfl u8_size1 u8_zero1 (show 1 ≤ 16777216 by decide) (show 0 < 1 by decide) (hk _ _ h.b12.1 h.b12.2)
theorem wp_b16 (h : BJ w0 k ch o8 o12 o13 none W) (hch : (Lit.int .u32 (ch : Int)).wf = true) (t : TypeId) (x : Operand) (ho : o.op = .buildSlice t 1 #[(0, x)]) (ht : Try.prog.underlying t = some (.slice 22)) (hx : a.eval x = .int .u32 (ch : Int))
    (hk : ∀ v W', BJ w0 k ch o8 o12 o13 (some v) W' → KeepB (fun b => b < w0.heap.size) W W' → K (a.put o.dst v) W') : o.wp Try.prog a W K Q :=
  wp_oneV W t x ho 22 _ [Value.int .u32 (ch : Int)] ht hx rfl u32_size1 u32_zero1 (show 1 ≤ 16777216 by decide) (show 0 < 1 by decide) (hk _ _ (h.b16 hch).1 (h.b16 hch).2)
end
set_option maxRecDepth 100000 in
set_option maxHeartbeats 4000000 in
theorem BytesBad (M : List Value) (w : World) (hl : M.length = 1069) (hr : ∀ W, Ext w W → Calls Try.prog 9 #[.agg M.toArray] W fun e w' => e = .returned (.bool false) ∧ Ext W w') :
    Calls Try.prog 7 #[.agg M.toArray] w fun e w' => e = .returned (.tuple #[.slice none 0 0, .int .i64 1]) ∧ Ext w w' := by
  have hb0 : Blk (w.alloc (.cells M.toArray 60)) w.heap.size 60 M := Blk.new _ _ _
  have hx0 : Ext w (w.alloc (.cells M.toArray 60)) := (Ext.refl w).alloc _
  have hcm := hb0.cells
  have HML := Lib.hid hl
  have HR := Lib.hid hr
  have HX0 := Lib.hid hx0
  clear hb0 hx0 hl hr
  go_enter Try.func7, Try.ntmps7
  go_wp2_with (first
    | (refine wpList_load_agg _ rfl 60 (.tmp 1) rfl _ rfl M _ Try.underlying60 rfl (szMemo HML.out) hcm ?_)
    | fail)
  refine (HR.out _ HX0.out).mono ?_
  rintro e w1 ⟨rfl, hx1⟩
  go_wp2
  go_ret2
  exact ⟨rfl, HX0.out.trans hx1⟩
set_option maxRecDepth 100000 in
set_option maxHeartbeats 8000000 in
theorem Bytes0 (M : List Value) (ch : Nat) (w : World) (hl : M.length = 1069) (m0 : M[0]? = some (.int .i64 0)) (m1 : M[1]? = some (.int .u32 (ch : Int))) (hch : (Lit.int .u32 (ch : Int)).wf = true) (hr : ∀ W, Ext w W → Calls Try.prog 9 #[.agg M.toArray] W fun e w' => e = .returned (.bool true) ∧ Ext W w') :
    Calls Try.prog 7 #[.agg M.toArray] w fun e w' => ∃ v, e = .returned (.tuple #[v, .int .i64 0]) ∧ OwnB w' v ([(0 : UInt8)] ++ be 4 ch) ∧ Ext w w' := by
  have hb0 : Blk (w.alloc (.cells M.toArray 60)) w.heap.size 60 M := Blk.new _ _ _
  have hx0 : Ext w (w.alloc (.cells M.toArray 60)) := (Ext.refl w).alloc _
  have hcm := hb0.cells
  have HML := Lib.hid hl
  have HM0 := Lib.hid m0
  have HM1 := Lib.hid m1
  have HR := Lib.hid hr
  have HB0 := Lib.hid hb0
  have HX0 := Lib.hid hx0
  clear hb0 hx0 hl hr m0 m1
  go_enter Try.func7, Try.ntmps7
  go_wp2_with (first
    | (refine wpList_load_agg _ rfl 60 (.tmp 1) rfl _ rfl M _ Try.underlying60 rfl (szMemo HML.out) hcm ?_)
    | fail)
  refine (HR.out _ HX0.out).mono ?_
  rintro e w1 ⟨rfl, hx1⟩
  have hb1 := HB0.out.keep hx1 (by simp)
  have hx2 := HX0.out.trans hx1
  have HB1 := Lib.hid hb1
  have HX2 := Lib.hid hx2
  clear hb1 hx2 hx1 hcm
  go_wp2
  have hb : Blk w1.drew w.heap.size 60 M := HB1.out
  have hx : Ext w w1.drew := HX2.out.drew
  refine startM (KeepB fun b => b < w1.drew.heap.size) (by kernel_rfl) ?_
  (try simp only [Act.put, List.setIfInBounds_toArray, List.set_cons_succ, List.set_cons_zero])
  generalize w1.drew = w0 at *
  have HK0 := Lib.hid ((hb.cell 0).trans HM0.out)
  have HK1 := Lib.hid ((hb.cell 1).trans HM1.out)
  have HBL := Lib.hid hb.lt
  have HB := Lib.hid hb
  have HX := Lib.hid hx
  have hJ := BJ.start w0 0 ch
  have HJ := Lib.hid hJ
  clear hb hx hJ HB1 HX2
  refine takeK 1 rfl (by kernel_rfl) (by kernel_rfl) (by kernel_rfl) rfl (fun _ _ _ _ h => h) rfl (fun K hK => ?_)
  go_big_quiet_op
  first | refine hK _ ?_ | refine ⟨_, fun _ _ => rfl, hK _ ?_⟩
  clear hK K
  refine takeK 2 rfl (by kernel_rfl) (by kernel_rfl) (by kernel_rfl) rfl (fun _ _ _ _ h => h) rfl (fun K hK => ?_)
  refine quiet_cell _ _ rfl _ rfl _ _ Try.underlying3 rfl (fun W' h => KeepB.cell h HK0.out HBL.out) ?_
  refine hK _ ?_
  simp only [Act.put, List.setIfInBounds_toArray, List.set_cons_succ, List.set_cons_zero]
  clear hK K
  refine takeK 3 rfl (by kernel_rfl) (by kernel_rfl) (by kernel_rfl) rfl (fun _ _ _ _ h => h) rfl (fun K hK => ?_)
  go_big_quiet_op
  first | refine hK _ ?_ | refine ⟨_, fun _ _ => rfl, hK _ ?_⟩
  clear hK K
  refine takeK 6 rfl (by kernel_rfl) (by kernel_rfl) (by kernel_rfl) rfl (fun _ _ _ _ h => h) rfl (fun K hK => ?_)
  go_big_quiet_op
  first | refine hK _ ?_ | refine ⟨_, fun _ _ => rfl, hK _ ?_⟩
  clear hK K
  refine takeK 7 rfl (by kernel_rfl) (by kernel_rfl) (by kernel_rfl) rfl (fun _ _ _ _ h => h) rfl (fun K hK => ?_)
  refine quiet_cell _ _ rfl _ rfl _ _ Try.underlying22 rfl (fun W' h => KeepB.cell h HK1.out HBL.out) ?_
  refine hK _ ?_
  simp only [Act.put, List.setIfInBounds_toArray, List.set_cons_succ, List.set_cons_zero]
  clear hK K
  apply sharedB (fun _ _ v13 v16 W => BJ w0 0 ch none none (some v13) (some v16) W)
  · intro hM
    refine threeM 0 4 8 rfl rfl rfl (by kernel_rfl) rfl rfl rfl (fun K hK => ?_) (fun K hK => ?_) (fun K hK => ?_)
    · refine wp_b8 HJ.out 71 rfl Try.underlying71 ?_
      intro v8 W8 hJ hkb
      have HJ := Lib.hid hJ
      clear hJ
      refine hK _ _ (hkb) ?_
      clear hK K
      (try simp only [Act.put, List.setIfInBounds_toArray, List.set_cons_succ, List.set_cons_zero])
      refine bothM 4 8 rfl rfl (by kernel_rfl) rfl rfl (fun K hK => ?_) (fun K hK => ?_)
      · refine wp_b12 HJ.out 42 (.tmp 11) rfl Try.underlying42 rfl ?_
        intro v12 W12 hJ hkb
        have HJ := Lib.hid hJ
        clear hJ
        refine hK _ _ (hkb) ?_
        clear hK K
        (try simp only [Act.put, List.setIfInBounds_toArray, List.set_cons_succ, List.set_cons_zero])
        refine bothM 5 8 rfl rfl (by kernel_rfl) rfl rfl (fun K hK => ?_) (fun K hK => ?_)
        · go_simp
          refine (BJ.one HJ.out).mono ?_
          rintro e W13 ⟨v13, rfl, hJ, hkb⟩
          have HJ := Lib.hid hJ
          clear hJ
          refine hK _ _ (hkb) ?_
          clear hK K
          refine stepM 8 rfl (by kernel_rfl) rfl (fun K hK => ?_)
          refine wp_b16 HJ.out hch 91 (.tmp 15) rfl Try.underlying91 rfl ?_
          intro v16 W16 hJ hkb
          have HJ := Lib.hid hJ
          clear hJ
          refine hK _ _ (hkb) ?_
          clear hK K
          (try simp only [Act.put, List.setIfInBounds_toArray, List.set_cons_succ, List.set_cons_zero])
          exact hM v8 v12 v13 v16 _ HJ.out
        · refine wp_b16 HJ.out hch 91 (.tmp 15) rfl Try.underlying91 rfl ?_
          intro v16 W16 hJ hkb
          have HJ := Lib.hid hJ
          clear hJ
          refine hK _ _ (hkb) ?_
          clear hK K
          (try simp only [Act.put, List.setIfInBounds_toArray, List.set_cons_succ, List.set_cons_zero])
          refine stepM 5 rfl (by kernel_rfl) rfl (fun K hK => ?_)
          go_simp
          refine (BJ.one HJ.out).mono ?_
          rintro e W13 ⟨v13, rfl, hJ, hkb⟩
          have HJ := Lib.hid hJ
          clear hJ
          refine hK _ _ (hkb) ?_
          clear hK K
          refine relist (by kernel_rfl) (hM v8 v12 v13 v16 _ HJ.out)
      · refine wp_b16 HJ.out hch 91 (.tmp 15) rfl Try.underlying91 rfl ?_
        intro v16 W16 hJ hkb
        have HJ := Lib.hid hJ
        clear hJ
        refine hK _ _ (hkb) ?_
        clear hK K
        (try simp only [Act.put, List.setIfInBounds_toArray, List.set_cons_succ, List.set_cons_zero])
        refine stepM 4 rfl (by kernel_rfl) rfl (fun K hK => ?_)
        refine wp_b12 HJ.out 42 (.tmp 11) rfl Try.underlying42 rfl ?_
        intro v12 W12 hJ hkb
        have HJ := Lib.hid hJ
        clear hJ
        refine hK _ _ (hkb) ?_
        clear hK K
        (try simp only [Act.put, List.setIfInBounds_toArray, List.set_cons_succ, List.set_cons_zero])
        refine stepM 5 rfl (by kernel_rfl) rfl (fun K hK => ?_)
        go_simp
        refine (BJ.one HJ.out).mono ?_
        rintro e W13 ⟨v13, rfl, hJ, hkb⟩
        have HJ := Lib.hid hJ
        clear hJ
        refine hK _ _ (hkb) ?_
        clear hK K
        refine relist (by kernel_rfl) (hM v8 v12 v13 v16 _ HJ.out)
    · refine wp_b12 HJ.out 42 (.tmp 11) rfl Try.underlying42 rfl ?_
      intro v12 W12 hJ hkb
      have HJ := Lib.hid hJ
      clear hJ
      refine hK _ _ (hkb) ?_
      clear hK K
      (try simp only [Act.put, List.setIfInBounds_toArray, List.set_cons_succ, List.set_cons_zero])
      refine bothM 0 8 rfl rfl (by kernel_rfl) rfl rfl (fun K hK => ?_) (fun K hK => ?_)
      · refine wp_b8 HJ.out 71 rfl Try.underlying71 ?_
        intro v8 W8 hJ hkb
        have HJ := Lib.hid hJ
        clear hJ
        refine hK _ _ (hkb) ?_
        clear hK K
        (try simp only [Act.put, List.setIfInBounds_toArray, List.set_cons_succ, List.set_cons_zero])
        refine bothM 5 8 rfl rfl (by kernel_rfl) rfl rfl (fun K hK => ?_) (fun K hK => ?_)
        · go_simp
          refine (BJ.one HJ.out).mono ?_
          rintro e W13 ⟨v13, rfl, hJ, hkb⟩
          have HJ := Lib.hid hJ
          clear hJ
          refine hK _ _ (hkb) ?_
          clear hK K
          refine stepM 8 rfl (by kernel_rfl) rfl (fun K hK => ?_)
          refine wp_b16 HJ.out hch 91 (.tmp 15) rfl Try.underlying91 rfl ?_
          intro v16 W16 hJ hkb
          have HJ := Lib.hid hJ
          clear hJ
          refine hK _ _ (hkb) ?_
          clear hK K
          (try simp only [Act.put, List.setIfInBounds_toArray, List.set_cons_succ, List.set_cons_zero])
          refine relist (by kernel_rfl) (hM v8 v12 v13 v16 _ HJ.out)
        · refine wp_b16 HJ.out hch 91 (.tmp 15) rfl Try.underlying91 rfl ?_
          intro v16 W16 hJ hkb
          have HJ := Lib.hid hJ
          clear hJ
          refine hK _ _ (hkb) ?_
          clear hK K
          (try simp only [Act.put, List.setIfInBounds_toArray, List.set_cons_succ, List.set_cons_zero])
          refine stepM 5 rfl (by kernel_rfl) rfl (fun K hK => ?_)
          go_simp
          refine (BJ.one HJ.out).mono ?_
          rintro e W13 ⟨v13, rfl, hJ, hkb⟩
          have HJ := Lib.hid hJ
          clear hJ
          refine hK _ _ (hkb) ?_
          clear hK K
          refine relist (by kernel_rfl) (hM v8 v12 v13 v16 _ HJ.out)
      · refine wp_b16 HJ.out hch 91 (.tmp 15) rfl Try.underlying91 rfl ?_
        intro v16 W16 hJ hkb
        have HJ := Lib.hid hJ
        clear hJ
        refine hK _ _ (hkb) ?_
        clear hK K
        (try simp only [Act.put, List.setIfInBounds_toArray, List.set_cons_succ, List.set_cons_zero])
        refine stepM 0 rfl (by kernel_rfl) rfl (fun K hK => ?_)
        refine wp_b8 HJ.out 71 rfl Try.underlying71 ?_
        intro v8 W8 hJ hkb
        have HJ := Lib.hid hJ
        clear hJ
        refine hK _ _ (hkb) ?_
        clear hK K
        (try simp only [Act.put, List.setIfInBounds_toArray, List.set_cons_succ, List.set_cons_zero])
        refine stepM 5 rfl (by kernel_rfl) rfl (fun K hK => ?_)
        go_simp
        refine (BJ.one HJ.out).mono ?_
        rintro e W13 ⟨v13, rfl, hJ, hkb⟩
        have HJ := Lib.hid hJ
        clear hJ
        refine hK _ _ (hkb) ?_
        clear hK K
        refine relist (by kernel_rfl) (hM v8 v12 v13 v16 _ HJ.out)
    · refine wp_b16 HJ.out hch 91 (.tmp 15) rfl Try.underlying91 rfl ?_
      intro v16 W16 hJ hkb
      have HJ := Lib.hid hJ
      clear hJ
      refine hK _ _ (hkb) ?_
      clear hK K
      (try simp only [Act.put, List.setIfInBounds_toArray, List.set_cons_succ, List.set_cons_zero])
      refine bothM 0 4 rfl rfl (by kernel_rfl) rfl rfl (fun K hK => ?_) (fun K hK => ?_)
      · refine wp_b8 HJ.out 71 rfl Try.underlying71 ?_
        intro v8 W8 hJ hkb
        have HJ := Lib.hid hJ
        clear hJ
        refine hK _ _ (hkb) ?_
        clear hK K
        (try simp only [Act.put, List.setIfInBounds_toArray, List.set_cons_succ, List.set_cons_zero])
        refine stepM 4 rfl (by kernel_rfl) rfl (fun K hK => ?_)
        refine wp_b12 HJ.out 42 (.tmp 11) rfl Try.underlying42 rfl ?_
        intro v12 W12 hJ hkb
        have HJ := Lib.hid hJ
        clear hJ
        refine hK _ _ (hkb) ?_
        clear hK K
        (try simp only [Act.put, List.setIfInBounds_toArray, List.set_cons_succ, List.set_cons_zero])
        refine stepM 5 rfl (by kernel_rfl) rfl (fun K hK => ?_)
        go_simp
        refine (BJ.one HJ.out).mono ?_
        rintro e W13 ⟨v13, rfl, hJ, hkb⟩
        have HJ := Lib.hid hJ
        clear hJ
        refine hK _ _ (hkb) ?_
        clear hK K
        refine relist (by kernel_rfl) (hM v8 v12 v13 v16 _ HJ.out)
      · refine wp_b12 HJ.out 42 (.tmp 11) rfl Try.underlying42 rfl ?_
        intro v12 W12 hJ hkb
        have HJ := Lib.hid hJ
        clear hJ
        refine hK _ _ (hkb) ?_
        clear hK K
        (try simp only [Act.put, List.setIfInBounds_toArray, List.set_cons_succ, List.set_cons_zero])
        refine stepM 0 rfl (by kernel_rfl) rfl (fun K hK => ?_)
        refine wp_b8 HJ.out 71 rfl Try.underlying71 ?_
        intro v8 W8 hJ hkb
        have HJ := Lib.hid hJ
        clear hJ
        refine hK _ _ (hkb) ?_
        clear hK K
        (try simp only [Act.put, List.setIfInBounds_toArray, List.set_cons_succ, List.set_cons_zero])
        refine stepM 5 rfl (by kernel_rfl) rfl (fun K hK => ?_)
        go_simp
        refine (BJ.one HJ.out).mono ?_
        rintro e W13 ⟨v13, rfl, hJ, hkb⟩
        have HJ := Lib.hid hJ
        clear hJ
        refine hK _ _ (hkb) ?_
        clear hK K
        refine relist (by kernel_rfl) (hM v8 v12 v13 v16 _ HJ.out)
  intro v8 v12 v13 v16 W hJ
  have HJ := Lib.hid hJ
  clear hJ
  refine stepM 9 rfl (by kernel_rfl) rfl (fun K hK => ?_)
  go_simp
  refine (BJ.four HJ.out).mono ?_
  rintro e W17 ⟨v17, rfl, ho17, hx17, hkb⟩
  refine hK _ _ (hkb) ?_
  clear hK K
  refine takeK 10 rfl (by kernel_rfl) (by kernel_rfl) (by kernel_rfl) rfl (fun _ _ _ _ h => h) rfl (fun K hK => ?_)
  go_big_quiet_op
  first | refine hK _ ?_ | refine ⟨_, fun _ _ => rfl, hK _ ?_⟩
  clear hK K
  refine doneM (by kernel_rfl) ?_ _
  have k0 : W17.cell? ⟨w.heap.size, 0, none⟩ = some (.int .i64 0) := (World.cell?_of_block (hx17.block _ HBL.out (by simp))).trans HK0.out
  go_wp2
  go_ret2
  exact ⟨v17, rfl, ho17, HX.out.trans hx17⟩
end Go.Proofs.Ytemladlnpaaefaa
