/- Walks of the pact's Turn, New, spend, Twin, with the library's Clone. Conditions: the numbers are in their bounds. -/
import Derived.Test.YtnpolfihbfdggaaPSound
set_option linter.unusedVariables false
set_option linter.unusedSimpArgs false
set_option linter.unnecessarySimpa false
namespace Go.Proofs.Ytnpolfihbfdggaa
open Go.RowKit

theorem Turn (r : Nat) (w : World) (hr : r < M64) : Calls Try.prog 17 #[.int .u64 (r : Int)] w fun e w' => e = .returned (.int .i64 (turnM r)) ∧ w = w' := by
  unfold M64 at hr
  by_cases h : r % 2 = 1
  · have e : turnM r = 0 := by unfold turnM; rw [if_pos h]
    have h2 : ((r : Int) % 2 == 1) = true := by simp; omega
    rw [e]
    clear e h
    go_enter Try.func17, Try.ntmps17
    go_wp2
    go_ret
    exact ⟨rfl, rfl⟩
  · have e : turnM r = 1 := by unfold turnM; rw [if_neg h]
    have h2 : ((r : Int) % 2 == 1) = false := by simp; omega
    rw [e]
    clear e h
    go_enter Try.func17, Try.ntmps17
    go_wp2
    go_ret
    exact ⟨rfl, rfl⟩
set_option maxHeartbeats 400000 in
theorem Spend (s : St) (v : Value) (p0 p1 : Nat) (side : Int) (am : Nat) (w : World) (F : Fp) (hs : StOk s) (hp0 : p0 < M64) (hp1 : p1 < M64) (ha : am < M64) (hsd : side = 0 ∨ side = 1) (hc : Conds w F v s.cs) (hF : ∀ b, F b → b < w.heap.size) (hlen : s.cs.length ≤ 4398046511104) :
    Calls Try.prog 46 #[stv s v, .agg #[.int .u64 (p0 : Int), .int .u64 (p1 : Int)], .int .i64 side, .int .u64 (am : Int)] w fun e w' => e = .returned (.int .i64 (spendM s p0 p1 side am)) ∧ Ext w w' := by
  have hx0 : Ext w ((w.alloc (.cells #[.int .u32 (s.chan : Int), .int .u64 (s.round : Int), .int .u64 (s.m0 : Int), .int .u64 (s.m1 : Int), .int .u64 (s.t0 : Int), .int .u64 (s.t1 : Int), v] 36)).alloc (.cells #[.int .u64 (p0 : Int), .int .u64 (p1 : Int)] 24)) := ((Ext.refl w).alloc _).alloc _
  have hf := Free s v p0 p1 side _ F hs hp0 hp1 (hx0.holds hF hc) (fun b hb => Nat.lt_of_lt_of_le (hF b hb) hx0.size) hlen
  by_cases h0 : am = 0
  · have e : spendM s p0 p1 side am = 1 := by unfold spendM; rw [if_pos h0]
    rw [e]
    subst h0
    clear e hf
    go_enter Try.func46, Try.ntmps46
    go_wp2
    go_ret
    exact ⟨rfl, hx0⟩
  · have hz : ((am : Int) == 0) = false := by simpa using h0
    have HX0 := Lib.hid hx0
    rcases freeM_cases s p0 p1 side hsd with ⟨m, hm, e⟩ | e
    · rw [e] at hf
      simp only [numErr] at hf
      have HF := Lib.hid hf
      by_cases hlt : m < am
      · have e2 : spendM s p0 p1 side am = 28 := by unfold spendM; rw [if_neg h0, e, if_neg (by simp), if_pos hlt]
        rw [e2]
        clear e e2 hf h0 hx0
        go_enter Try.func46, Try.ntmps46
        go_wp2_with (go_at_call 23; refine HF.out.mono ?_; rintro e w1 ⟨rfl, hx1⟩)
        go_ret
        exact ⟨rfl, HX0.out.trans hx1⟩
      · have e2 : spendM s p0 p1 side am = 0 := by unfold spendM; rw [if_neg h0, e, if_neg (by simp), if_neg hlt]
        rw [e2]
        clear e e2 hf h0 hx0
        go_enter Try.func46, Try.ntmps46
        go_wp2_with (go_at_call 23; refine HF.out.mono ?_; rintro e w1 ⟨rfl, hx1⟩)
        go_ret
        exact ⟨rfl, HX0.out.trans hx1⟩
    · obtain ⟨z, hz0, hz1⟩ : ∃ z : Int, freeM s p0 p1 side = (0, z) ∧ (z = 11 ∨ z = 12) := by
        rcases e with e | e
        · exact ⟨11, e, .inl rfl⟩
        · exact ⟨12, e, .inr rfl⟩
      rw [hz0] at hf
      simp only [numErr] at hf
      have HF := Lib.hid hf
      have e2 : spendM s p0 p1 side am = z := by unfold spendM; rw [if_neg h0, hz0, if_pos (by simp; omega)]
      rw [e2]
      have hzb : (z != 0) = true := by simp; omega
      clear e e2 hf h0 hx0 hz0 hz1
      go_enter Try.func46, Try.ntmps46
      go_wp2_with (go_at_call 23; refine HF.out.mono ?_; rintro e w1 ⟨rfl, hx1⟩)
      go_ret
      exact ⟨rfl, HX0.out.trans hx1⟩

/-- Payments in a row of their own. -/
def OwnC (w : World) (v : Value) (cs : List Cd) : Prop := (∀ c ∈ cs, CondOk c) ∧ Own w 44 36 v (List.length (α := Cd) cs) (cs.flatMap condCells)
theorem OwnC.ext {w w' : World} {v : Value} {cs : List Cd} (h : OwnC w v cs) (hx : Ext w w') : OwnC w' v cs := ⟨h.1, h.2.ext hx⟩
theorem OwnC.lt {w : World} {v : Value} {cs : List Cd} (h : OwnC w v cs) : ∀ g, v.ownBlock = some g → g < w.heap.size := fun g hg => (World.ownsRow.lt h.2 g hg).2
theorem OwnC.keep {w w' : World} {v : Value} {cs : List Cd} {row : Option Nat} (h : OwnC w v cs) (hg : w.grownBy w' row) (hne : ∀ g, v.ownBlock = some g → some g ≠ row) : OwnC w' v cs :=
  ⟨h.1, h.2.keep hg (by cases hv : v.ownBlock with
    | none => exact .inl rfl
    | some g => exact .inr (hne g hv))⟩
theorem OwnC.holds {w : World} {v : Value} {cs : List Cd} (h : OwnC w v cs) : Conds w (fun b => v.ownBlock = some b) v cs := by
  obtain ⟨hok, h⟩ := h
  rcases h.2 with ⟨rfl, h0⟩ | ⟨g, cap, cur, rfl, _, hg, hnc, hcm, _, _⟩
  · obtain rfl : cs = [] := List.eq_nil_of_length_eq_zero h0
    exact ⟨none, 0, [], rfl, Nat.le_refl 0, by simp [maxLen], fun _ => rfl, fun h => absurd rfl h, rfl⟩
  · exact ⟨_, cap, _, rfl, hnc, hcm, by simp, fun _ => ⟨_, rfl, rfl, World.ownsRow.cells h rfl⟩, conds_iff.2 ⟨rfl, hok⟩⟩
theorem OwnC.form {w : World} {v : Value} {cs : List Cd} (h : OwnC w v cs) : ∃ A c, v = .slice A (List.length (α := Cd) cs) c := h.2.form
theorem flat36 : ∀ {l : List Cd}, (∀ c ∈ l, CondOk c) → (l.flatMap condCells).length = l.length * 36
  | [], _ => rfl
  | c :: l, h => by
    rw [List.flatMap_cons, List.length_append, condCells_len (h c (by simp)), flat36 fun x hx => h x (by simp [hx]), List.length_cons]
    omega
theorem flat_one : ∀ (l : List Cd), ∀ u ∈ l.flatMap condCells, u.oneCell' = true := by
  intro l u hu
  obtain ⟨c, _, hc⟩ := List.mem_flatMap.1 hu
  exact condCells_one c u hc
theorem cond_bytes : (Try.prog.info? 44).map (fun i => (i.zero.map (·.cells.size), i.size, i.bytes)) = some (some 36, 36, 64) := by kernel_rfl
theorem cond_parts : ∃ (i : TypeInfo) (z : Value), Try.prog.info? 44 = some i ∧ i.zero = some z ∧ i.size = 36 ∧ i.bytes = 64 ∧ z.cells.size = 36 := by
  obtain ⟨i, hi, h⟩ := Option.map_eq_some_iff.1 cond_bytes
  simp only [Prod.mk.injEq] at h
  obtain ⟨h1, h2, h3⟩ := h
  obtain ⟨z, hz, hz2⟩ := Option.map_eq_some_iff.1 h1
  exact ⟨i, z, hi, hz, h2, h3, hz2⟩
/-- What is read of payments. -/
theorem conds_src {w : World} {F : Fp} {A : Option Addr} {c : Nat} {cs : List Cd} (h : Conds w F (.slice A (List.length (α := Cd) cs) c) cs) : Src w A (List.length (α := Cd) cs) (cs.flatMap condCells) ∧ ∀ x ∈ cs, CondOk x := by
  obtain ⟨A', c', xs, hv, _, _, _, hcell, hall⟩ := conds_open h
  cases hv
  obtain ⟨rfl, hok⟩ := conds_iff.1 hall
  exact ⟨fun hn => by
    obtain ⟨ad, rfl, _, hc⟩ := hcell (by omega)
    exact ⟨ad, rfl, hc⟩, hok⟩
theorem Src.ext {w w' : World} {A : Option Addr} {m : Nat} {news : List Value} (h : Src w A m news) (hx : Ext w w') (hn : m ≠ 0 → news ≠ []) : Src w' A m news := fun hm => by
  obtain ⟨ad, e, hc⟩ := h hm
  exact ⟨ad, e, hc.keep (hx.block _ (hc.lt (hn hm)) (by simp))⟩
set_option maxRecDepth 100000 in
set_option maxHeartbeats 400000 in
theorem Clone (v : Value) (cs : List Cd) (w : World) (F : Fp) (hc : Conds w F v cs) (hF : ∀ b, F b → b < w.heap.size) (hlen : cs.length ≤ 2199023255552) :
    Calls Try.prog 45 #[v] w fun e w' => ∃ v', e = .returned v' ∧ OwnC w' v' cs ∧ Fresh w w' v' := by
  obtain ⟨i1, z1, hi1, hz1, hi2, hi3, hi4⟩ := cond_parts
  have hc0 := hc
  obtain ⟨A, c, xs, rfl, hlc, hcm, hA, hcell, hall⟩ := conds_open hc
  obtain ⟨hsrc, hok⟩ := conds_src hc0
  cases A with
  | none =>
    have hlz : List.length (α := Cd) cs = 0 := by have := hA rfl; omega
    obtain rfl : cs = [] := List.eq_nil_of_length_eq_zero hlz
    obtain rfl := hA rfl
    have hq := fun W => run_eql_nil_slice (P := Try.prog) W 34 _ none 0 0 0 0 Try.underlying34
    go_enter Try.func45, Try.ntmps45
    go_wp2
    go_ret
    exact ⟨_, rfl, ⟨by simp, Own.nil _ _ _⟩, Moved.refl _ _⟩
  | some ad =>
    have hq : ∀ W : World, (binOp .eql 34 (.slice (some ad) (List.length (α := Cd) cs) c) (.slice none 0 0)).run Try.prog W = .ok (.bool false) W := fun W => by
      simp only [binOp]
      simp [Op.equal, Op.maxDepth, Lib.run_equalIn_slice_nil W 9999 34 _ (some ad) (List.length (α := Cd) cs) c 0 0 Try.underlying34]
    have h36 := flat36 hok
    have hone := flat_one cs
    obtain ⟨X, hX⟩ : ∃ X, X = cs.flatMap condCells := ⟨_, rfl⟩
    rw [← hX] at h36 hone hsrc
    have HXE := Lib.hid hX
    clear hX
    have HSRC := Lib.hid hsrc
    clear hsrc hc0 hcell
    go_enter Try.func45, Try.ntmps45
    go_wp2_with (first
      | (at_builtin; go_must (refine wpList_app _ rfl (.tmp 5) (.tmp 6) _ _ rfl _ _ i1 z1 36 64 Try.underlying34 Try.underlying34 hi1 hz1 hi2 hi3 hi4 (by decide) _ 0 [] rfl (own_empty rfl) _ _ _ X rfl h36 (HSRC.out.ext ((Ext.refl _).alloc _) (by intro h1 h2; rw [h2] at h36; simp at h36; omega)) hone (by unfold maxLen; omega) (by omega) ?_); intro v2 w2 ho2 hm2)
      | fail)
    go_ret
    exact ⟨_, rfl, ⟨hok, by rw [← HXE.out]; simpa using ho2⟩, (fresh_empty _ _).trans hm2⟩
theorem stc_len (s : St) (v : Value) : (stc s v).length = 7 := rfl
theorem state_size {n : Nat} (h : n = 7) : (Try.prog.info? 36).map (·.size) = some n := by subst h; kernel_rfl
def zst : List Value := [.int .u32 0, .int .u64 0, .int .u64 0, .int .u64 0, .int .u64 0, .int .u64 0, .slice none 0 0]
theorem state_zero : (Try.prog.info? 36).bind (fun i => i.zero.map (·.cells)) = some zst.toArray := by kernel_rfl
theorem stc_one (s : St) (A : Option Addr) (n c : Nat) : ∀ u ∈ stc s (.slice A n c), u.oneCell' = true := by
  intro u hu
  simp only [stc, List.mem_cons, List.not_mem_nil, or_false] at hu
  rcases hu with rfl | rfl | rfl | rfl | rfl | rfl | rfl <;> rfl
set_option maxRecDepth 100000 in
set_option maxHeartbeats 1000000 in
theorem Twin (s : St) (v : Value) (w : World) (F : Fp) (hc : Conds w F v s.cs) (hF : ∀ b, F b → b < w.heap.size) (hlen : s.cs.length ≤ 2199023255552) :
    Calls Try.prog 29 #[stv s v] w fun e w' => ∃ v', e = .returned (stv s v') ∧ OwnC w' v' s.cs ∧ Ext w w' ∧ ∀ b, v'.ownBlock = some b → w.heap.size ≤ b := by
  obtain ⟨A, c, xs, rfl, hlc, hcm, hA, hcell, hall⟩ := conds_open hc
  have hz := state_zero
  have hzl : zst.length = 7 := rfl
  generalize zst = Z at hz hzl
  have hx0 : Ext w ((w.alloc (.cells (stc s (.slice A (List.length (α := Cd) s.cs) c)).toArray 36)).alloc (.cells Z.toArray 36)) := ((Ext.refl w).alloc _).alloc _
  have hb1 : Blk ((w.alloc (.cells (stc s (.slice A (List.length (α := Cd) s.cs) c)).toArray 36)).alloc (.cells Z.toArray 36)) w.heap.size 36 (stc s (.slice A (List.length (α := Cd) s.cs) c)) := (Blk.new _ _ _).keep ((Ext.refl _).alloc _) (by simp)
  have hb2 : Blk ((w.alloc (.cells (stc s (.slice A (List.length (α := Cd) s.cs) c)).toArray 36)).alloc (.cells Z.toArray 36)) (w.heap.size + 1) 36 Z := Blk.new_at (by simp) _ _
  have hcl := Clone (.slice A (List.length (α := Cd) s.cs) c) s.cs ((w.alloc (.cells (stc s (.slice A (List.length (α := Cd) s.cs) c)).toArray 36)).alloc (.cells Z.toArray 36)) F (hx0.holds hF hc) (fun b hb => Nat.lt_of_lt_of_le (hF b hb) hx0.size) hlen
  have HCL := Lib.hid hcl
  have HX0 := Lib.hid hx0
  have HB1 := Lib.hid hb1
  have HB2 := Lib.hid hb2
  have HZL := Lib.hid hzl
  clear hcl hx0 hb1 hb2 hcell hall hc hzl
  go_enter Try.func29, Try.ntmps29
  go_wp2_with (first
    | (refine wpList_alloc _ rfl 36 rfl _ hz ?_)
    | fail)
  refine HCL.out.mono ?_
  rintro e w1 ⟨v1, rfl, ho1, hf1⟩
  have hx1 := hf1.ext
  have hb1 := HB1.out.keep hx1 (by simp)
  have hb2 := HB2.out.keep hx1 (by simp)
  have hn1 : ∀ b, v1.ownBlock = some b → w.heap.size + 2 ≤ b := fun b hb => by have := Fresh.new hf1 b hb; simpa using this
  obtain ⟨A1, c1, rfl⟩ := ho1.form
  have c6 := hb1.cell 6
  have f6 := hb1.free 6
  have hb3 := hb1.set 6 (.slice A1 (List.length (α := Cd) s.cs) c1)
  have e6 : (stc s (.slice A (List.length (α := Cd) s.cs) c)).set 6 (.slice A1 (List.length (α := Cd) s.cs) c1) = stc s (.slice A1 (List.length (α := Cd) s.cs) c1) := rfl
  rw [e6] at hb3
  have hb4 : Blk (w1.setCell ⟨w.heap.size, 6, none⟩ (.slice A1 (List.length (α := Cd) s.cs) c1)) (w.heap.size + 1) 36 Z := hb2.keep (only_set 6 _) (by simp)
  have ho4 : OwnC (w1.setCell ⟨w.heap.size, 6, none⟩ (.slice A1 (List.length (α := Cd) s.cs) c1)) (.slice A1 (List.length (α := Cd) s.cs) c1) s.cs := ho1.keep (only_set 6 _) (fun g hg => by have := hn1 g hg; simp; omega)
  have hx4 : Ext w (w1.setCell ⟨w.heap.size, 6, none⟩ (.slice A1 (List.length (α := Cd) s.cs) c1)) := (HX0.out.trans hx1).setCell (Nat.le_refl _) _
  have hso := stc_one s A1 (List.length (α := Cd) s.cs) c1
  have hsl := stc_len s (.slice A1 (List.length (α := Cd) s.cs) c1)
  generalize hSC : stc s (.slice A1 (List.length (α := Cd) s.cs) c1) = SC at *
  have HSC := Lib.hid hSC
  have HO4 := Lib.hid ho4
  have HX4 := Lib.hid hx4
  have HB4 := Lib.hid hb4
  have HSL := Lib.hid hsl
  have hcs := hb3.cells
  clear hSC e6 ho4 hx4 hb4 hsl hb3 hb1 hb2 ho1
  go_wp2_with (first
    | (refine wpList_load_agg _ rfl 36 (.tmp 1) rfl _ rfl SC _ Try.underlying36 rfl (state_size HSL.out) hcs ?_)
    | (refine wpList_store_row _ rfl 36 (.tmp 2) (.tmp 7) rfl (w.heap.size + 1) rfl Z SC _ rfl HB4.out (state_size HSL.out) (by rw [HSL.out, HZL.out]) hso ?_)
    | fail)
  have hc := Blk.cells (t := 36) (setRow_at (cs' := SC.toArray) HB4.out)
  refine bodyPost_ret (results_agg rfl _ _ _ _ _ rfl Try.underlying36 rfl (state_size HSL.out) hc) rfl ?_
  exact ⟨_, by rw [← HSC.out]; rfl, HO4.out.keep (setRow_only _) (fun g hg => by have := hn1 g hg; simp; omega), grown_then HX4.out (setRow_only _) (.inr (by rintro g ⟨⟩; omega)), fun b hb => by have := hn1 b hb; omega⟩
end Go.Proofs.Ytnpolfihbfdggaa
