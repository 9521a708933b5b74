/- Walks and plain laws, put together in build order. Conditions: what each of them names. -/
import Derived.Laws.MakeOwn
import Derived.Test.YtmicjaiiinaipaaWc5d35f81aa
set_option linter.unusedVariables false
set_option linter.unusedSimpArgs false
set_option linter.unnecessarySimpa false
namespace Go.Proofs.Ytmicjaiiinaipaa
section
open Go.RowKit

set_option maxRecDepth 100000 in
set_option maxHeartbeats 4000000 in
theorem Ring_Root_nil (w : World) : Calls Try.prog 19 #[.pointer none] w fun e w' => e = .returned (.agg (bv (List.replicate 32 0)).toArray) ∧ Ext w w' := by
  have hzd := digest_zero
  have hdl : (bv (List.replicate 32 0)).length = 32 := by simp
  have hdo := bv_one (List.replicate 32 0)
  have hbd : (Try.prog.built 52 []) = some (bv (List.replicate 32 0)).toArray := by kernel_rfl
  obtain ⟨D, hD⟩ : ∃ D, D = bv (List.replicate 32 0) := ⟨_, rfl⟩
  rw [← hD] at hzd hdl hdo hbd ⊢
  have HDL := Lib.hid hdl
  have HBD := Lib.hid hbd
  have hbz : Blk (w.alloc (.cells D.toArray 52)) w.heap.size 52 D := Blk.new _ _ _
  have HBZ := Lib.hid hbz
  clear hD hdl hbd hbz
  go_enter Try.func19, Try.ntmps19
  go_wp2_with (first
    | ((with_reducible refine wpDst 2 rfl ?_); refine wpList_alloc _ rfl 52 rfl _ hzd ?_)
    | ((with_reducible refine wpDst 5 rfl ?_); go_must (refine wpList_build (.inl rfl) 52 #[] rfl (.agg D.toArray) (exec_build0 _ _ rfl HBD.out) ?_))
    | ((with_reducible refine wpSto 2 5 rfl ?_); refine wpList_store_row _ rfl 52 (.tmp 2) (.tmp 5) rfl w.heap.size rfl D D 52 rfl (by exact HBZ.out) (digest_size HDL.out) rfl hdo ?_)
    | fail)
  have hc9 := Blk.cells (t := 52) (setRow_at (cs' := D.toArray) HBZ.out)
  (try simp only [Exit.inBlock, Exit.then])
  refine bodyPost_ret (results_agg rfl _ _ _ _ _ rfl Try.underlying52 rfl (digest_size HDL.out) hc9) rfl ?_
  exact ⟨rfl, setRow_grown ((Ext.refl w).alloc _) _ _ (Nat.le_refl _)⟩
section
variable {w : World} {g tb : Nat} {F : Fp} {R : Value} {seed : List UInt8} {tall : Nat} {tk : List Bool}
end
end
section
open Go.RowKit

theorem pow_wrap (n : Nat) (h : n < 60) : wrap64 ((2 : Int) ^ n) = ((2 ^ n : Nat) : Int) := by
  have h1 : 2 ^ n < 2 ^ 60 := Nat.pow_lt_pow_right (by decide) h
  have e : (2 : Int) ^ n = ((2 ^ n : Nat) : Int) := by rw [Int.natCast_pow]; rfl
  rw [e]
  generalize 2 ^ n = N at *
  have h2 : (N : Int) < 2 ^ 63 := by omega
  unfold wrap64
  omega
set_option maxRecDepth 100000 in
set_option maxHeartbeats 4000000 in
theorem Ring_New_bad (seed : List UInt8) (tall : Int) (ht : (Lit.int .i64 tall).wf = true) (hbad : tall < 0 ∨ 8 < tall) (w : World) : Calls Try.prog 16 #[.agg (bv seed).toArray, .int .i64 tall] w fun e w' => e = .returned (.tuple #[.pointer none, .int .i64 1]) ∧ Ext w w' := by
  have hx0 : Ext w (w.alloc (.cells (bv seed).toArray 28)) := (Ext.refl w).alloc _
  have HX0 := Lib.hid hx0
  clear hx0
  generalize bv seed = SC at *
  by_cases h : tall < 0
  · go_enter Try.func16, Try.ntmps16
    go_wp2
    go_ret2
    exact ⟨rfl, HX0.out⟩
  · obtain ⟨n, rfl⟩ : ∃ n : Nat, tall = n := ⟨tall.toNat, by omega⟩
    have h8 : 8 < n := by omega
    have h63 : n < 9223372036854775808 := by have h := ht; simp [Lit.wf, IntKind.bits, IntKind.signed, IntKind.min, IntKind.max] at h; omega
    clear hbad ht h
    by_cases h20 : n ≤ 20
    · have hw : wrap64 ((2 : Int) ^ n) = ((2 ^ n : Nat) : Int) := pow_wrap n (by omega)
      have hge : 2 ^ 9 ≤ 2 ^ n := Nat.pow_le_pow_right (by decide) (by omega)
      generalize 2 ^ n = N at hw hge
      go_enter Try.func16, Try.ntmps16
      go_wp2
      go_ret2
      exact ⟨rfl, HX0.out⟩
    · have hn20 : 20 < n := by omega
      have hw : wrap64 1048576 = 1048576 := by unfold wrap64; omega
      go_enter Try.func16, Try.ntmps16
      go_wp2
      all_goals first
        | (go_ret2; exact ⟨rfl, HX0.out⟩)
        | (have h5 : wrap64 ((2 : Int) ^ (if 20 < (n : Int) then 20 else (n : Int)).toNat) = 1048576 := by rw [if_pos (by omega)]; decide +kernel
           exfalso; omega)
end
section
open Go.RowKit

theorem bool_info : (Try.prog.info? 4).map (fun i => (i.zero, i.size, i.bytes)) = some (some (.bool false), 1, 1) := by kernel_rfl
theorem wp_makeB {w : World} {o : Oper} {a : Act} {K : Act → World → Prop} {Q : Exit → Act → World → Prop} (t : TypeId) (x y : Operand) (ho : o.op = .makeSlice t x y) (N : Nat) (hN : N ≤ 256) (hx : a.eval x = .int .i64 (N : Int)) (hy : a.eval y = .int .i64 (N : Int)) (ht : Try.prog.underlying t = some (.slice 4))
    (h : K (a.put o.dst (.slice (some ⟨w.heap.size, 0, none⟩) N N)) (w.alloc (.cells (boolsC (List.replicate N false)).toArray 4))) : o.wp Try.prog a w K Q := by
  obtain ⟨i, hi, hz0, hz1, hz2⟩ := info_parts bool_info
  have hr := run_makeSlice (P := Try.prog) w t 4 i (.bool false) ht hi hz0 .i64 .i64 (N : Int) (N : Int) (by omega) (Int.le_refl _) (by rw [hz1]; omega) (by rw [hz2]; omega) (by omega)
  have hc : madeCells (Value.bool false).cells ((N : Int).toNat * i.size) = (boolsC (List.replicate N false)).toArray := by
    rw [hz1, Int.toNat_natCast, Nat.mul_one]
    apply Array.ext_getElem?
    intro k
    by_cases hk : k < N
    · simp [madeCells, boolsC, Value.cells, Nat.mod_one, hk]
    · simp [madeCells, boolsC, Value.cells, Nat.mod_one, hk]
  rw [hc, Int.toNat_natCast] at hr
  unfold Oper.wp execOp
  simp only [ho, hx, hy, Sem.run_bind, hr, Result.andThen_ok, Sem.run_pure]
  exact h
theorem wrap_i64 (x : Int) : IntKind.i64.wrap x = wrap64 x := by
  simp [IntKind.wrap, IntKind.bits, IntKind.signed, wrap64]
  split <;> omega
theorem fieldsRing : ∃ fields, Try.prog.underlying 107 = some (.struct fields) ∧ fields.toList.mapM (fun f => (Try.prog.info? f.type).map fun i => (f.offset, i.size)) = some [(0, 32), (32, 1), (33, 1), (34, 1)] :=
  ⟨_, Try.underlying107, by kernel_rfl⟩
theorem zRing : (Try.prog.info? 107).bind (fun i => i.zero.map (·.cells)) = some (List.replicate 32 (Value.int .u8 0) ++ [Value.int .i64 0, Value.slice none 0 0, Value.slice none 0 0]).toArray := by kernel_rfl
theorem ringC_set {seed : List UInt8} (h : seed.length = 32) (tall : Nat) (R R' T : Value) : (ringC seed tall R T).set 33 R' = ringC seed tall R' T := by
  rw [ringC, List.set_append_right _ _ (by rw [bv_length]; omega), bv_length, h]; rfl
theorem partsRow : ∃ (i : TypeInfo) (z : Value), Try.prog.info? 68 = some i ∧ i.zero = some z ∧ i.size = 1 ∧ i.bytes = 24 ∧ z.cells.size = 1 := by
  have h : ((Try.prog.info? 68).bind fun i => i.zero.map fun z => (i.size, i.bytes, z.cells.size)) = some (1, 24, 1) := by kernel_rfl
  obtain ⟨i, hi, h2⟩ := Option.bind_eq_some_iff.1 h
  obtain ⟨z, hz, h3⟩ := Option.map_eq_some_iff.1 h2
  have h4 : i.size = 1 ∧ i.bytes = 24 ∧ z.cells.size = 1 := by simpa using h3
  exact ⟨i, z, hi, hz, h4⟩
/-- The rows so far: their slice's own row, and their sums, all new. -/
structure RowsI (W : World) (b0 : Nat) (rv : Value) (Fr : Fp) (ls : List (List Dg)) : Prop where
  own : ∃ vals, Own W 68 1 rv ls.length vals ∧ AllH ((Ty.sl DigT).holds W Fr) vals ls
  fr : ∀ b, Fr b → b0 ≤ b ∧ b < W.heap.size ∧ rv.ownBlock ≠ some b
  rb : ∀ b, rv.ownBlock = some b → b0 ≤ b
theorem RowsI.keep {W W' : World} {b0 : Nat} {rv : Value} {Fr : Fp} {ls : List (List Dg)} {row : Option Nat} (h : RowsI W b0 rv Fr ls) (hg : W.grownBy W' row) (h1 : ∀ b, Fr b → some b ≠ row) (h2 : rv.ownBlock = none ∨ rv.ownBlock ≠ row) : RowsI W' b0 rv Fr ls := by
  obtain ⟨⟨vals, ho, ha⟩, hf, hr⟩ := h
  exact ⟨⟨vals, ho.keep hg h2, AllH.mono (fun c a _ hc => Ty.keep (fun b hb => hg.block b (hf b hb).2.1 (h1 b hb)) (fun _ h => h) _ hc) ha⟩, fun b hb => ⟨(hf b hb).1, Nat.lt_of_lt_of_le (hf b hb).2.1 hg.size, (hf b hb).2.2⟩, hr⟩
theorem RowsI.ext {W W' : World} {b0 : Nat} {rv : Value} {Fr : Fp} {ls : List (List Dg)} (h : RowsI W b0 rv Fr ls) (hx : Ext W W') : RowsI W' b0 rv Fr ls := h.keep hx (by simp) (by cases hb : rv.ownBlock with | none => exact .inl rfl | some b => exact .inr (by simp))
theorem RowsI.holds {W : World} {b0 : Nat} {rv : Value} {Fr : Fp} {ls : List (List Dg)} (h : RowsI W b0 rv Fr ls) : Levs W (fun b => Fr b ∨ rv.ownBlock = some b) rv ls := by
  obtain ⟨⟨vals, ho, ha⟩, hf, hr⟩ := h
  have ha' : AllH ((Ty.sl DigT).holds W (fun b => Fr b ∨ rv.ownBlock = some b)) vals ls := AllH.mono (fun c a _ hc => Ty.keep (fun _ _ => rfl) (fun _ h => .inl h) _ hc) ha
  rcases ho.2 with ⟨rfl, h0⟩ | ⟨g, cap, cur, rfl, _, hg, hnc, hcm, _, _⟩
  · obtain rfl : ls = [] := List.eq_nil_of_length_eq_zero h0
    exact ⟨none, 0, [], rfl, Nat.le_refl 0, by simp [maxLen], fun _ => rfl, fun h => absurd rfl h, rfl⟩
  · exact ⟨_, cap, _, rfl, hnc, hcm, by simp, fun _ => ⟨_, rfl, .inr rfl, World.ownsRow.cells ho rfl⟩, ha'⟩
/-- A row more. -/
theorem RowsI.app {W W' : World} {b0 : Nat} {rv rv' nv : Value} {Fr : Fp} {ls : List (List Dg)} {l : List Dg} (h : RowsI W b0 rv Fr ls) (hm : Moved W W' rv rv') {vals : List Value} (hv : AllH ((Ty.sl DigT).holds W Fr) vals ls) (ho : Own W' 68 1 rv' (ls.length + 1) (vals ++ [nv])) (hn : Ways W (fun b => nv.ownBlock = some b) nv l)
    (hnb : ∀ b, nv.ownBlock = some b → b0 ≤ b ∧ b < W.heap.size ∧ rv.ownBlock ≠ some b) (hb0 : b0 ≤ W.heap.size) : RowsI W' b0 rv' (fun b => Fr b ∨ nv.ownBlock = some b) (ls ++ [l]) := by
  have hk : ∀ b, (Fr b ∨ nv.ownBlock = some b) → b0 ≤ b ∧ b < W.heap.size ∧ rv.ownBlock ≠ some b := fun b hb => hb.elim (h.fr b) (hnb b)
  have hs : ∀ b, (Fr b ∨ nv.ownBlock = some b) → W'.heap[b]? = W.heap[b]? := fun b hb => hm.grown.block b (hk b hb).2.1 (fun e => (hk b hb).2.2 e.symm)
  refine ⟨⟨vals ++ [nv], by rw [List.length_append]; exact ho, AllH.append (AllH.mono (fun c a _ hc => Ty.keep (fun b hb => hs b (.inl hb)) (fun _ h => .inl h) _ hc) hv) (AllH.one (R := (Ty.sl DigT).holds _ _) (Ty.keep (t := .sl DigT) (fun b hb => hs b (.inr hb)) (fun _ h => .inr h) hn))⟩, fun b hb => ⟨(hk b hb).1, Nat.lt_of_lt_of_le (hk b hb).2.1 hm.grown.size, fun e => ?_⟩, fun b hb => ?_⟩
  · rcases hm.at_ with e2 | hnew
    · exact (hk b hb).2.2 (e2.symm.trans e)
    · have := hnew b e; have := (hk b hb).2.1; omega
  · rcases hm.at_ with e2 | hnew
    · exact h.rb b (e2.symm.trans hb)
    · exact Nat.le_trans hb0 (hnew b hb)
theorem own_row1 (w : World) (v : Value) (t : TypeId) : Own (w.alloc (.cells #[v] t)) t 1 (.slice (some ⟨w.heap.size, 0, none⟩) 1 1) 1 [v] :=
  ⟨rfl, .inr ⟨w.heap.size, 1, #[v], rfl, Nat.zero_le _, heap_alloc_new w _, Nat.le_refl _, by simp [maxLen], rfl, rfl⟩⟩
theorem levs_take (seed : List UInt8) (n j : Nat) (h : j ≤ n) : (levsM seed n).take (j + 1) = (List.range (j + 1)).map (levM seed n) := by
  unfold levsM
  rw [← List.map_take, List.take_range, Nat.min_eq_left (by omega)]
theorem levs_succ (seed : List UInt8) (n j : Nat) (h : j < n) : (levsM seed n).take (j + 1 + 1) = (levsM seed n).take (j + 1) ++ [levM seed n (j + 1)] := by
  rw [levs_take seed n j (by omega), levs_take seed n (j + 1) (by omega), List.range_succ (n := j + 1), List.map_append]
  rfl
theorem up_take (l : List Dg) {i : Nat} (h : i < l.length / 2) : (upM l).take (i + 1) = (upM l).take i ++ [aboveM (l.getD (2 * i) []) (l.getD (2 * i + 1) [])] := by
  rw [List.take_add_one]
  congr 1
  simp [upM, h]
def lenOf : Value → Nat
  | .slice _ l _ => l
  | _ => 0
theorem lev0_take (seed : List UInt8) (n : Nat) {k : Nat} (h : k < 2 ^ n) : (levM seed n 0).take (k + 1) = (levM seed n 0).take k ++ [leafM seed k] := by
  rw [List.take_add_one]
  congr 1
  simp [levM, h]
set_option maxRecDepth 100000 in
set_option maxHeartbeats 8000000 in
theorem Ring_New (seed : List UInt8) (hs : seed.length = 32) (n : Nat) (hn : n ≤ 8) (w : World) :
    Calls Try.prog 16 #[.agg (bv seed).toArray, .int .i64 (n : Int)] w fun e w' => ∃ g tb F R, e = .returned (.tuple #[.pointer (some ⟨g, 0, none⟩), .int .i64 0]) ∧ RingAt w' g tb F R seed n (List.replicate (2 ^ n) false) ∧ Ext w w' ∧ w.heap.size ≤ g ∧ w.heap.size ≤ tb ∧ ∀ b, F b → w.heap.size ≤ b := by
  obtain ⟨i1, z1, hi1, hz1, hi2, hi3, hi4⟩ := partsTo05
  obtain ⟨fields, hfu, hfp⟩ := fieldsRing
  have hsl : (bv seed).length = 32 := by rw [bv_length]; exact hs
  obtain ⟨ZR, hzr, hzl, hfl⟩ : ∃ ZR : List Value, (Try.prog.info? 107).bind (fun i => i.zero.map (·.cells)) = some ZR.toArray ∧ ZR.length = 35 ∧ ∀ tb, fillL ([(0, 32), (32, 1), (33, 1), (34, 1)].toArray[·]?) ZR [(0, bv seed), (1, [.int .i64 (n : Int)]), (3, [Value.slice (some ⟨tb, 0, none⟩) (2 ^ n) (2 ^ n)])] = some (ringC seed n (.slice none 0 0) (.slice (some ⟨tb, 0, none⟩) (2 ^ n) (2 ^ n))) := by
    refine ⟨_, zRing, by simp, fun tb => ?_⟩
    have d33 : (bv seed).drop 33 = [] := List.drop_eq_nil_of_le (by omega)
    have d35 : (bv seed).drop 35 = [] := List.drop_eq_nil_of_le (by omega)
    have d34 : (bv seed).take 34 = bv seed := List.take_of_length_le (by omega)
    simp [fillL, ringC, List.drop_append, List.take_append, hs, d33, d35, d34]
  have hpl := pow_low hn
  have hw := pow_wrap n (by omega)
  have hx0 : Ext w (w.alloc (.cells (bv seed).toArray 28)) := (Ext.refl w).alloc _
  have hbs : Blk (w.alloc (.cells (bv seed).toArray 28)).drew w.heap.size 28 (bv seed) := Blk.new _ _ _
  have hll := fun j (h : j ≤ n) => levM_length seed n j h
  have hnew := fun (k : Nat) W => NewKey seed hs k W
  have hlf := fun (k : Nat) (h : k < 2 ^ n) W => KLeaf seed hs k (by simp [Lit.wf, IntKind.bits, IntKind.signed, IntKind.min, IntKind.max]; omega) W
  have hl0 := fun (k : Nat) (h : k < 2 ^ n) => lev0_take seed n h
  obtain ⟨N, hNe⟩ : ∃ N, N = 2 ^ n := ⟨_, rfl⟩
  rw [← hNe] at hfl hpl hw hlf hl0
  have HNE := Lib.hid hNe
  generalize bv seed = SC at *
  have HSL := Lib.hid hsl
  have HFL := Lib.hid hfl
  have HZL := Lib.hid hzl
  have HN := Lib.hid hpl.2
  have HW := Lib.hid hw
  have HWK : Hid (IntKind.i64.wrap ((2 : Int) ^ n) = (N : Int)) := Lib.hid (by rw [← hw]; exact (wrap_i64 _))
  have HX0 := Lib.hid hx0
  have HBS := Lib.hid hbs
  have HLL := Lib.hid hll
  have HNEW := Lib.hid hnew
  have HLF := Lib.hid hlf
  have HL0 := Lib.hid hl0
  have HSEED := Lib.hid hs
  clear hsl hfl hzl hx0 hbs hll hnew hlf hl0 hNe hs
  go_enter Try.func16, Try.ntmps16
  go_wp2_with fail
  refine stab_plain Ext ext_refl ext_trans [[0], [1], [2], [2, 3], [2, 3, 4], [0, 1, 2, 3, 4, 5], [0, 1, 2, 3, 4, 5, 6], [0, 1, 2, 3, 4, 5, 6, 7]] (fun i v wv => match i with | 0 => v = .agg SC.toArray | 1 => v = .int .i64 (n : Int) | 2 => v = .int .i64 (n : Int) | 3 => v = .int .i64 (N : Int) | 4 => ∃ tb, v = (.slice (some ⟨tb, 0, none⟩) N N) ∧ w.heap.size < tb ∧ Blk wv tb 4 (boolsC (List.replicate N false)) | 5 => ∃ tb, v = .agg (ringC seed n (.slice none 0 0) (.slice (some ⟨tb, 0, none⟩) N N)).toArray ∧ w.heap.size < tb ∧ Blk wv tb 4 (boolsC (List.replicate N false)) | 6 => ∃ g tb, v = .pointer (some ⟨g, 0, none⟩) ∧ w.heap.size < tb ∧ tb < g ∧ Blk wv tb 4 (boolsC (List.replicate N false)) ∧ Blk wv g 107 (ringC seed n (.slice none 0 0) (.slice (some ⟨tb, 0, none⟩) N N)) | 7 => ∃ g tb, v = .pointer (some ⟨g, 0, none⟩) ∧ w.heap.size < tb ∧ tb < g ∧ Blk wv tb 4 (boolsC (List.replicate N false)) ∧ Blk wv g 107 (ringC seed n (.slice none 0 0) (.slice (some ⟨tb, 0, none⟩) N N)) | _ => True) (by kernel_rfl) (by kernel_rfl) (by kernel_rfl) ?_ ?_ ?_
  · intro i v w1 w2 h hx
    match i, h with
    | 0, h => exact h
    | 1, h => exact h
    | 2, h => exact h
    | 3, h => exact h
    | 4, h =>
      replace h : ∃ tb, v = (.slice (some ⟨tb, 0, none⟩) N N) ∧ w.heap.size < tb ∧ Blk w1 tb 4 (boolsC (List.replicate N false)) := h
      show ∃ tb, v = (.slice (some ⟨tb, 0, none⟩) N N) ∧ w.heap.size < tb ∧ Blk w2 tb 4 (boolsC (List.replicate N false))
      obtain ⟨tb, h1, h2, h3⟩ := h
      exact ⟨tb, h1, h2, h3.keep hx (by simp)⟩
    | 5, h =>
      replace h : ∃ tb, v = .agg (ringC seed n (.slice none 0 0) (.slice (some ⟨tb, 0, none⟩) N N)).toArray ∧ w.heap.size < tb ∧ Blk w1 tb 4 (boolsC (List.replicate N false)) := h
      show ∃ tb, v = .agg (ringC seed n (.slice none 0 0) (.slice (some ⟨tb, 0, none⟩) N N)).toArray ∧ w.heap.size < tb ∧ Blk w2 tb 4 (boolsC (List.replicate N false))
      obtain ⟨tb, h1, h2, h3⟩ := h
      exact ⟨tb, h1, h2, h3.keep hx (by simp)⟩
    | 6, h =>
      replace h : ∃ g tb, v = .pointer (some ⟨g, 0, none⟩) ∧ w.heap.size < tb ∧ tb < g ∧ Blk w1 tb 4 (boolsC (List.replicate N false)) ∧ Blk w1 g 107 (ringC seed n (.slice none 0 0) (.slice (some ⟨tb, 0, none⟩) N N)) := h
      show ∃ g tb, v = .pointer (some ⟨g, 0, none⟩) ∧ w.heap.size < tb ∧ tb < g ∧ Blk w2 tb 4 (boolsC (List.replicate N false)) ∧ Blk w2 g 107 (ringC seed n (.slice none 0 0) (.slice (some ⟨tb, 0, none⟩) N N))
      obtain ⟨g, tb, h1, h2, h3, h4, h5⟩ := h
      exact ⟨g, tb, h1, h2, h3, h4.keep hx (by simp), h5.keep hx (by simp)⟩
    | 7, h =>
      replace h : ∃ g tb, v = .pointer (some ⟨g, 0, none⟩) ∧ w.heap.size < tb ∧ tb < g ∧ Blk w1 tb 4 (boolsC (List.replicate N false)) ∧ Blk w1 g 107 (ringC seed n (.slice none 0 0) (.slice (some ⟨tb, 0, none⟩) N N)) := h
      show ∃ g tb, v = .pointer (some ⟨g, 0, none⟩) ∧ w.heap.size < tb ∧ tb < g ∧ Blk w2 tb 4 (boolsC (List.replicate N false)) ∧ Blk w2 g 107 (ringC seed n (.slice none 0 0) (.slice (some ⟨tb, 0, none⟩) N N))
      obtain ⟨g, tb, h1, h2, h3, h4, h5⟩ := h
      exact ⟨g, tb, h1, h2, h3, h4.keep hx (by simp), h5.keep hx (by simp)⟩
    | i + 8, h => trivial
  · intro i hi o ho
    match i, hi, ho with
    | 0, _, ho =>
      obtain rfl := Option.some.inj ho
      intro s W hX hd K hK
      rw [if_pos (wanted_plain rfl)]
      clear hd
      replace hK : ∀ (v : Value) (W' : World), Ext W W' → (v = .agg SC.toArray) → _ := hK
      simp only [mkOf, List.map_cons, List.map_nil, Act.put, List.setIfInBounds_toArray, List.set_cons_succ, List.set_cons_zero, Nat.reduceAdd, Nat.zero_add] at hK ⊢
      refine wp_load_agg 28 (.tmp 2) rfl _ rfl SC _ Try.underlying28 rfl (szElTo05 HSL.out) (HBS.out.keep hX (by simp)).cells ?_
      exact hK _ _ (Ext.refl _) rfl
    | 1, _, ho =>
      obtain rfl := Option.some.inj ho
      intro s W hX hd K hK
      rw [if_pos (wanted_plain rfl)]
      clear hd
      replace hK : ∀ (v : Value) (W' : World), Ext W W' → (v = .int .i64 (n : Int)) → _ := hK
      simp only [mkOf, List.map_cons, List.map_nil, Act.put, List.setIfInBounds_toArray, List.set_cons_succ, List.set_cons_zero, Nat.reduceAdd, Nat.zero_add] at hK ⊢
      go_simp
      exact hK _ _ (Ext.refl _) rfl
    | 2, _, ho =>
      obtain rfl := Option.some.inj ho
      intro s W hX hd K hK
      rw [if_pos (wanted_plain rfl)]
      clear hd
      replace hK : ∀ (v : Value) (W' : World), Ext W W' → (v = .int .i64 (n : Int)) → _ := hK
      simp only [mkOf, List.map_cons, List.map_nil, Act.put, List.setIfInBounds_toArray, List.set_cons_succ, List.set_cons_zero, Nat.reduceAdd, Nat.zero_add] at hK ⊢
      go_simp
      exact hK _ _ (Ext.refl _) rfl
    | 3, _, ho =>
      obtain rfl := Option.some.inj ho
      intro s W hX hd K hK
      rw [if_pos (wanted_plain rfl)]
      have d21 : (s 2) = .int .i64 (n : Int) := hd 2 (by decide) (by decide)
      clear hd
      replace hK : ∀ (v : Value) (W' : World), Ext W W' → (v = .int .i64 (N : Int)) → _ := hK
      simp only [mkOf, List.map_cons, List.map_nil, Act.put, List.setIfInBounds_toArray, List.set_cons_succ, List.set_cons_zero, Nat.reduceAdd, Nat.zero_add] at hK ⊢
      simp only [d21] at hK ⊢
      go_simp
      exact hK _ _ (Ext.refl _) (by rw [HWK.out])
    | 4, _, ho =>
      obtain rfl := Option.some.inj ho
      intro s W hX hd K hK
      rw [if_pos (wanted_plain rfl)]
      have d22 : (s 3) = .int .i64 (N : Int) := hd 3 (by decide) (by decide)
      clear hd
      replace hK : ∀ (v : Value) (W' : World), Ext W W' → (∃ tb, v = (.slice (some ⟨tb, 0, none⟩) N N) ∧ w.heap.size < tb ∧ Blk W' tb 4 (boolsC (List.replicate N false))) → _ := hK
      simp only [mkOf, List.map_cons, List.map_nil, Act.put, List.setIfInBounds_toArray, List.set_cons_succ, List.set_cons_zero, Nat.reduceAdd, Nat.zero_add] at hK ⊢
      simp only [d22] at hK ⊢
      refine wp_makeB 104 (.tmp 22) (.tmp 22) rfl N HN.out rfl rfl Try.underlying104 ?_
      exact hK _ _ ((Ext.refl _).alloc _) ⟨_, rfl, by have := hX.size; simp at this; omega, Blk.new _ _ _⟩
    | 5, _, ho =>
      obtain rfl := Option.some.inj ho
      intro s W hX hd K hK
      rw [if_pos (wanted_plain rfl)]
      have d19 : (s 0) = .agg SC.toArray := hd 0 (by decide) (by decide)
      have d20 : (s 1) = .int .i64 (n : Int) := hd 1 (by decide) (by decide)
      have d23 : ∃ tb, (s 4) = (.slice (some ⟨tb, 0, none⟩) N N) ∧ w.heap.size < tb ∧ Blk W tb 4 (boolsC (List.replicate N false)) := hd 4 (by decide) (by decide)
      clear hd
      replace hK : ∀ (v : Value) (W' : World), Ext W W' → (∃ tb, v = .agg (ringC seed n (.slice none 0 0) (.slice (some ⟨tb, 0, none⟩) N N)).toArray ∧ w.heap.size < tb ∧ Blk W' tb 4 (boolsC (List.replicate N false))) → _ := hK
      simp only [mkOf, List.map_cons, List.map_nil, Act.put, List.setIfInBounds_toArray, List.set_cons_succ, List.set_cons_zero, Nat.reduceAdd, Nat.zero_add] at hK ⊢
      simp only [d19, d20] at hK ⊢
      obtain ⟨tb, h1, h2, h3⟩ := d23
      simp only [h1] at hK ⊢
      refine wp_known _ (exec_build_st W 107 #[(0, .tmp 19), (1, .tmp 20), (3, .tmp 23)] rfl fields ZR (ringC seed n (.slice none 0 0) (.slice (some ⟨tb, 0, none⟩) N N)) _ [(0, SC), (1, [.int .i64 (n : Int)]), (3, [(.slice (some ⟨tb, 0, none⟩) N N)])] hfu hzr hfp (by simp [Value.cells, Act.eval]) (HFL.out tb)) ?_
      exact hK _ _ (Ext.refl _) ⟨tb, rfl, h2, h3⟩
    | 6, _, ho =>
      obtain rfl := Option.some.inj ho
      intro s W hX hd K hK
      rw [if_pos (wanted_plain rfl)]
      have d24 : ∃ tb, (s 5) = .agg (ringC seed n (.slice none 0 0) (.slice (some ⟨tb, 0, none⟩) N N)).toArray ∧ w.heap.size < tb ∧ Blk W tb 4 (boolsC (List.replicate N false)) := hd 5 (by decide) (by decide)
      clear hd
      replace hK : ∀ (v : Value) (W' : World), Ext W W' → (∃ g tb, v = .pointer (some ⟨g, 0, none⟩) ∧ w.heap.size < tb ∧ tb < g ∧ Blk W' tb 4 (boolsC (List.replicate N false)) ∧ Blk W' g 107 (ringC seed n (.slice none 0 0) (.slice (some ⟨tb, 0, none⟩) N N))) → _ := hK
      simp only [mkOf, List.map_cons, List.map_nil, Act.put, List.setIfInBounds_toArray, List.set_cons_succ, List.set_cons_zero, Nat.reduceAdd, Nat.zero_add] at hK ⊢
      obtain ⟨tb, h1, h2, h3⟩ := d24
      simp only [h1] at hK ⊢
      go_simp
      exact hK _ _ ((Ext.refl _).alloc _) ⟨_, tb, rfl, h2, h3.lt, h3.keep ((Ext.refl _).alloc _) (by simp), Blk.new _ _ _⟩
    | 7, _, ho =>
      obtain rfl := Option.some.inj ho
      intro s W hX hd K hK
      rw [if_pos (wanted_plain rfl)]
      have d25 : ∃ g tb, (s 6) = .pointer (some ⟨g, 0, none⟩) ∧ w.heap.size < tb ∧ tb < g ∧ Blk W tb 4 (boolsC (List.replicate N false)) ∧ Blk W g 107 (ringC seed n (.slice none 0 0) (.slice (some ⟨tb, 0, none⟩) N N)) := hd 6 (by decide) (by decide)
      clear hd
      replace hK : ∀ (v : Value) (W' : World), Ext W W' → (∃ g tb, v = .pointer (some ⟨g, 0, none⟩) ∧ w.heap.size < tb ∧ tb < g ∧ Blk W' tb 4 (boolsC (List.replicate N false)) ∧ Blk W' g 107 (ringC seed n (.slice none 0 0) (.slice (some ⟨tb, 0, none⟩) N N))) → _ := hK
      simp only [mkOf, List.map_cons, List.map_nil, Act.put, List.setIfInBounds_toArray, List.set_cons_succ, List.set_cons_zero, Nat.reduceAdd, Nat.zero_add] at hK ⊢
      go_simp
      exact hK _ _ (Ext.refl _) d25
    | i + 8, hi, _ => exact absurd hi (by simp)
  · intro s W hX hd
    have d19 : (s 0) = .agg SC.toArray := hd 0 (by decide)
    have d20 : (s 1) = .int .i64 (n : Int) := hd 1 (by decide)
    have d21 : (s 2) = .int .i64 (n : Int) := hd 2 (by decide)
    have d22 : (s 3) = .int .i64 (N : Int) := hd 3 (by decide)
    have d23 : ∃ tb, (s 4) = (.slice (some ⟨tb, 0, none⟩) N N) ∧ w.heap.size < tb ∧ Blk W tb 4 (boolsC (List.replicate N false)) := hd 4 (by decide)
    have d24 : ∃ tb, (s 5) = .agg (ringC seed n (.slice none 0 0) (.slice (some ⟨tb, 0, none⟩) N N)).toArray ∧ w.heap.size < tb ∧ Blk W tb 4 (boolsC (List.replicate N false)) := hd 5 (by decide)
    have d25 : ∃ g tb, (s 6) = .pointer (some ⟨g, 0, none⟩) ∧ w.heap.size < tb ∧ tb < g ∧ Blk W tb 4 (boolsC (List.replicate N false)) ∧ Blk W g 107 (ringC seed n (.slice none 0 0) (.slice (some ⟨tb, 0, none⟩) N N)) := hd 6 (by decide)
    have d6 : ∃ g tb, (s 7) = .pointer (some ⟨g, 0, none⟩) ∧ w.heap.size < tb ∧ tb < g ∧ Blk W tb 4 (boolsC (List.replicate N false)) ∧ Blk W g 107 (ringC seed n (.slice none 0 0) (.slice (some ⟨tb, 0, none⟩) N N)) := hd 7 (by decide)
    clear hd
    simp only [mkOf, List.map_cons, List.map_nil, Act.put, List.setIfInBounds_toArray, List.set_cons_succ, List.set_cons_zero, Nat.reduceAdd, Nat.zero_add]
    obtain ⟨g, tb, e6, h2, h3, hbt, hbg⟩ := d6
    have hx1 := HX0.out.trans ((Ext.refl (w.alloc (.cells SC.toArray 28))).drew.trans hX)
    have hbs1 := HBS.out.keep hX (by simp)
    have hfr : w.heap.size < W.heap.size := hbs1.lt
    simp only [e6]
    clear hX HX0 HBS e6
    have HX1 := Lib.hid hx1
    have HBS1 := Lib.hid hbs1
    have HBT1 := Lib.hid hbt
    have HBG1 := Lib.hid hbg
    clear hx1 hbs1 hbt hbg
    (try simp only [Exit.then])
    go_wp2_with fail
    simp only [hw, d19, d20, d21, d22]
    clear hw d19 d20 d21 d22
    go_loopw [7, 8, 28] (fun v x8 i wr => ∃ k : Nat, k ≤ N ∧ i = .int .i64 k ∧ Ext W wr ∧ OwnD 52 wr v ((levM seed n 0).take k) ∧ (∀ b, v.ownBlock = some b → W.heap.size ≤ b) ∧ ∃ q, x8 = q) (fun _ _ i _ => N - (intOf i).toNat)
    case atStart => exact ⟨0, by omega, rfl, Ext.refl W, ⟨by simp, Own.nil _ _ _⟩, by simp [Value.ownBlock], _, rfl⟩
    case round =>
      obtain ⟨k, hk, rfl, hx, hov, hfar, q, rfl⟩ := hrel
      by_cases hlt : k < N
      · have hbs2 := (HBS1.out.keep hx (by simp))
        have hlf := fun W => HLF.out k hlt W
        have hl0 := HL0.out k hlt
        have hlk : List.length (α := Dg) ((levM seed n 0).take k) = k := by rw [List.length_take, HLL.out 0 (by omega), Nat.sub_zero, ← HNE.out]; omega
        have hyl : (bv (leafM seed k)).length = 32 := by rw [bv_length]; exact leafM_length _ _
        have hyo := bv_one (leafM seed k)
        have hyd := leafM_length seed k
        have hwk : IntKind.u32.wrap (k : Int) = (k : Int) := by simp [IntKind.wrap, IntKind.bits, IntKind.signed]; have := HN.out; omega
        obtain ⟨Yd, hYd⟩ : ∃ Yd : Dg, Yd = leafM seed k := ⟨_, rfl⟩
        rw [← hYd] at hlf hl0 hyl hyo hyd
        obtain ⟨Y, hY⟩ : ∃ Y, Y = bv Yd := ⟨_, rfl⟩
        rw [← hY] at hlf hyl hyo
        have how : Own wr 52 32 u7 k (((levM seed n 0).take k).flatMap bv) := by have h := hov.2; rw [hlk] at h; exact h
        have HOW := Lib.hid how
        have HY := Lib.hid hY
        have HLFK := Lib.hid hlf
        have HL0K := Lib.hid hl0
        have HLK := Lib.hid hlk
        have HYL := Lib.hid hyl
        have HYD := Lib.hid hyd
        have HBS2 := Lib.hid hbs2
        have HX := Lib.hid hx
        have HOV := Lib.hid hov
        have HFAR := Lib.hid hfar
        clear hbs2 hlf hl0 hlk hyl hyd hYd hY how hx hov hfar
        go_wp2_with (first
          | ((with_reducible refine wpDst 32 rfl ?_); refine wpList_load_agg _ rfl 28 (.tmp 2) rfl _ rfl SC _ Try.underlying28 rfl (szElTo05 HSL.out) (by exact HBS2.out.cells) ?_)
          | (go_at_call 36; refine (HNEW.out k _).mono ?_; rintro e w2 ⟨rfl, hx2⟩)
          | (go_at_call 37; refine (HLFK.out _).mono ?_; rintro e w3 ⟨rfl, hx3⟩; have HXA := Lib.hid ((hx2.trans hx3).alloc (.cells Y.toArray 52)))
          | ((with_reducible refine wpDst 37 rfl ?_); refine wpList_one _ rfl 68 (.tmp 36) rfl 52 Y Try.underlying68 rfl (digest_size HYL.out) zEbTo05 (by rw [HYL.out]; decide) (by rw [HYL.out]; decide) ?_)
          | ((with_reducible refine wpDst 38 rfl ?_)
             go_must (refine wpList_app _ rfl (.tmp 31) (.tmp 37) _ _ rfl 52 52 i1 z1 32 32 Try.underlying68 Try.underlying68 hi1 hz1 hi2 hi3 hi4 (by decide) u7 _ _ rfl (HOW.out.ext HXA.out) _ 1 1 Y rfl (by rw [HYL.out]) (src_at rfl Y _ 1) hyo (by have := HN.out; unfold maxLen; omega) (by have := HN.out; omega) ?_)
             intro v7 w7 ho7 hm7
             obtain ⟨A7, c7, hv7⟩ := Own.form ho7
             subst hv7)
          | fail)
        have far7 : ∀ b, (Value.slice A7 (k + 1) c7).ownBlock = some b → W.heap.size ≤ b := fun b hb => by
          rcases hm7.at_ with e | hn
          · exact HFAR.out b (e.symm.trans hb)
          · have h1 := hn b hb
            have h2 := HX.out.size
            have h3 := HXA.out.size
            omega
        have hx9 : Ext W w7 := grown_then (HX.out.trans HXA.out) hm7.grown (.inr fun x hx => HFAR.out x hx)
        have ho9 : OwnD 52 w7 (.slice A7 (k + 1) c7) ((levM seed n 0).take (k + 1)) := by
          rw [HL0K.out]
          refine ⟨fun d hd => ?_, ?_⟩
          · rcases List.mem_append.1 hd with hd | hd
            · exact HOV.out.1 d hd
            · rw [List.mem_singleton.1 hd]; exact HYD.out
          · have e1 : (((levM seed n 0).take k) ++ [Yd]).flatMap bv = (((levM seed n 0).take k)).flatMap bv ++ Y := by rw [HY.out]; simp
            have e2 : List.length (α := Dg) (((levM seed n 0).take k) ++ [Yd]) = k + 1 := by rw [List.length_append, HLK.out]; rfl
            rw [e1, e2]
            exact ho7
        have HX9 := Lib.hid hx9
        have HO9 := Lib.hid ho9
        have HF9 := Lib.hid far7
        clear hx9 ho9 far7
        go_roundw
        case rel => exact ⟨k + 1, by omega, by go_num, HX9.out, HO9.out, HF9.out, _, rfl⟩
        case measure => simp [intOf]; omega
      · obtain rfl : k = N := by omega
        have htk : (levM seed n 0).take k = levM seed n 0 := List.take_of_length_le (by rw [HLL.out 0 (by omega), Nat.sub_zero, ← HNE.out]; exact Nat.le_refl _)
        rw [htk] at hov
        have hl0k : List.length (α := Dg) (levM seed n 0) = k := by rw [HLL.out 0 (by omega), Nat.sub_zero, ← HNE.out]
        obtain ⟨A8, c8, hv8⟩ := hov.2.form
        rw [hl0k] at hv8
        subst hv8
        have hbg2 := (HBG1.out.keep hx (by simp)).keep ((Ext.refl wr).alloc (.cells #[Value.slice A8 k c8] 68)) (by simp)
        have hbt2 := (HBT1.out.keep hx (by simp)).keep ((Ext.refl wr).alloc (.cells #[Value.slice A8 k c8] 68)) (by simp)
        have s33 := (hbg2.cell 33).trans (ringC_rows HSEED.out n _ _)
        have f33 := hbg2.free 33
        have hx2 : Ext w ((wr.alloc (.cells #[Value.slice A8 k c8] 68)).setCell ⟨g, 33, none⟩ (.slice (some ⟨wr.heap.size, 0, none⟩) 1 1)) := Ext.setCell ((HX1.out.trans hx).alloc _) (by show w.heap.size ≤ g; omega) _
        have hgW := HBG1.out.lt
        have hwsz := hx.size
        have hbg3 := hbg2.set 33 (.slice (some ⟨wr.heap.size, 0, none⟩) 1 1)
        rw [ringC_set HSEED.out] at hbg3
        have hbt3 := hbt2.keep (only_set (g := g) 33 (.slice (some ⟨wr.heap.size, 0, none⟩) 1 1)) (by simp; omega)
        have hro : RowsI ((wr.alloc (.cells #[Value.slice A8 k c8] 68)).setCell ⟨g, 33, none⟩ (.slice (some ⟨wr.heap.size, 0, none⟩) 1 1)) W.heap.size (.slice (some ⟨wr.heap.size, 0, none⟩) 1 1) (fun b => (Value.slice A8 k c8).ownBlock = some b) [levM seed n 0] := by
          have h1 : RowsI (wr.alloc (.cells #[Value.slice A8 k c8] 68)) W.heap.size (.slice (some ⟨wr.heap.size, 0, none⟩) 1 1) (fun b => (Value.slice A8 k c8).ownBlock = some b) [levM seed n 0] := by
            refine ⟨⟨[Value.slice A8 k c8], own_row1 _ _ _, AllH.one (R := (Ty.sl DigT).holds _ _) (hov.ext ((Ext.refl wr).alloc _)).holds⟩, fun b hb => ⟨hfar b hb, by have := hov.lt b hb; simp; omega, fun e => by have := hov.lt b hb; simp [Value.ownBlock] at e; omega⟩, fun b hb => by simp [Value.ownBlock] at hb; omega⟩
          exact h1.keep (only_set (g := g) 33 _) (fun b hb e => by have := hfar b hb; simp at e; omega) (.inr (by simp [Value.ownBlock]; omega))
        have hwy : Ways ((wr.alloc (.cells #[Value.slice A8 k c8] 68)).setCell ⟨g, 33, none⟩ (.slice (some ⟨wr.heap.size, 0, none⟩) 1 1)) (fun b => (Value.slice A8 k c8).ownBlock = some b) (.slice A8 k c8) (levM seed n 0) :=
          Ty.keep (t := .sl DigT) (fun b hb => (only_set (g := g) 33 (.slice (some ⟨wr.heap.size, 0, none⟩) 1 1)).block b (by have := hov.lt b hb; simp; omega) (by have := hfar b hb; simp; omega)) (fun _ h => h) (hov.ext ((Ext.refl wr).alloc (.cells #[Value.slice A8 k c8] 68))).holds
        have HBG3 := Lib.hid hbg3
        have HBT3 := Lib.hid hbt3
        have HRO := Lib.hid hro
        have HWY := Lib.hid hwy
        have HX2 := Lib.hid hx2
        have HWS := Lib.hid (show W.heap.size ≤ ((wr.alloc (.cells #[Value.slice A8 k c8] 68)).setCell ⟨g, 33, none⟩ (.slice (some ⟨wr.heap.size, 0, none⟩) 1 1)).heap.size from Nat.le_trans (by simp; omega) (only_set (g := g) 33 _).size)
        clear hbg2 hbt2 hbg3 hbt3 hro hwy hx2 hov hfar hx htk hl0k
        go_wp2_with fail
        generalize (wr.alloc (.cells #[Value.slice A8 k c8] 68)).setCell ⟨g, 33, none⟩ (.slice (some ⟨wr.heap.size, 0, none⟩) 1 1) = w5 at *
        clear s33 f33
        go_loopw [7, 9, 10] (fun row nx ix wr2 => ∃ (j : Nat) (rv : Value) (Fr : Fp), j ≤ n ∧ Ways wr2 Fr row (levM seed n j) ∧ Ext w wr2 ∧ Blk wr2 g 107 (ringC seed n rv (.slice (some ⟨tb, 0, none⟩) k k)) ∧ Blk wr2 tb 4 (boolsC (List.replicate k false)) ∧ RowsI wr2 W.heap.size rv Fr ((levsM seed n).take (j + 1)) ∧ W.heap.size ≤ wr2.heap.size ∧ (∃ q, nx = q) ∧ ∃ q, ix = q) (fun row _ _ _ => lenOf row)
        case atStart => exact ⟨0, _, _, by omega, HWY.out, HX2.out, HBG3.out, HBT3.out, by rw [levs_take seed n 0 (by omega)]; exact HRO.out, HWS.out, ⟨_, rfl⟩, _, rfl⟩
        case round =>
          clear HRO HWY HX2 HBG3 HBT3 HWS
          obtain ⟨j, rv, Fr, hj, hwy, hx, hbg, hbt, hro, hws, ⟨q, rfl⟩, q2, rfl⟩ := hrel
          obtain ⟨Aj, cj, xs, rfl, hlc, hcm, hAj, hcj, hallj⟩ := ways_open hwy
          have hfrl := fun b hb => (hro.fr b hb).2.1
          have hlj : List.length (α := Dg) (levM seed n j) = 2 ^ (n - j) := HLL.out j hj
          unfold maxLen at hcm
          obtain ⟨wo, rfl⟩ : ∃ wo, wo = wr := ⟨_, rfl⟩
          by_cases hjn : j < n
          · obtain ⟨L, hL⟩ : ∃ L, L = 2 ^ (n - (j + 1)) := ⟨_, rfl⟩
            have hpos : 0 < L := by rw [hL]; exact Nat.two_pow_pos _
            have h2L : 2 ^ (n - j) = 2 * L := by rw [hL, show n - j = n - (j + 1) + 1 by omega, Nat.pow_succ]; omega
            have hL256 : L ≤ 256 := by rw [hL]; exact Nat.pow_le_pow_right (n := 2) (by decide) (show n - (j + 1) ≤ 8 by omega)
            obtain ⟨LL, hLL⟩ : ∃ LL, LL = 2 * L := ⟨_, rfl⟩
            rw [h2L, ← hLL] at hlj
            rw [hlj] at hlc hcj ⊢
            obtain ⟨ad, rfl, hFad, hcells⟩ := hcj (by omega)
            have hkk : 0 < LL := by omega
            have hrow : ∀ (W' : World), (∀ b, b < wo.heap.size → W'.heap[b]? = wo.heap[b]?) → ∀ p, p < LL → Cells W' (ad.add (p * 32)) (bv ((levM seed n j).getD p [])) ∧ List.length (α := UInt8) ((levM seed n j).getD p []) = 32 := fun W' hW p hp => by
              have hp' : p < List.length (α := Dg) (levM seed n j) := by rw [hlj]; exact hp
              have := digs_at (w' := W') hallj (hcells.keep (hW _ (hfrl _ hFad))) hp'
              rw [show (levM seed n j).getD p [] = (levM seed n j)[p] by simp [List.getD, hp']]
              exact this
            have hup := fun i (h : i < L) => up_take (levM seed n j) (show i < List.length (α := Dg) (levM seed n j) / 2 by rw [hlj]; omega)
            have hul : List.length (α := Dg) (levM seed n (j + 1)) = L := by rw [HLL.out (j + 1) (by omega), hL]
            have hadl : ad.block < wo.heap.size := hfrl _ hFad
            have HADL := Lib.hid hadl
            have HROW := Lib.hid hrow
            have HUP := Lib.hid hup
            have HUL := Lib.hid hul
            have HLLE := Lib.hid hLL
            have HX := Lib.hid hx
            have HBG := Lib.hid hbg
            have HBT := Lib.hid hbt
            have HRO := Lib.hid hro
            have HWS := Lib.hid hws
            have HL := Lib.hid hL256
            have HPOS := Lib.hid hpos
            have hgt : (1 : Int) < (LL : Int) := by omega
            have hLLm : LL ≤ 512 := by omega
            clear hrow hup hul hLL hx hbg hbt hro hws hL256 hpos hL h2L hadl hFad hcells hfrl hallj hcj
            go_wp2_with fail
            go_loopw [9, 10] (fun nx ix wr3 => ∃ (i p : Nat), i ≤ L ∧ Hid (p = 2 * i) ∧ ix = .int .i64 (p : Int) ∧ Ext wo wr3 ∧ OwnD 52 wr3 nx ((levM seed n (j + 1)).take i) ∧ (∀ b, nx.ownBlock = some b → wo.heap.size ≤ b)) (fun _ ix _ => LL - (intOf ix).toNat)
            case atStart => exact ⟨0, 0, by omega, Lib.hid rfl, rfl, Ext.refl wo, ⟨by simp, Own.nil _ _ _⟩, by simp [Value.ownBlock]⟩
            case round =>
              obtain ⟨i, p, hi, hp, rfl, hx, hov, hfar⟩ := hrel
              by_cases hlt : i < L
              · have hpl2 : p + 1 < LL := by rw [hp.out, HLLE.out]; omega
                have hsame : ∀ b, b < wo.heap.size → wr.drew.heap[b]? = wo.heap[b]? := fun b hb => hx.block b hb (by simp)
                have hr1 := HROW.out wr.drew hsame p (by omega)
                have hr2 := HROW.out wr.drew hsame (p + 1) hpl2
                have hup := HUP.out i hlt
                rw [← hp.out] at hup
                have hlk : List.length (α := Dg) ((levM seed n (j + 1)).take i) = i := by rw [List.length_take, HUL.out]; omega
                have hlev : upM (levM seed n j) = levM seed n (j + 1) := rfl
                rw [hlev] at hup
                generalize (levM seed n j).getD p [] = d1 at *
                generalize (levM seed n j).getD (p + 1) [] = d2 at *
                have habv := fun W => Above d1 d2 hr1.2 hr2.2 W
                have hyl : (bv (aboveM d1 d2)).length = 32 := by rw [bv_length]; exact aboveM_length _ _
                have hyo := bv_one (aboveM d1 d2)
                have hyd := aboveM_length d1 d2
                obtain ⟨Yd, hYd⟩ : ∃ Yd : Dg, Yd = aboveM d1 d2 := ⟨_, rfl⟩
                rw [← hYd] at habv hup hyl hyo hyd
                obtain ⟨Y, hY⟩ : ∃ Y, Y = bv Yd := ⟨_, rfl⟩
                rw [← hY] at habv hyl hyo
                have h1l : (bv d1).length = 32 := by rw [bv_length]; exact hr1.2
                have h2l : (bv d2).length = 32 := by rw [bv_length]; exact hr2.2
                obtain ⟨Y1, hY1⟩ : ∃ Y1, Y1 = bv d1 := ⟨_, rfl⟩
                obtain ⟨Y2, hY2⟩ : ∃ Y2, Y2 = bv d2 := ⟨_, rfl⟩
                rw [← hY1] at h1l habv hr1
                rw [← hY2] at h2l habv hr2
                have how : Own wr.drew 52 32 u9 i (((levM seed n (j + 1)).take i).flatMap bv) := by have h := (hov.ext (Ext.refl wr).drew).2; rw [hlk] at h; exact h
                have HOW := Lib.hid how
                have HY := Lib.hid hY
                have HABV := Lib.hid habv
                have HUPK := Lib.hid hup
                have HLK := Lib.hid hlk
                have HYL := Lib.hid hyl
                have HYD := Lib.hid hyd
                have H1L := Lib.hid h1l
                have H2L := Lib.hid h2l
                have HR1 := Lib.hid hr1.1
                have HR2 := Lib.hid hr2.1
                have HX3 : Hid (Ext wo wr.drew) := Lib.hid hx.drew
                have HOV := Lib.hid hov
                have HFAR := Lib.hid hfar
                clear how hY hup hlk hyl hyd h1l h2l hr1 hr2 hx hov hfar hYd hY1 hY2 habv hsame hlev
                go_wp2_with fail
                refine startM (KeepB fun b => b < wo.heap.size) (by kernel_rfl) ?_
                (try simp only [Act.put, List.setIfInBounds_toArray, List.set_cons_succ, List.set_cons_zero])
                generalize wr.drew = w0 at *
                refine takeK 0 rfl (by kernel_rfl) (by kernel_rfl) (by kernel_rfl) rfl (fun _ _ _ _ h => h) rfl (fun K hK => ?_)
                go_big_quiet_op
                first | refine hK _ ?_ | refine ⟨_, fun _ _ => rfl, hK _ ?_⟩
                clear hK K
                refine takeK 1 rfl (by kernel_rfl) (by kernel_rfl) (by kernel_rfl) rfl (fun _ _ _ _ h => h) rfl (fun K hK => ?_)
                go_big_quiet_op
                first | refine hK _ ?_ | refine ⟨_, fun _ _ => rfl, hK _ ?_⟩
                clear hK K
                refine takeK 2 rfl (by kernel_rfl) (by kernel_rfl) (by kernel_rfl) rfl (fun _ _ _ _ h => h) rfl (fun K hK => ?_)
                go_big_quiet_op
                first | refine hK _ ?_ | refine ⟨_, fun _ _ => rfl, hK _ ?_⟩
                clear hK K
                refine takeK 3 rfl (by kernel_rfl) (by kernel_rfl) (by kernel_rfl) rfl (fun _ _ _ _ h => h) rfl (fun K hK => ?_)
                go_big_quiet_op
                first | refine hK _ ?_ | refine ⟨_, fun _ _ => rfl, hK _ ?_⟩
                clear hK K
                refine takeK 4 rfl (by kernel_rfl) (by kernel_rfl) (by kernel_rfl) rfl (fun _ _ _ _ h => h) rfl (fun K hK => ?_)
                refine quiet_agg 52 (.tmp 67) rfl _ rfl Y1 _ Try.underlying52 rfl (digest_size H1L.out) (fun W' h => KeepB.cells h HR1.out (by rw [add_block]; exact HADL.out)) ?_
                refine hK _ ?_
                simp only [Act.put, List.setIfInBounds_toArray, List.set_cons_succ, List.set_cons_zero]
                clear hK K
                refine takeK 5 rfl (by kernel_rfl) (by kernel_rfl) (by kernel_rfl) rfl (fun _ _ _ _ h => h) rfl (fun K hK => ?_)
                go_big_quiet_op
                first | refine hK _ ?_ | refine ⟨_, fun _ _ => rfl, hK _ ?_⟩
                clear hK K
                refine takeK 6 rfl (by kernel_rfl) (by kernel_rfl) (by kernel_rfl) rfl (fun _ _ _ _ h => h) rfl (fun K hK => ?_)
                go_big_quiet_op
                first | refine hK _ ?_ | refine ⟨_, fun _ _ => rfl, hK _ ?_⟩
                clear hK K
                refine takeK 7 rfl (by kernel_rfl) (by kernel_rfl) (by kernel_rfl) rfl (fun _ _ _ _ h => h) rfl (fun K hK => ?_)
                go_big_quiet_op
                first | refine hK _ ?_ | refine ⟨_, fun _ _ => rfl, hK _ ?_⟩
                clear hK K
                refine takeK 8 rfl (by kernel_rfl) (by kernel_rfl) (by kernel_rfl) rfl (fun _ _ _ _ h => h) rfl (fun K hK => ?_)
                go_big_quiet_op
                first | refine hK _ ?_ | refine ⟨_, fun _ _ => rfl, hK _ ?_⟩
                clear hK K
                refine takeK 9 rfl (by kernel_rfl) (by kernel_rfl) (by kernel_rfl) rfl (fun _ _ _ _ h => h) rfl (fun K hK => ?_)
                refine quiet_agg 52 (.tmp 72) rfl _ rfl Y2 _ Try.underlying52 rfl (digest_size H2L.out) (fun W' h => KeepB.cells h HR2.out (by rw [add_block]; exact HADL.out)) ?_
                refine hK _ ?_
                simp only [Act.put, List.setIfInBounds_toArray, List.set_cons_succ, List.set_cons_zero]
                clear hK K
                refine stepM 10 rfl (by kernel_rfl) rfl (fun K hK => ?_)
                go_simp
                refine (HABV.out _).mono ?_
                rintro e w6 ⟨rfl, hx6⟩
                refine hK _ _ (fun b hb => hx6.block b (Nat.lt_of_lt_of_le hb HX3.out.size) (by simp)) ?_
                clear hK K
                refine stepM 11 rfl (by kernel_rfl) rfl (fun K hK => ?_)
                refine wp_one w6 68 (.tmp 74) rfl 52 Y Try.underlying68 rfl (digest_size HYL.out) zEbTo05 (by rw [HYL.out]; decide) (by rw [HYL.out]; decide) ?_
                refine hK _ _ (fun b hb => ((Ext.refl w6).alloc _).block b (Nat.lt_of_lt_of_le hb (Nat.le_trans HX3.out.size hx6.size)) (by simp)) ?_
                clear hK K
                (try simp only [Act.put, List.setIfInBounds_toArray, List.set_cons_succ, List.set_cons_zero])
                refine stepM 12 rfl (by kernel_rfl) rfl (fun K hK => ?_)
                refine wp_app _ (.tmp 64) (.tmp 75) _ _ rfl 52 52 i1 z1 32 32 Try.underlying68 Try.underlying68 hi1 hz1 hi2 hi3 hi4 (by decide) u9 _ _ rfl ((HOW.out.ext hx6).ext ((Ext.refl w6).alloc _)) _ 1 1 Y rfl (by rw [HYL.out]) (src_at rfl Y _ 1) hyo (by have := HL.out; unfold maxLen; omega) (by have := HL.out; omega) ?_
                intro v7 w7 ho7 hm7
                obtain ⟨A7, c7, hv7⟩ := Own.form ho7
                subst hv7
                refine hK _ _ (fun b hb => hm7.grown.block b (by have h1 := HX3.out.size; have h2 := hx6.size; simp; omega) (fun e => by have h9 := HFAR.out b e.symm; omega)) ?_
                clear hK K
                (try simp only [Act.put, List.setIfInBounds_toArray, List.set_cons_succ, List.set_cons_zero])
                refine takeK 13 rfl (by kernel_rfl) (by kernel_rfl) (by kernel_rfl) rfl (fun _ _ _ _ h => h) rfl (fun K hK => ?_)
                go_big_quiet_op
                first | refine hK _ ?_ | refine ⟨_, fun _ _ => rfl, hK _ ?_⟩
                clear hK K
                refine doneM (by kernel_rfl) ?_ _
                have far7 : ∀ b, (Value.slice A7 (i + 1) c7).ownBlock = some b → wo.heap.size ≤ b := fun b hb => by
                  rcases hm7.at_ with e | hn
                  · exact HFAR.out b (e.symm.trans hb)
                  · have h1 := hn b hb
                    have h2 := HX3.out.size
                    have h3 := hx6.size
                    simp at h1
                    omega
                have hx9 : Ext wo w7 := grown_then ((HX3.out.trans hx6).alloc _) hm7.grown (.inr fun x hx => HFAR.out x hx)
                have ho9 : OwnD 52 w7 (.slice A7 (i + 1) c7) ((levM seed n (j + 1)).take (i + 1)) := by
                  rw [HUPK.out]
                  refine ⟨fun d hd => ?_, ?_⟩
                  · rcases List.mem_append.1 hd with hd | hd
                    · exact HOV.out.1 d hd
                    · rw [List.mem_singleton.1 hd]; exact HYD.out
                  · have e1 : (((levM seed n (j + 1)).take i) ++ [Yd]).flatMap bv = (((levM seed n (j + 1)).take i)).flatMap bv ++ Y := by rw [HY.out]; simp
                    have e2 : List.length (α := Dg) (((levM seed n (j + 1)).take i) ++ [Yd]) = i + 1 := by rw [List.length_append, HLK.out]; rfl
                    rw [e1, e2]
                    exact ho7
                have HX9 := Lib.hid hx9
                have HO9 := Lib.hid ho9
                have HF9 := Lib.hid far7
                clear hx9 ho9 far7 hm7 ho7 hx6
                (try simp only [Exit.inBlock, Exit.then])
                go_wp2_with fail
                go_roundw
                case rel => exact ⟨i + 1, p + 2, by omega, Lib.hid (by rw [hp.out]; omega), by go_num, HX9.out, HO9.out, HF9.out⟩
                case measure => simp [intOf]; omega
              · obtain rfl : i = L := by omega
                have hpe : p = LL := by rw [hp.out, HLLE.out]
                subst hpe
                have htk : (levM seed n (j + 1)).take i = levM seed n (j + 1) := List.take_of_length_le (by rw [HUL.out]; exact Nat.le_refl _)
                rw [htk] at hov
                obtain ⟨A9, c9, hv9⟩ := hov.2.form
                rw [HUL.out] at hv9
                subst hv9
                obtain ⟨i2, z2, hq1, hq2, hq3, hq4, hq5⟩ := partsRow
                have hxa : Ext wo (wr.alloc (.cells #[Value.slice A9 i c9] 68)) := hx.alloc _
                have hro6 := HRO.out.ext hxa
                obtain ⟨vals, hown, hvals⟩ := hro6.own
                have hlen : ((levsM seed n).take (j + 1)).length = j + 1 := by simp [levsM]; omega
                rw [hlen] at hown
                have hcr := ((HBG.out.keep hx (by simp)).cell 33).trans (ringC_rows HSEED.out n rv _)
                have hbg6 := HBG.out.keep hxa (by simp)
                have hbt6 := HBT.out.keep hxa (by simp)
                have hrvn : rv.ownBlock ≠ some g := fun e => by have := hro6.rb g e; have := hgW; omega
                have hrvt : rv.ownBlock ≠ some tb := fun e => by have := hro6.rb tb e; have := hgW; omega
                have HOWN := Lib.hid hown
                have HVALS := Lib.hid hvals
                have HRO6 := Lib.hid hro6
                have HBG6 := Lib.hid hbg6
                have HBT6 := Lib.hid hbt6
                have HXA := Lib.hid hxa
                have HOV := Lib.hid hov
                have HFAR := Lib.hid hfar
                have HXI := Lib.hid hx
                clear hown hvals hro6 hbg6 hbt6 hxa hov hfar htk hlen hx
                go_wp2_with (first
                  | ((with_reducible refine wpDst 55 rfl ?_)
                     go_must (refine wpList_app _ rfl (.tmp 52) (.tmp 54) _ _ rfl 68 68 i2 z2 1 24 Try.underlying105 Try.underlying105 hq1 hq2 hq3 hq4 hq5 (by decide) rv _ _ rfl HOWN.out _ 1 1 [Value.slice A9 i c9] rfl rfl (src_at rfl [Value.slice A9 i c9] _ 1) (by simp [Value.oneCell']) (by unfold maxLen; omega) (by omega) ?_)
                     intro v7 w7 ho7 hm7
                     obtain ⟨A7, c7, hv7⟩ := Own.form ho7
                     subst hv7
                     have hbg7 := HBG6.out.keep hm7.grown (fun e => hrvn e.symm)
                     have s33 := (hbg7.cell 33).trans (ringC_rows HSEED.out n rv _)
                     have f33 := hbg7.free 33
                     have HM7 := Lib.hid hm7
                     have HO7 := Lib.hid ho7
                     have HBG7 := Lib.hid hbg7
                     clear hm7 ho7 hbg7)
                  | fail)
                have hnv : ∀ b, (Value.slice A9 i c9).ownBlock = some b → W.heap.size ≤ b ∧ b < (wr.alloc (.cells #[Value.slice A9 i c9] 68)).heap.size ∧ rv.ownBlock ≠ some b := fun b hb => by
                  have h1 := HFAR.out b hb
                  have h2 := HOV.out.lt b hb
                  have h3 := HWS.out
                  refine ⟨by omega, by simp; omega, fun e => ?_⟩
                  have h4 := World.ownsRow.lt HRO.out.own.choose_spec.1 b e
                  have h5 := h4.2
                  omega
                have hro7 := HRO6.out.app HM7.out HVALS.out (by rw [show ((levsM seed n).take (j + 1)).length = j + 1 by simp [levsM]; omega]; exact HO7.out) ((HOV.out.ext ((Ext.refl wr).alloc (.cells #[Value.slice A9 i c9] 68))).holds) hnv (by have h1 := HWS.out; have h2 := HXI.out.size; simp; omega)
                rw [← levs_succ seed n j hjn] at hro7
                have hgw7 : ∀ b, (Fr b ∨ (Value.slice A9 i c9).ownBlock = some b) → some b ≠ some g := fun b hb e => by
                  have h1 := (hro7.fr b hb).1
                  have h2 := hgW
                  simp at e; omega
                have hro8 := hro7.keep (only_set (g := g) 33 (.slice A7 (j + 1 + 1) c7)) hgw7 (.inr (fun e => by have h1 := hro7.rb g e; have := hgW; omega))
                have hwy7 : Ways w7 (fun b => (Value.slice A9 i c9).ownBlock = some b) (.slice A9 i c9) (levM seed n (j + 1)) :=
                  Ty.keep (t := .sl DigT) (fun b hb => HM7.out.grown.block b (hnv b hb).2.1 (fun e => (hnv b hb).2.2 e.symm)) (fun _ h => h) ((HOV.out.ext ((Ext.refl wr).alloc (.cells #[Value.slice A9 i c9] 68))).holds)
                have hwy8 : Ways (w7.setCell ⟨g, 33, none⟩ (.slice A7 (j + 1 + 1) c7)) (fun b => Fr b ∨ (Value.slice A9 i c9).ownBlock = some b) (.slice A9 i c9) (levM seed n (j + 1)) :=
                  Ty.keep (t := .sl DigT) (fun b hb => (only_set (g := g) 33 (.slice A7 (j + 1 + 1) c7)).block b (hro7.fr b (.inr hb)).2.1 (hgw7 b (.inr hb))) (fun _ h => .inr h) hwy7
                have hbg8 := HBG7.out.set 33 (.slice A7 (j + 1 + 1) c7)
                rw [ringC_set HSEED.out] at hbg8
                have hbt8 := (HBT6.out.keep HM7.out.grown (fun e => hrvt e.symm)).keep (only_set (g := g) 33 (.slice A7 (j + 1 + 1) c7)) (by simp; omega)
                have hx8 : Ext w (w7.setCell ⟨g, 33, none⟩ (.slice A7 (j + 1 + 1) c7)) := Ext.setCell (grown_then (HX.out.trans HXA.out) HM7.out.grown (.inr fun b hb => by have h1 := HRO6.out.rb b hb; omega)) (by show w.heap.size ≤ g; omega) _
                have hws8 : W.heap.size ≤ (w7.setCell ⟨g, 33, none⟩ (.slice A7 (j + 1 + 1) c7)).heap.size := by
                  have h1 := HWS.out
                  have h2 := HXA.out.size
                  have h3 := HM7.out.grown.size
                  have h4 := (only_set (w := w7) (g := g) 33 (.slice A7 (j + 1 + 1) c7)).size
                  omega
                have HRO8 := Lib.hid hro8
                have HWY8 := Lib.hid hwy8
                have HBG8 := Lib.hid hbg8
                have HBT8 := Lib.hid hbt8
                have HX8 := Lib.hid hx8
                have HWS8 := Lib.hid hws8
                clear hnv hro7 hro8 hgw7 hwy7 hwy8 hbg8 hbt8 hx8 hws8 s33 f33
                generalize w7.setCell ⟨g, 33, none⟩ (.slice A7 (j + 1 + 1) c7) = w8 at *
                go_roundw
                case rel => exact ⟨j + 1, _, _, by omega, HWY8.out, HX8.out, HBG8.out, HBT8.out, HRO8.out, HWS8.out, ⟨_, rfl⟩, _, rfl⟩
                case measure => simp [lenOf]; have := HLLE.out; omega
          · obtain rfl : j = n := by omega
            rw [Nat.sub_self, Nat.pow_zero] at hlj
            rw [hlj]
            have hls : (levsM seed j).take (j + 1) = levsM seed j := List.take_of_length_le (by simp [levsM])
            rw [hls] at hro
            have hke := HNE.out
            have hrl : ∀ b, rv.ownBlock = some b → b < wo.heap.size := fun b hb => (World.ownsRow.lt hro.own.choose_spec.1 b hb).2
            have hring : RingAt wo g tb (fun b => Fr b ∨ rv.ownBlock = some b) rv seed j (List.replicate (2 ^ j) false) := by
              rw [hke] at hbg hbt
              refine ⟨hbg, hbt, hro.holds, by omega, fun b hb => ?_, by simp, hn, HSEED.out⟩
              rcases hb with hb | hb
              · have h1 := hro.fr b hb
                exact ⟨h1.2.1, by omega, by omega⟩
              · have h1 := hro.rb b hb
                exact ⟨hrl b hb, by omega, by omega⟩
            have hall : ∀ b, (Fr b ∨ rv.ownBlock = some b) → w.heap.size ≤ b := fun b hb => by
              rcases hb with hb | hb
              · have := (hro.fr b hb).1; omega
              · have := hro.rb b hb; omega
            have HRING := Lib.hid hring
            have HALL := Lib.hid hall
            have HX := Lib.hid hx
            clear hring hall hx hro hbg hbt hwy hls hke hrl hws hfrl hallj hcj
            go_wp2_with fail
            go_ret2
            exact ⟨g, tb, _, rv, rfl, HRING.out, HX.out, by omega, by omega, HALL.out⟩
end
section
open Go.RowKit
theorem szPieceFrom04 {n : Nat} (h : n = 16) : (Try.prog.info? 64).map (·.size) = some n := by subst h; kernel_rfl
theorem szPieceBFrom04 {n : Nat} (h : n = 16) : (Try.prog.info? 81).map (·.size) = some n := by subst h; kernel_rfl
theorem szSigFrom04 {n : Nat} (h : n = 1024) : (Try.prog.info? 84).map (·.size) = some n := by subst h; kernel_rfl
theorem zSigFrom04 : (Try.prog.info? 84).bind (fun i => i.zero.map (·.cells)) = some (List.replicate 1024 (Value.int .u8 0)).toArray := by kernel_rfl
set_option maxRecDepth 100000 in
set_option maxHeartbeats 4000000 in
theorem From04 (C : List Value) (w : World) (hC : C.length = 1024) (hone : ∀ u ∈ C, u.oneCell' = true) :
    Calls Try.prog 42 #[.agg C.toArray] w fun e w' => e = .returned (.agg C.toArray) ∧ Ext w w' := by
  obtain ⟨Z, hz, hzl, hzo⟩ : ∃ Z : List Value, (Try.prog.info? 84).bind (fun i => i.zero.map (·.cells)) = some Z.toArray ∧ Z.length = 1024 ∧ ∀ u ∈ Z, u.oneCell' = true := ⟨_, zSigFrom04, List.length_replicate, fun u hu => by rw [List.eq_of_mem_replicate hu]; rfl⟩
  have HCL := Lib.hid hC
  have HZL := Lib.hid hzl
  have HZO := Lib.hid hzo
  have hb1 : Blk (((w.alloc (.cells C.toArray 67)).alloc (.cells Z.toArray 84)).alloc (.cells Z.toArray 84)) w.heap.size 67 C := ((Blk.new _ _ _).keep ((Ext.refl _).alloc _) (by simp)).keep ((Ext.refl _).alloc _) (by simp)
  have hb2 : Blk (((w.alloc (.cells C.toArray 67)).alloc (.cells Z.toArray 84)).alloc (.cells Z.toArray 84)) (w.heap.size + 1) 84 Z := (Blk.fresh (by simp) _ _).keep ((Ext.refl _).alloc _) (by simp)
  have hb3 : Blk (((w.alloc (.cells C.toArray 67)).alloc (.cells Z.toArray 84)).alloc (.cells Z.toArray 84)) (w.heap.size + 2) 84 Z := Blk.fresh (by simp) _ _
  have hx0 : Ext w (((w.alloc (.cells C.toArray 67)).alloc (.cells Z.toArray 84)).alloc (.cells Z.toArray 84)) := (((Ext.refl w).alloc _).alloc _).alloc _
  have HB1 := Lib.hid hb1
  have HB2 := Lib.hid hb2
  have HB3 := Lib.hid hb3
  have HX0 := Lib.hid hx0
  clear hb1 hb2 hb3 hx0 hC hzl hzo
  go_enter Try.func42, Try.ntmps42
  go_wp2_with (first
    | (refine wpList_alloc _ rfl 84 rfl _ hz ?_)
    | fail)
  go_loopw [4, 5] (fun p i wr => ∃ k : Nat, k ≤ 32 ∧ i = .int .i64 k ∧ Ext w wr ∧ Blk wr w.heap.size 67 C ∧ Blk wr (w.heap.size + 1) 84 Z ∧ Blk wr (w.heap.size + 2) 84 (mixAt C Z k) ∧ ∃ q, p = q) (fun _ i _ => 32 - (intOf i).toNat)
  case atStart => exact ⟨0, by omega, rfl, HX0.out, HB1.out, HB2.out, by rw [mixAt_zero C Z HCL.out HZL.out]; exact HB3.out, _, rfl⟩
  case round =>
    clear HX0 HB1 HB2 HB3
    obtain ⟨k, hk, rfl, hx, hb1, hb2, hb3, q, rfl⟩ := hrel
    by_cases hlt : k < 32
    · have HX := Lib.hid hx
      have HB1 := Lib.hid hb1
      have HB2 := Lib.hid hb2
      have HB3 := Lib.hid hb3
      clear hx hb1 hb2 hb3
      go_wp2
      have hx : Ext w wr.drew := HX.out.drew
      have hb1 : Blk wr.drew w.heap.size 67 C := HB1.out
      have hb2 : Blk wr.drew (w.heap.size + 1) 84 Z := HB2.out
      have hb3 : Blk wr.drew (w.heap.size + 2) 84 (mixAt C Z k) := HB3.out
      refine startM (KeepB fun b => b = w.heap.size) (by kernel_rfl) ?_
      (try simp only [Act.put, List.setIfInBounds_toArray, List.set_cons_succ, List.set_cons_zero])
      generalize wr.drew = w0 at *
      have hk1 : Cells w0 ⟨w.heap.size, k * 16, none⟩ ((C.drop (k * 16)).take 16) := by have h := (hb1.cells.drop (k * 16)).take 16; rw [addr_at] at h; exact h
      have hk2 : Cells w0 ⟨w.heap.size, 512 + k * 16, none⟩ ((C.drop (512 + k * 16)).take 16) := by have h := (hb1.cells.drop (512 + k * 16)).take 16; rw [addr_at] at h; exact h
      have hp1 := piece_len HCL.out (o := k * 16) (by omega)
      have hp2 := piece_len HCL.out (o := 512 + k * 16) (by omega)
      have hst := mixAt_step C Z HCL.out HZL.out k hlt
      have ho1 : ∀ u ∈ (C.drop (k * 16)).take 16, u.oneCell' = true := fun u hu => hone u (List.mem_of_mem_drop (List.mem_of_mem_take hu))
      have ho2 : ∀ u ∈ (C.drop (512 + k * 16)).take 16, u.oneCell' = true := fun u hu => hone u (List.mem_of_mem_drop (List.mem_of_mem_take hu))
      generalize (C.drop (k * 16)).take 16 = P1 at *
      generalize (C.drop (512 + k * 16)).take 16 = P2 at *
      have HX := Lib.hid hx
      have HB1 := Lib.hid hb1
      have HB2 := Lib.hid hb2
      have HB3 := Lib.hid hb3
      have HK1 := Lib.hid hk1
      have HK2 := Lib.hid hk2
      have HP1 := Lib.hid hp1
      have HP2 := Lib.hid hp2
      have HST := Lib.hid hst
      have HO1 := Lib.hid ho1
      have HO2 := Lib.hid ho2
      clear hx hb1 hb2 hb3 hk1 hk2 hp1 hp2 hst ho1 ho2
      refine takeK 0 rfl (by kernel_rfl) (by kernel_rfl) (by kernel_rfl) rfl (fun _ _ _ _ h => h) rfl (fun K hK => ?_)
      go_big_quiet_op
      first | refine hK _ ?_ | refine ⟨_, fun _ _ => rfl, hK _ ?_⟩
      clear hK K
      refine takeK 1 rfl (by kernel_rfl) (by kernel_rfl) (by kernel_rfl) rfl (fun _ _ _ _ h => h) rfl (fun K hK => ?_)
      go_big_quiet_op
      first | refine hK _ ?_ | refine ⟨_, fun _ _ => rfl, hK _ ?_⟩
      clear hK K
      refine takeK 2 rfl (by kernel_rfl) (by kernel_rfl) (by kernel_rfl) rfl (fun _ _ _ _ h => h) rfl (fun K hK => ?_)
      go_big_quiet_op
      first | refine hK _ ?_ | refine ⟨_, fun _ _ => rfl, hK _ ?_⟩
      clear hK K
      refine takeK 3 rfl (by kernel_rfl) (by kernel_rfl) (by kernel_rfl) rfl (fun _ _ _ _ h => h) rfl (fun K hK => ?_)
      go_big_quiet_op
      first | refine hK _ ?_ | refine ⟨_, fun _ _ => rfl, hK _ ?_⟩
      clear hK K
      refine takeK 4 rfl (by kernel_rfl) (by kernel_rfl) (by kernel_rfl) rfl (fun _ _ _ _ h => h) rfl (fun K hK => ?_)
      go_big_quiet_op
      first | refine hK _ ?_ | refine ⟨_, fun _ _ => rfl, hK _ ?_⟩
      clear hK K
      refine takeK 5 rfl (by kernel_rfl) (by kernel_rfl) (by kernel_rfl) rfl (fun _ _ _ _ h => h) rfl (fun K hK => ?_)
      refine quiet_agg 64 (.tmp 12) rfl _ rfl P1 _ Try.underlying64 rfl (szPieceFrom04 HP1.out) (fun W' h => KeepB.cells h HK1.out rfl) ?_
      refine hK _ ?_
      simp only [Act.put, List.setIfInBounds_toArray, List.set_cons_succ, List.set_cons_zero]
      clear hK K
      refine takeK 6 rfl (by kernel_rfl) (by kernel_rfl) (by kernel_rfl) rfl (fun _ _ _ _ h => h) rfl (fun K hK => ?_)
      go_big_quiet_op
      first | refine hK _ ?_ | refine ⟨_, fun _ _ => rfl, hK _ ?_⟩
      clear hK K
      refine takeK 7 rfl (by kernel_rfl) (by kernel_rfl) (by kernel_rfl) rfl (fun _ _ _ _ h => h) rfl (fun K hK => ?_)
      go_big_quiet_op
      first | refine hK _ ?_ | refine ⟨_, fun _ _ => rfl, hK _ ?_⟩
      clear hK K
      refine takeK 8 rfl (by kernel_rfl) (by kernel_rfl) (by kernel_rfl) rfl (fun _ _ _ _ h => h) rfl (fun K hK => ?_)
      go_big_quiet_op
      first | refine hK _ ?_ | refine ⟨_, fun _ _ => rfl, hK _ ?_⟩
      clear hK K
      refine takeK 9 rfl (by kernel_rfl) (by kernel_rfl) (by kernel_rfl) rfl (fun _ _ _ _ h => h) rfl (fun K hK => ?_)
      refine quiet_agg 64 (.tmp 16) rfl _ rfl P2 _ Try.underlying64 rfl (szPieceFrom04 HP2.out) (fun W' h => KeepB.cells h HK2.out rfl) ?_
      refine hK _ ?_
      simp only [Act.put, List.setIfInBounds_toArray, List.set_cons_succ, List.set_cons_zero]
      clear hK K
      refine takeK 10 rfl (by kernel_rfl) (by kernel_rfl) (by kernel_rfl) rfl (fun _ _ _ _ h => h) rfl (fun K hK => ?_)
      go_big_quiet_op
      first | refine hK _ ?_ | refine ⟨_, fun _ _ => rfl, hK _ ?_⟩
      clear hK K
      refine takeK 11 rfl (by kernel_rfl) (by kernel_rfl) (by kernel_rfl) rfl (fun _ _ _ _ h => h) rfl (fun K hK => ?_)
      go_big_quiet_op
      first | refine hK _ ?_ | refine ⟨_, fun _ _ => rfl, hK _ ?_⟩
      clear hK K
      refine takeK 13 rfl (by kernel_rfl) (by kernel_rfl) (by kernel_rfl) rfl (fun _ _ _ _ h => h) rfl (fun K hK => ?_)
      go_big_quiet_op
      first | refine hK _ ?_ | refine ⟨_, fun _ _ => rfl, hK _ ?_⟩
      clear hK K
      refine stepM 12 rfl (by kernel_rfl) rfl (fun K hK => ?_)
      refine wp_store_part w0 81 (.tmp 19) (.tmp 13) rfl (w.heap.size + 2) (k * 16) rfl (mixAt C Z k) P1 _ rfl HB3.out (szPieceBFrom04 HP1.out) (by rw [mixAt_len, HP1.out]; omega) HO1.out ?_
      refine hK _ _ (fun b hb => (setRow_only _).block b (by have := HB1.out.lt; rcases hb with rfl; exact this) (by rcases hb with rfl; simp)) ?_
      clear hK K
      (try simp only [Act.put, List.setIfInBounds_toArray, List.set_cons_succ, List.set_cons_zero])
      refine takeK 14 rfl (by kernel_rfl) (by kernel_rfl) (by kernel_rfl) rfl (fun _ _ _ _ h => h) rfl (fun K hK => ?_)
      go_big_quiet_op
      first | refine hK _ ?_ | refine ⟨_, fun _ _ => rfl, hK _ ?_⟩
      clear hK K
      refine stepM 15 rfl (by kernel_rfl) rfl (fun K hK => ?_)
      refine wp_store_part _ 81 (.tmp 21) (.tmp 17) rfl (w.heap.size + 2) (512 + k * 16) rfl (putAt (mixAt C Z k) (k * 16) P1) P2 _ rfl (setRow_at HB3.out) (szPieceBFrom04 HP2.out) (by rw [putAt_len (by rw [mixAt_len, HP1.out]; omega), mixAt_len, HP2.out]; omega) HO2.out ?_
      refine hK _ _ (fun b hb => (setRow_only _).block b (by have := HB1.out.lt; rcases hb with rfl; simpa [World.setRow] using this) (by rcases hb with rfl; simp)) ?_
      clear hK K
      (try simp only [Act.put, List.setIfInBounds_toArray, List.set_cons_succ, List.set_cons_zero])
      refine doneM (by kernel_rfl) ?_ _
      have hx9 : Ext w ((w0.setRow (w.heap.size + 2) (putAt (mixAt C Z k) (k * 16) P1).toArray).setRow (w.heap.size + 2) (putAt (putAt (mixAt C Z k) (k * 16) P1) (512 + k * 16) P2).toArray) := grown_then (grown_then HX.out (setRow_only _) (.inr (by rintro b ⟨⟩; omega))) (setRow_only _) (.inr (by rintro b ⟨⟩; omega))
      have hb1 : Blk ((w0.setRow (w.heap.size + 2) (putAt (mixAt C Z k) (k * 16) P1).toArray).setRow (w.heap.size + 2) (putAt (putAt (mixAt C Z k) (k * 16) P1) (512 + k * 16) P2).toArray) w.heap.size 67 C := (HB1.out.keep (setRow_only _) (by simp)).keep (setRow_only _) (by simp)
      have hb2 : Blk ((w0.setRow (w.heap.size + 2) (putAt (mixAt C Z k) (k * 16) P1).toArray).setRow (w.heap.size + 2) (putAt (putAt (mixAt C Z k) (k * 16) P1) (512 + k * 16) P2).toArray) (w.heap.size + 1) 84 Z := (HB2.out.keep (setRow_only _) (by simp)).keep (setRow_only _) (by simp)
      have hb3 : Blk ((w0.setRow (w.heap.size + 2) (putAt (mixAt C Z k) (k * 16) P1).toArray).setRow (w.heap.size + 2) (putAt (putAt (mixAt C Z k) (k * 16) P1) (512 + k * 16) P2).toArray) (w.heap.size + 2) 84 (mixAt C Z (k + 1)) := by rw [← HST.out]; exact setRow_at (setRow_at HB3.out)
      generalize World.setRow _ _ _ = w9 at *
      have HX9 := Lib.hid hx9
      have HB91 := Lib.hid hb1
      have HB92 := Lib.hid hb2
      have HB93 := Lib.hid hb3
      clear hx9 hb1 hb2 hb3
      go_wp2
      go_roundw
      case rel => exact ⟨k + 1, by omega, by go_num, HX9.out, HB91.out, HB92.out, HB93.out, _, rfl⟩
      case measure => simp [intOf]; omega
    · obtain rfl : k = 32 := by omega
      rw [mixAt_all C Z HCL.out HZL.out] at hb3
      have hcm := hb3.cells
      have hr2 : wr.heap[w.heap.size + 1]? = some (.cells Z.toArray 84 (0, 0)) := hb2
      have HX := Lib.hid hx
      clear hx hb1 hb2 hb3
      go_wp2_with (first
        | (refine wpList_load_agg _ rfl 84 (.tmp 3) rfl _ rfl C _ Try.underlying84 rfl (szSigFrom04 HCL.out) hcm ?_)
        | (refine wpList_store_row _ rfl 84 (.tmp 2) (.tmp 23) rfl (w.heap.size + 1) rfl Z C _ rfl hr2 (szSigFrom04 HCL.out) (by rw [HCL.out, HZL.out]) hone ?_)
        | fail)
      have hc9 := Blk.cells (t := 84) (setRow_at (cs' := C.toArray) hr2)
      (try simp only [Exit.inBlock, Exit.then])
      refine bodyPost_ret (results_agg rfl _ _ _ _ _ rfl Try.underlying84 rfl (szSigFrom04 HCL.out) hc9) rfl ?_
      exact ⟨rfl, grown_then HX.out (setRow_only _) (.inr (by rintro b ⟨⟩; omega))⟩
theorem szInFrom05 {n : Nat} (h : n = 1024) : (Try.prog.info? 67).map (·.size) = some n := by subst h; kernel_rfl
theorem szOutFrom05 {n : Nat} (h : n = 1026) : (Try.prog.info? 87).map (·.size) = some n := by subst h; kernel_rfl
theorem szElFrom05 {n : Nat} (h : n = 32) : (Try.prog.info? 52).map (·.size) = some n := by subst h; kernel_rfl
theorem szEbFrom05 {n : Nat} (h : n = 32) : (Try.prog.info? 28).map (·.size) = some n := by subst h; kernel_rfl
theorem zElFrom05 : (Try.prog.info? 52).bind (fun i => i.zero.map (·.cells)) = some (List.replicate 32 (Value.int .u8 0)).toArray := by kernel_rfl
theorem zEbFrom05 : ((Try.prog.info? 28).bind (·.zero)).isSome = true := by kernel_rfl
theorem zOutFrom05 : (Try.prog.info? 87).bind (fun i => i.zero.map (·.cells)) = some (List.replicate 1024 (Value.int .u8 0) ++ [Value.int .u32 0, Value.slice none 0 0]).toArray := by kernel_rfl
theorem fieldsFrom05 : ∃ fields, Try.prog.underlying 87 = some (.struct fields) ∧ fields.toList.mapM (fun f => (Try.prog.info? f.type).map fun i => (f.offset, i.size)) = some [(0, 1024), (1024, 1), (1025, 1)] :=
  ⟨_, Try.underlying87, by kernel_rfl⟩
theorem partsFrom05 : ∃ (i : TypeInfo) (z : Value), Try.prog.info? 28 = some i ∧ i.zero = some z ∧ i.size = 32 ∧ i.bytes = 32 ∧ z.cells.size = 32 := by
  have h : ((Try.prog.info? 28).bind fun i => i.zero.map fun z => (i.size, i.bytes, z.cells.size)) = some (32, 32, 32) := by kernel_rfl
  obtain ⟨i, hi, h2⟩ := Option.bind_eq_some_iff.1 h
  obtain ⟨z, hz, h3⟩ := Option.map_eq_some_iff.1 h2
  have h4 : i.size = 32 ∧ i.bytes = 32 ∧ z.cells.size = 32 := by simpa using h3
  exact ⟨i, z, hi, hz, h4⟩
set_option maxRecDepth 100000 in
set_option maxHeartbeats 8000000 in
theorem From05 (C : List Value) (key : Nat) (u : Value) (ds : List Dg) (w : World) (F : Fp) (hC : C.length = 1024) (hone : ∀ u ∈ C, u.oneCell' = true) (hc : Ways w F u ds) (hF : ∀ b, F b → b < w.heap.size) (hlen : List.length (α := Dg) ds ≤ 1099511627776) :
    Calls Try.prog 21 #[.agg (sigC C key u).toArray] w fun e w' => ∃ v, e = .returned (.agg (sigC C key v).toArray) ∧ OwnD 28 w' v ds ∧ Ext w w' ∧ ∀ b, v.ownBlock = some b → w.heap.size ≤ b := by
  obtain ⟨i1, z1, hi1, hz1, hi2, hi3, hi4⟩ := partsFrom05
  obtain ⟨fields, hfu, hfp⟩ := fieldsFrom05
  obtain ⟨A, c, xs, rfl, hlc, hcm, hA, hcell, hall⟩ := ways_open hc
  clear hc
  unfold maxLen at hcm
  obtain ⟨ZR, hzr, hzl, hfl⟩ : ∃ ZR : List Value, (Try.prog.info? 87).bind (fun i => i.zero.map (·.cells)) = some ZR.toArray ∧ ZR.length = 1026 ∧ fillL ([(0, 1024), (1024, 1), (1025, 1)].toArray[·]?) ZR [(0, C), (1, [.int .u32 (key : Int)])] = some (sigC C key (.slice none 0 0)) := by
    refine ⟨_, zOutFrom05, by simp, ?_⟩
    simp [fillL, hC, sigC, List.drop_append]
  obtain ⟨ZE, hze, hzel⟩ : ∃ ZE : List Value, (Try.prog.info? 52).bind (fun i => i.zero.map (·.cells)) = some ZE.toArray ∧ ZE.length = 32 := ⟨_, zElFrom05, List.length_replicate⟩
  have HCL := Lib.hid hC
  have HZL := Lib.hid hzl
  have HFL := Lib.hid hfl
  have HZE := Lib.hid hzel
  generalize hU : Value.slice A (List.length (α := Dg) ds) c = u at *
  have hb1 : Blk ((w.alloc (.cells (sigC C key u).toArray 70)).alloc (.cells ZR.toArray 87)) w.heap.size 70 (sigC C key u) := (Blk.new _ _ _).keep ((Ext.refl _).alloc _) (by simp)
  have hb2 : Blk ((w.alloc (.cells (sigC C key u).toArray 70)).alloc (.cells ZR.toArray 87)) (w.heap.size + 1) 87 ZR := Blk.fresh (by simp) _ _
  have hx0 : Ext w ((w.alloc (.cells (sigC C key u).toArray 70)).alloc (.cells ZR.toArray 87)) := ((Ext.refl w).alloc _).alloc _
  have hsl : (sigC C key u)[1025]? = some (.slice A (List.length (α := Dg) ds) c) := by rw [hU]; exact sigC_way hC key u
  have hky := sigC_key hC key u
  have htk := sigC_take hC key u
  have hsl9 := sigC_len hC key u
  generalize sigC C key u = SC at *
  have HSL := Lib.hid hsl
  have HKEY := Lib.hid hky
  have HTK := Lib.hid htk
  have HB1 := Lib.hid hb1
  have HB2 := Lib.hid hb2
  have HX0 := Lib.hid hx0
  clear hC hzl hfl hzel hb1 hb2 hx0 hsl hky htk hU
  go_enter Try.func21, Try.ntmps21
  go_wp2_with (first
    | (refine wpList_alloc _ rfl 87 rfl _ hzr ?_)
    | fail)
  have hx : Ext w ((w.alloc (.cells SC.toArray 70)).alloc (.cells ZR.toArray 87)).drew := HX0.out.drew
  have hb1 : Blk ((w.alloc (.cells SC.toArray 70)).alloc (.cells ZR.toArray 87)).drew w.heap.size 70 SC := HB1.out
  have hb2 : Blk ((w.alloc (.cells SC.toArray 70)).alloc (.cells ZR.toArray 87)).drew (w.heap.size + 1) 87 ZR := HB2.out
  refine startM (KeepB fun b => b < ((w.alloc (.cells SC.toArray 70)).alloc (.cells ZR.toArray 87)).drew.heap.size) (by kernel_rfl) ?_
  (try simp only [Act.put, List.setIfInBounds_toArray, List.set_cons_succ, List.set_cons_zero])
  generalize ((w.alloc (.cells SC.toArray 70)).alloc (.cells ZR.toArray 87)).drew = w0 at *
  have hcc : Cells w0 ⟨w.heap.size, 0, none⟩ C := by have h := hb1.cells.take 1024; rw [HTK.out] at h; exact h
  have hky : w0.cell? ⟨w.heap.size, 1024, none⟩ = some (.int .u32 (key : Int)) := (hb1.cell 1024).trans HKEY.out
  have HBL := Lib.hid hb1.lt
  have HCC := Lib.hid hcc
  have HKY := Lib.hid hky
  have HB1 := Lib.hid hb1
  have HB2 := Lib.hid hb2
  have HX := Lib.hid hx
  have hJ := AJ.start w0 87 ZR
  have HJ := Lib.hid hJ
  clear hx hb1 hb2 hcc hky hJ
  apply sharedA (fun g W => AJ w0 87 ZR (some g) W)
  · intro hM
    refine takeK 0 rfl (by kernel_rfl) (by kernel_rfl) (by kernel_rfl) rfl (fun _ _ _ _ h => h) rfl (fun K hK => ?_)
    go_big_quiet_op
    first | refine hK _ ?_ | refine ⟨_, fun _ _ => rfl, hK _ ?_⟩
    clear hK K
    refine takeK 1 rfl (by kernel_rfl) (by kernel_rfl) (by kernel_rfl) rfl (fun _ _ _ _ h => h) rfl (fun K hK => ?_)
    refine quiet_agg 67 (.tmp 6) rfl _ rfl C _ Try.underlying67 rfl (szInFrom05 HCL.out) (fun W' h => KeepB.cells h HCC.out HBL.out) ?_
    refine hK _ ?_
    simp only [Act.put, List.setIfInBounds_toArray, List.set_cons_succ, List.set_cons_zero]
    clear hK K
    refine takeK 3 rfl (by kernel_rfl) (by kernel_rfl) (by kernel_rfl) rfl (fun _ _ _ _ h => h) rfl (fun K hK => ?_)
    go_big_quiet_op
    first | refine hK _ ?_ | refine ⟨_, fun _ _ => rfl, hK _ ?_⟩
    clear hK K
    refine takeK 4 rfl (by kernel_rfl) (by kernel_rfl) (by kernel_rfl) rfl (fun _ _ _ _ h => h) rfl (fun K hK => ?_)
    refine quiet_cell _ _ rfl _ rfl _ _ Try.underlying22 rfl (fun W' h => KeepB.cell h HKY.out HBL.out) ?_
    refine hK _ ?_
    simp only [Act.put, List.setIfInBounds_toArray, List.set_cons_succ, List.set_cons_zero]
    clear hK K
    refine bothM 2 6 rfl rfl (by kernel_rfl) rfl rfl (fun K hK => ?_) (fun K hK => ?_)
    · go_simp
      refine (From04 C _ HCL.out hone).mono ?_
      rintro e w6 ⟨rfl, hx6⟩
      have hkb := (HJ.out.step hx6).2
      have HJ := Lib.hid (HJ.out.step hx6).1
      refine hK _ _ (hkb) ?_
      clear hK K
      refine takeK 5 rfl (by kernel_rfl) (by kernel_rfl) (by kernel_rfl) rfl (fun _ _ _ _ h => h) rfl (fun K hK => ?_)
      refine quiet_build_st 87 #[(0, .tmp 8), (1, .tmp 10)] rfl fields ZR (sigC C key (.slice none 0 0)) _ _ hfu hzr hfp (by simp [Value.cells, Act.eval]) HFL.out ?_
      refine hK _ ?_
      simp only [Act.put, List.setIfInBounds_toArray, List.set_cons_succ, List.set_cons_zero]
      clear hK K
      refine stepM 6 rfl (by kernel_rfl) rfl (fun K hK => ?_)
      refine wp_alloc_agg 87 rfl ZR hzr ?_
      refine hK _ _ (HJ.out.keepAlloc _) ?_
      clear hK K
      (try simp only [Act.put, List.setIfInBounds_toArray, List.set_cons_succ, List.set_cons_zero])
      have HJ := Lib.hid HJ.out.alloc
      have hJf := HJ.out
      revert hJf
      generalize w6.alloc (.cells ZR.toArray 87) = W9
      generalize w6.heap.size = g9
      intro hJf
      exact hM g9 W9 hJf
    · refine wp_alloc_agg 87 rfl ZR hzr ?_
      refine hK _ _ (HJ.out.keepAlloc _) ?_
      clear hK K
      (try simp only [Act.put, List.setIfInBounds_toArray, List.set_cons_succ, List.set_cons_zero])
      have HJ := Lib.hid HJ.out.alloc
      refine stepM 2 rfl (by kernel_rfl) rfl (fun K hK => ?_)
      go_simp
      refine (From04 C _ HCL.out hone).mono ?_
      rintro e w6 ⟨rfl, hx6⟩
      have hkb := (HJ.out.step hx6).2
      have HJ := Lib.hid (HJ.out.step hx6).1
      refine hK _ _ (hkb) ?_
      clear hK K
      refine takeK 5 rfl (by kernel_rfl) (by kernel_rfl) (by kernel_rfl) rfl (fun _ _ _ _ h => h) rfl (fun K hK => ?_)
      refine quiet_build_st 87 #[(0, .tmp 8), (1, .tmp 10)] rfl fields ZR (sigC C key (.slice none 0 0)) _ _ hfu hzr hfp (by simp [Value.cells, Act.eval]) HFL.out ?_
      refine hK _ ?_
      simp only [Act.put, List.setIfInBounds_toArray, List.set_cons_succ, List.set_cons_zero]
      clear hK K
      refine relist (by kernel_rfl) (hM _ _ HJ.out)
  rintro g W hJ
  have HGB := Lib.hid (hJ.blk g rfl)
  have HJ := Lib.hid hJ
  clear hJ
  refine stepM 7 rfl (by kernel_rfl) rfl (fun K hK => ?_)
  refine wp_store_row 87 (.tmp 3) (.tmp 11) rfl g rfl ZR (sigC C key (.slice none 0 0)) _ rfl HGB.out.2 (szOutFrom05 (sigC_len HCL.out _ _)) (by rw [sigC_len HCL.out, HZL.out]) (sigC_one hone _ _ _ _) ?_
  refine hK _ _ (fun b hb => (setRow_only _).block _ (Nat.lt_of_lt_of_le hb HJ.out.ext.size) (by have := HGB.out.1; simp; omega)) ?_
  clear hK K
  (try simp only [Act.put, List.setIfInBounds_toArray, List.set_cons_succ, List.set_cons_zero])
  refine doneM (by kernel_rfl) ?_ _
  have hg0 := HGB.out.1
  have hx0 := HX.out.size
  have hbl := HB2.out.lt
  have hx9 : Ext w (W.setRow g (sigC C key (.slice none 0 0)).toArray) := grown_then (HX.out.trans HJ.out.ext) (setRow_only _) (.inr (by rintro b ⟨⟩; omega))
  have hb1 : Blk (W.setRow g (sigC C key (.slice none 0 0)).toArray) w.heap.size 70 SC := (HB1.out.keep HJ.out.ext (by simp)).keep (setRow_only _) (by simp; omega)
  have hb2 : Blk (W.setRow g (sigC C key (.slice none 0 0)).toArray) (w.heap.size + 1) 87 ZR := (HB2.out.keep HJ.out.ext (by simp)).keep (setRow_only _) (by simp; omega)
  have hb3 : Blk (W.setRow g (sigC C key (.slice none 0 0)).toArray) g 87 (sigC C key (.slice none 0 0)) := setRow_at HGB.out.2
  have hgg : w.heap.size + 1 < g := by omega
  generalize W.setRow g (sigC C key (.slice none 0 0)).toArray = w1 at *
  have c13 : w1.cell? ⟨w.heap.size, 1025, none⟩ = some (.slice A (List.length (α := Dg) ds) c) := (hb1.cell 1025).trans HSL.out
  have HX1 := Lib.hid hx9
  have HB91 := Lib.hid hb1
  have HB92 := Lib.hid hb2
  have HB93 := Lib.hid hb3
  clear hx9 hb1 hb2 hb3 HX HB1 HB2 HJ HGB HCC HKY HBL hg0 hx0 hbl
  go_wp2
  go_loopw [5, 15] (fun p i wr => ∃ (k : Nat) (v : Value), k ≤ List.length (α := Dg) ds ∧ i = .int .i64 k ∧ Ext w wr ∧ Blk wr (w.heap.size + 1) 87 ZR ∧ Blk wr g 87 (sigC C key v) ∧ OwnD 28 wr v (ds.take k) ∧ (∀ b, v.ownBlock = some b → w.heap.size + 2 ≤ b ∧ b ≠ g) ∧ ∃ q, p = q) (fun _ i _ => List.length (α := Dg) ds - (intOf i).toNat)
  case atStart => exact ⟨0, .slice none 0 0, by omega, rfl, HX1.out, HB92.out, HB93.out, ⟨by simp, Own.nil _ _ _⟩, by simp [Value.ownBlock], _, rfl⟩
  case round =>
    clear HX1 HB91 HB92 HB93 c13
    obtain ⟨k, v, hk, rfl, hx, hb2, hb3, hov, hfar, q, rfl⟩ := hrel
    by_cases hlt : k < List.length (α := Dg) ds
    · obtain ⟨ad, rfl, hf, hcells⟩ := hcell (by omega)
      obtain ⟨hcc, hdl⟩ := digs_at hall (hcells.keep (hx.same hF _ hf)) hlt
      have htk : ds.take (k + 1) = ds.take k ++ [ds[k]] := List.take_succ_eq_append_getElem hlt
      have htl : List.length (α := Dg) (ds.take k) = k := by rw [List.length_take]; omega
      have hone3 := bv_one ds[k]
      have hD : (bv ds[k]).length = 32 := by simpa using hdl
      generalize hdk : ds[k] = dk at *
      generalize hDE : bv dk = D at *
      have hvw := (hb3.cell 1025).trans (sigC_way HCL.out key v)
      have hb3' : Blk (wr.alloc (.cells D.toArray 52)) g 87 (sigC C key v) := hb3.keep ((Ext.refl _).alloc _) (by simp)
      have hvw' : (wr.alloc (.cells D.toArray 52)).cell? ⟨g, 1025, none⟩ = some v := (hb3'.cell 1025).trans (sigC_way HCL.out key v)
      have hcd : Cells (wr.alloc (.cells D.toArray 52)) ⟨wr.heap.size, 0, none⟩ D := (Blk.new wr 52 D).cells
      have hxa : Ext wr ((wr.alloc (.cells D.toArray 52)).alloc (.cells D.toArray 28)) := ((Ext.refl wr).alloc _).alloc _
      have HXA := Lib.hid hxa
      have HX := Lib.hid hx
      have HB2 := Lib.hid hb2
      have HB3 := Lib.hid hb3
      have HOV := Lib.hid hov
      have HFAR := Lib.hid hfar
      have HDL := Lib.hid hD
      have HTK := Lib.hid htk
      have how : Own wr 28 32 v k ((ds.take k).flatMap bv) := by have h := HOV.out.2; rw [htl] at h; exact h
      have HOW := Lib.hid how
      have HTL := Lib.hid htl
      have HDE := Lib.hid hDE
      have HDL2 := Lib.hid hdl
      clear how hx hb2 hb3 hov hfar hD htk htl hDE hdl hcells hb3' hxa hvw hdk
      go_wp2_with (first
        | (refine wpList_load_agg _ rfl 52 (.tmp 17) rfl _ rfl D _ Try.underlying52 rfl (szElFrom05 HDL.out) hcc ?_)
        | (refine wpList_alloc _ rfl 52 rfl _ hze ?_)
        | (refine wpList_store_new _ rfl 52 (.tmp 5) (.tmp 18) rfl rfl ZE D _ rfl (szElFrom05 HDL.out) (by rw [HDL.out, HZE.out]) hone3 ?_)
        | (refine wpList_load_agg _ rfl 52 (.tmp 5) rfl _ rfl D _ Try.underlying52 rfl (szElFrom05 HDL.out) hcd ?_)
        | (refine wpList_one _ rfl 85 (.tmp 21) rfl 28 D Try.underlying85 rfl (szEbFrom05 HDL.out) zEbFrom05 (by rw [HDL.out]; decide) (by rw [HDL.out]; decide) ?_)
        | (at_builtin
           go_must (refine wpList_app _ rfl (.tmp 20) (.tmp 22) _ _ rfl 28 28 i1 z1 32 32 Try.underlying85 Try.underlying85 hi1 hz1 hi2 hi3 hi4 (by decide) v _ _ rfl (HOW.out.ext HXA.out) _ 1 1 D rfl (by rw [HDL.out]) (src_at rfl D _ 1) hone3 (by unfold maxLen; omega) (by omega) ?_)
           intro v7 w7 ho7 hm7
           obtain ⟨A7, c7, hv7⟩ := Own.form ho7
           subst hv7
           have HB7 := Lib.hid ((HB3.out.keep HXA.out (by simp)).keep hm7.grown (fun e => (HFAR.out _ e.symm).2 rfl))
           have s9 : w7.cell? ⟨g, 1025, none⟩ = some v := (HB7.out.cell 1025).trans (sigC_way HCL.out key v)
           have f9 : w7.frozen? ⟨g, 1025, none⟩ = false := HB7.out.free 1025)
        | fail)
      have far7 : ∀ b, (Value.slice A7 (k + 1) c7).ownBlock = some b → w.heap.size + 2 ≤ b ∧ b ≠ g := fun b hb => by
        rcases hm7.at_ with e | hn
        · exact HFAR.out b (e.symm.trans hb)
        · have h1 := hn b hb
          have h2 := HB3.out.lt
          have h3 := HX.out.size
          simp at h1
          omega
      have ne : ∀ x, (x < w.heap.size + 2 ∨ x = g) → some x ≠ v.ownBlock := fun x hx e => by have := HFAR.out x e.symm; omega
      have hx8 : Ext w (w7.setCell ⟨g, 1025, none⟩ (.slice A7 (k + 1) c7)) := grown_then (grown_then (HX.out.trans HXA.out) hm7.grown (.inr fun x hx => by have := HFAR.out x hx; omega)) (only_set 1025 _) (.inr (by rintro b ⟨⟩; omega))
      have hb28 : Blk (w7.setCell ⟨g, 1025, none⟩ (.slice A7 (k + 1) c7)) (w.heap.size + 1) 87 ZR := ((HB2.out.keep HXA.out (by simp)).keep hm7.grown (ne _ (.inl (by omega)))).keep (only_set 1025 _) (by simp; omega)
      have hb38 : Blk (w7.setCell ⟨g, 1025, none⟩ (.slice A7 (k + 1) c7)) g 87 (sigC C key (.slice A7 (k + 1) c7)) := by
        have := HB7.out.set 1025 (.slice A7 (k + 1) c7)
        rwa [sigC_set HCL.out] at this
      have ho8 : OwnD 28 (w7.setCell ⟨g, 1025, none⟩ (.slice A7 (k + 1) c7)) (.slice A7 (k + 1) c7) (ds.take (k + 1)) := by
        rw [HTK.out]
        refine ⟨fun d hd => ?_, ?_⟩
        · rcases List.mem_append.1 hd with hd | hd
          · exact HOV.out.1 d hd
          · rw [List.mem_singleton.1 hd]; exact HDL2.out
        · have e1 : (ds.take k ++ [dk]).flatMap bv = (ds.take k).flatMap bv ++ D := by rw [← HDE.out]; simp
          have e2 : List.length (α := Dg) (ds.take k ++ [dk]) = k + 1 := by rw [List.length_append, HTL.out]; rfl
          rw [e1, e2]
          refine ho7.keep (row := some g) (only_set 1025 _) ?_
          cases hvb : (Value.slice A7 (k + 1) c7).ownBlock with
          | none => exact .inl rfl
          | some b => exact .inr (by have := (far7 b hvb).2; simpa using this)
      have HX8 := Lib.hid hx8
      have HB28 := Lib.hid hb28
      have HB38 := Lib.hid hb38
      have HO8 := Lib.hid ho8
      have HF8 := Lib.hid far7
      go_roundw
      case rel => exact ⟨k + 1, _, by omega, by go_num, HX8.out, HB28.out, HB38.out, HO8.out, HF8.out, _, rfl⟩
      case measure => simp [intOf]; omega
    · obtain rfl : k = List.length (α := Dg) ds := by omega
      have htk : ds.take (List.length (α := Dg) ds) = ds := List.take_length
      rw [htk] at hov
      have hcm := hb3.cells
      have hr2 : wr.heap[w.heap.size + 1]? = some (.cells ZR.toArray 87 (0, 0)) := hb2
      have hml := sigC_len HCL.out key v
      have hmone : ∀ u ∈ sigC C key v, u.oneCell' = true := by obtain ⟨A2, c2, h⟩ := hov.2.form; rw [h]; exact sigC_one hone _ _ _ _
      obtain ⟨M, hM⟩ : ∃ M, M = sigC C key v := ⟨_, rfl⟩
      rw [← hM] at hcm hml hmone
      have HM := Lib.hid hM
      have HX := Lib.hid hx
      have HOV := Lib.hid hov
      have HML := Lib.hid hml
      have HFAR := Lib.hid hfar
      clear hx hb2 hb3 hov hml hM hfar htk
      go_wp2_with (first
        | (refine wpList_load_agg _ rfl 87 (.tmp 3) rfl _ rfl M _ Try.underlying87 rfl (szOutFrom05 HML.out) hcm ?_)
        | (refine wpList_store_row _ rfl 87 (.tmp 2) (.tmp 26) rfl (w.heap.size + 1) rfl ZR M _ rfl hr2 (szOutFrom05 HML.out) (by rw [HML.out, HZL.out]) hmone ?_)
        | fail)
      have hc9 := Blk.cells (t := 87) (setRow_at (cs' := M.toArray) hr2)
      (try simp only [Exit.inBlock, Exit.then])
      refine bodyPost_ret (results_agg rfl _ _ _ _ _ rfl Try.underlying87 rfl (szOutFrom05 HML.out) hc9) rfl ?_
      refine ⟨v, by rw [HM.out], ⟨HOV.out.1, HOV.out.2.keep (row := some (w.heap.size + 1)) (setRow_only _) ?_⟩, grown_then HX.out (setRow_only _) (.inr (by rintro b ⟨⟩; omega)), fun b hb => by have := HFAR.out b hb; omega⟩
      cases hvb : v.ownBlock with
      | none => exact .inl rfl
      | some b => exact .inr (by have := (HFAR.out b hvb).1; simp; omega)
end
section
open Go.RowKit

def PieceT : Ty := .arr 16 .u8
def SigT : Ty := .st (.pair (.arr 32 PieceT) (.pair (.arr 32 PieceT) .unit))
def DigT4 : Ty := .arr 32 .u8
def zSigC : List Value := bv (List.replicate 1024 0)
def zDigC : List Value := bv (List.replicate 32 0)
theorem agg_cells4 (cs : List Value) : (Value.agg cs.toArray).cells.toList = cs := by simp [Value.cells]
theorem pieces_bytes {w : World} {F : Fp} : ∀ {l : List (List UInt8)} {cs : List Value}, AllH (PieceT.holds w F) cs l → ∃ B : List UInt8, cs = bv B
  | [], _, h => ⟨[], h⟩
  | p :: l, _, h => by
    obtain ⟨c1, c2, rfl, h1, h2⟩ := h
    obtain ⟨B, rfl⟩ := pieces_bytes h2
    exact ⟨p ++ B, by rw [bv_append, AllH.bytes.1 h1.2]⟩
theorem sig_open {w : World} {F : Fp} {cs : List Value} {sg : SigT.Data} (h : SigT.holds w F (Value.agg cs.toArray).cells.toList sg) : ∃ S : List UInt8, cs = bv S ∧ S.length = 1024 := by
  rw [agg_cells4] at h
  have hl := Ty.len SigT h
  obtain ⟨c1, _, rfl, ⟨_, h1⟩, c2, _, rfl, ⟨_, h2⟩, rfl⟩ := h
  obtain ⟨B1, rfl⟩ := pieces_bytes h1
  obtain ⟨B2, rfl⟩ := pieces_bytes h2
  refine ⟨B1 ++ B2, by rw [bv_append, List.append_nil], ?_⟩
  rw [List.append_nil, List.length_append, bv_length, bv_length] at hl
  rw [List.length_append]; exact hl
theorem dig_open {w : World} {F : Fp} {cs : List Value} {d : DigT4.Data} (h : DigT4.holds w F (Value.agg cs.toArray).cells.toList d) : ∃ S : List UInt8, cs = bv S ∧ S.length = 32 := by
  rw [agg_cells4] at h
  exact ⟨d, AllH.bytes.1 h.2, h.1⟩
end
end Go.Proofs.Ytmicjaiiinaipaa
