/- The law DeedSigns is true of every input, and its arguments read as before. No condition. -/
import Derived.Test.YtmicjaiiinaipaaW566f7b28c4
import Derived.SizedLaws
set_option linter.unusedVariables false
set_option linter.unusedSimpArgs false
set_option linter.unnecessarySimpa false
namespace Go.Proofs.Ytmicjaiiinaipaa.deedSigns
open Go.ChangeShapes Go.WideShapes Go.ChangeAt Go.RowKit Go.Proofs.Ytmicjaiiinaipaa
set_option linter.unusedVariables false

theorem own : ownKnob Try.prog.godebug = none := by kernel_rfl
theorem laidOut : laidOutB Try.prog = true := by kernel_rfl

theorem okZ2 (os : Os) : okZipB Try.checked.prog (World.plainHolding Try.checked.prog os ⟨#[], #[.agg (bv (List.replicate 32 0)).toArray, .agg (bv (List.replicate 32 0)).toArray, .agg [Value.int .u32 0, Value.int .u64 0, Value.int .u64 0, Value.int .u64 0, Value.int .u64 0, Value.int .u64 0, Value.slice none 0 0].toArray, .agg [Value.int .u32 0, Value.int .u64 0, Value.int .u64 0, Value.int .u64 0, Value.int .u64 0, Value.int .u64 0, Value.slice none 0 0].toArray], []⟩) 27 [Value.int .u32 0, Value.int .u64 0, Value.int .u64 0, Value.int .u64 0, Value.int .u64 0, Value.int .u64 0, Value.slice none 0 0] = true := by kernel_rfl
theorem okZ3 (os : Os) : okZipB Try.checked.prog (World.plainHolding Try.checked.prog os ⟨#[], #[.agg (bv (List.replicate 32 0)).toArray, .agg (bv (List.replicate 32 0)).toArray, .agg [Value.int .u32 0, Value.int .u64 0, Value.int .u64 0, Value.int .u64 0, Value.int .u64 0, Value.int .u64 0, Value.slice none 0 0].toArray, .agg [Value.int .u32 0, Value.int .u64 0, Value.int .u64 0, Value.int .u64 0, Value.int .u64 0, Value.int .u64 0, Value.slice none 0 0].toArray], []⟩) 27 [Value.int .u32 0, Value.int .u64 0, Value.int .u64 0, Value.int .u64 0, Value.int .u64 0, Value.int .u64 0, Value.slice none 0 0] = true := by kernel_rfl
set_option maxRecDepth 100000 in
theorem okArgs (os : Os) : ∀ base, Input.okWide Try.checked.prog (World.plainHolding Try.checked.prog os ⟨#[], #[.agg (bv (List.replicate 32 0)).toArray, .agg (bv (List.replicate 32 0)).toArray, .agg [Value.int .u32 0, Value.int .u64 0, Value.int .u64 0, Value.int .u64 0, Value.int .u64 0, Value.int .u64 0, Value.slice none 0 0].toArray, .agg [Value.int .u32 0, Value.int .u64 0, Value.int .u64 0, Value.int .u64 0, Value.int .u64 0, Value.int .u64 0, Value.slice none 0 0].toArray], []⟩) .any base 4 ⟨#[], #[.agg (bv (List.replicate 32 0)).toArray, .agg (bv (List.replicate 32 0)).toArray, .agg [Value.int .u32 0, Value.int .u64 0, Value.int .u64 0, Value.int .u64 0, Value.int .u64 0, Value.int .u64 0, Value.slice none 0 0].toArray, .agg [Value.int .u32 0, Value.int .u64 0, Value.int .u64 0, Value.int .u64 0, Value.int .u64 0, Value.int .u64 0, Value.slice none 0 0].toArray], []⟩ := by
  intro base
  refine ⟨fun o h => by simp at h, fun g h => by simp at h, by kernel_rfl, Try.f4, Try.func4, by kernel_rfl, by kernel_rfl, by kernel_rfl, by kernel_rfl, fun j t v hj hv => ?_⟩
  rw [Try.params4] at hj
  match j with
  | 0 =>
    obtain rfl : 28 = t := by simpa using hj
    obtain rfl : Value.agg (bv (List.replicate 32 0)).toArray = v := by
      have h : some (Value.agg (bv (List.replicate 32 0)).toArray) = some v := hv
      exact Option.some.inj h
    exact Value.okWide_of_okWideB (by kernel_rfl)
  | 1 =>
    obtain rfl : 28 = t := by simpa using hj
    obtain rfl : Value.agg (bv (List.replicate 32 0)).toArray = v := by
      have h : some (Value.agg (bv (List.replicate 32 0)).toArray) = some v := hv
      exact Option.some.inj h
    exact Value.okWide_of_okWideB (by kernel_rfl)
  | 2 =>
    obtain rfl : 27 = t := by simpa using hj
    obtain rfl : Value.agg [Value.int .u32 0, Value.int .u64 0, Value.int .u64 0, Value.int .u64 0, Value.int .u64 0, Value.int .u64 0, Value.slice none 0 0].toArray = v := by
      have h : some (Value.agg [Value.int .u32 0, Value.int .u64 0, Value.int .u64 0, Value.int .u64 0, Value.int .u64 0, Value.int .u64 0, Value.slice none 0 0].toArray) = some v := hv
      exact Option.some.inj h
    exact okWide_of_zip Try.underlying27 (okZ2 os)
  | 3 =>
    obtain rfl : 27 = t := by simpa using hj
    obtain rfl : Value.agg [Value.int .u32 0, Value.int .u64 0, Value.int .u64 0, Value.int .u64 0, Value.int .u64 0, Value.int .u64 0, Value.slice none 0 0].toArray = v := by
      have h : some (Value.agg [Value.int .u32 0, Value.int .u64 0, Value.int .u64 0, Value.int .u64 0, Value.int .u64 0, Value.int .u64 0, Value.slice none 0 0].toArray) = some v := hv
      exact Option.some.inj h
    exact okWide_of_zip Try.underlying27 (okZ3 os)
  | j + 4 => simp at hj
set_option maxRecDepth 100000 in
theorem lifted (os : Os) (started : os.Started) (H : Type) (enc : TypeId × Value → H) :
    ReturnsInHanded {} Try.checked os 4 .any (Rows.deedSignsSpec.pre6 enc Try.prog Try.f4 Rows.deedSignsRow.domain false) (Rows.deedSignsSpec.post enc Try.prog Try.f4 false true false false) := by
  refine returnsInHanded_of_change_sized (C := Try.checked) own started (by kernel_rfl) Try.func4
    (witness6W (enc := enc) (C := Try.checked) false ⟨#[], #[.agg (bv (List.replicate 32 0)).toArray, .agg (bv (List.replicate 32 0)).toArray, .agg [Value.int .u32 0, Value.int .u64 0, Value.int .u64 0, Value.int .u64 0, Value.int .u64 0, Value.int .u64 0, Value.slice none 0 0].toArray, .agg [Value.int .u32 0, Value.int .u64 0, Value.int .u64 0, Value.int .u64 0, Value.int .u64 0, Value.int .u64 0, Value.slice none 0 0].toArray], []⟩ 8 (by kernel_rfl) (by kernel_rfl) (okArgs os) (by kernel_rfl) (by kernel_rfl)) ?_
  intro W base args ds gs before hval0 hW hcnd hsz0 _
  have hval : ∀ (j : Nat) t v, Try.f4.params[j]? = some t → args[j]? = some v → Value.okWide Try.prog W .any base t v := hval0
  have hW' := hW
  obtain ⟨p, q, hA0, hV, rfl, hfz, hnd⟩ := hW
  have hA : DataW.TrodAll enc Try.prog W 0 (fun _ => true) true Try.f4.params.toList args.toList ds p := hA0
  rw [Try.params4] at hA hval
  obtain ⟨v0, vs0, d0, ds0, p0, q0, hargs, rfl, rfl, h0, r0⟩ := trodAll_cons hA
  obtain ⟨v1, vs1, d1, ds1, p1, q1, rfl, rfl, rfl, h1, r1⟩ := trodAll_cons r0
  obtain ⟨v2, vs2, d2, ds2, p2, q2, rfl, rfl, rfl, h2, r2⟩ := trodAll_cons r1
  obtain ⟨v3, vs3, d3, ds3, p3, q3, rfl, rfl, rfl, h3, r3⟩ := trodAll_cons r2
  obtain ⟨rfl, rfl, rfl⟩ := trodAll_nil r3
  obtain rfl : args = #[v0, v1, v2, v3] := by cases args; simp_all
  obtain ⟨rfl, rfl⟩ := trodVars_none hV
  have hsz : (DataW.weightsEach Try.prog [28, 28, 27, 27] [d0, d1, d2, d3]).all (fun x => decide (x ≤ reachBytes)) = true := hsz0
  simp only [DataW.weightsEach, List.all_append, Bool.and_eq_true] at hsz
  have lt0 : ∀ x ∈ p0, x.block < W.heap.size := by obtain ⟨m, hm⟩ := h0; exact DataW.trod_lt m _ _ _ hm
  have lt1 : ∀ x ∈ p1, x.block < W.heap.size := by obtain ⟨m, hm⟩ := h1; exact DataW.trod_lt m _ _ _ hm
  have lt2 : ∀ x ∈ p2, x.block < W.heap.size := by obtain ⟨m, hm⟩ := h2; exact DataW.trod_lt m _ _ _ hm
  have lt3 : ∀ x ∈ p3, x.block < W.heap.size := by obtain ⟨m, hm⟩ := h3; exact DataW.trod_lt m _ _ _ hm
  obtain ⟨x0, g0, s0⟩ := Ty.open_arg (.arr 32 .u8) (by kernel_rfl) h0 hsz.1
  obtain ⟨x1, g1, s1⟩ := Ty.open_arg (.arr 32 .u8) (by kernel_rfl) h1 hsz.2.1
  obtain ⟨x2, g2, s2⟩ := Ty.open_arg (StTD) (by kernel_rfl) h2 hsz.2.2.1
  obtain ⟨x3, g3, s3⟩ := Ty.open_arg (StTD) (by kernel_rfl) h3 hsz.2.2.2.1
  obtain ⟨c0, rfl⟩ := okWide_agg Try.underlying28 rfl (hval 0 _ v0 rfl rfl)
  have q0 : c0 = bv x0 := by have h := AllH.bytes.1 (g0.2); simpa [Value.cells] using h
  subst q0
  obtain ⟨c1, rfl⟩ := okWide_agg Try.underlying28 rfl (hval 1 _ v1 rfl rfl)
  have q1 : c1 = bv x1 := by have h := AllH.bytes.1 (g1.2); simpa [Value.cells] using h
  subst q1
  obtain ⟨c2, rfl⟩ := okWide_agg Try.underlying27 rfl (hval 2 _ v2 rfl rfl)
  obtain ⟨s2, u2, rfl, hw2, hcd2⟩ := state_openD g2
  obtain ⟨c3, rfl⟩ := okWide_agg Try.underlying27 rfl (hval 3 _ v3 rfl rfl)
  obtain ⟨s3, u3, rfl, hw3, hcd3⟩ := state_openD g3
  clear hA0 hval0
  refine (DSignsLaw x0 x1 g0.1 g1.1 s2 s3 hw2 hw3 u2 u3 _ W hcd2 hcd3 (fun b hb => hb)).mono fun e W' ⟨he, hx⟩ => ?_
  subst he
  have bel : Below W.heap.size W W' := ⟨hx.os, hx.tape, hx.output, hx.size, fun k hk => hx.block k hk (by simp)⟩
  exact ⟨_, rfl, _, _, _, [], _, [], hW', trodAll_mk1 (shut_bool Try.underlying4 _), (trodAll_cons_mk (Below.trod laidOut (by kernel_rfl) (of_decide_eq_true (by kernel_rfl)) h0 bel lt0) (trodAll_cons_mk (Below.trod laidOut (by kernel_rfl) (of_decide_eq_true (by kernel_rfl)) h1 bel lt1) (trodAll_cons_mk (Below.trod laidOut (by kernel_rfl) (of_decide_eq_true (by kernel_rfl)) h2 bel lt2) (trodAll_cons_mk (Below.trod laidOut (by kernel_rfl) (of_decide_eq_true (by kernel_rfl)) h3 bel lt3) trodAll_mk0)))), rfl, bel.frame _, fun h => by cases h⟩

theorem over : Rows.deedSignsRow.holds Try.pinned (OpenSpec.ofChange Rows.deedSignsSpec) :=
  OpenClaim.holds_of_wide 4 Try.f4 rfl rfl rfl rfl rfl rfl rfl ⟨rfl, rfl, rfl, rfl, rfl⟩ rfl rfl rfl rfl rfl (by kernel_rfl) Try.func4 (by kernel_rfl)
    (of_decide_eq_true (by kernel_rfl)) (by unfold Func.isWrapper; first | (rw [if_pos (by decide +kernel)]; kernel_rfl) | (rw [if_neg (by decide +kernel)]; exact ⟨rfl, rfl⟩))
    (fun os started H enc _ => lifted os started H enc)

theorem proved : Rows.DeedSignsSaid := over
#print axioms proved
end Go.Proofs.Ytmicjaiiinaipaa.deedSigns
