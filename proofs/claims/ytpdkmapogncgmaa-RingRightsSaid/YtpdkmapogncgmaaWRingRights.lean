/- The law RingRights is true of every input, and its arguments read as before. No condition. -/
import Derived.Test.YtpdkmapogncgmaaW20b5e5bfdc
import Derived.SizedLaws
set_option linter.unusedVariables false
set_option linter.unusedSimpArgs false
set_option linter.unnecessarySimpa false
namespace Go.Proofs.Ytpdkmapogncgmaa.ringRights
open Go.ChangeShapes Go.WideShapes Go.ChangeAt Go.RowKit Go.Proofs.Ytpdkmapogncgmaa
set_option linter.unusedVariables false

theorem own : ownKnob Try.prog.godebug = none := by kernel_rfl
theorem laidOut : laidOutB Try.prog = true := by kernel_rfl

theorem okZ0 (os : Os) : okZipB Try.checked.prog (World.plainHolding Try.checked.prog os ⟨#[], #[.agg (sigC zSigC 0 (.slice none 0 0)).toArray, .agg (bv (List.replicate 32 0)).toArray, .int .i64 0, .int .u32 0, .agg (bv (List.replicate 32 0)).toArray], []⟩) 30 (sigC zSigC 0 (.slice none 0 0)) = true := by kernel_rfl
set_option maxRecDepth 100000 in
theorem okArgs (os : Os) : ∀ base, Input.okWide Try.checked.prog (World.plainHolding Try.checked.prog os ⟨#[], #[.agg (sigC zSigC 0 (.slice none 0 0)).toArray, .agg (bv (List.replicate 32 0)).toArray, .int .i64 0, .int .u32 0, .agg (bv (List.replicate 32 0)).toArray], []⟩) .any base 3 ⟨#[], #[.agg (sigC zSigC 0 (.slice none 0 0)).toArray, .agg (bv (List.replicate 32 0)).toArray, .int .i64 0, .int .u32 0, .agg (bv (List.replicate 32 0)).toArray], []⟩ := by
  intro base
  refine ⟨fun o h => by simp at h, fun g h => by simp at h, by kernel_rfl, Try.f3, Try.func3, by kernel_rfl, by kernel_rfl, by kernel_rfl, by kernel_rfl, fun j t v hj hv => ?_⟩
  rw [Try.params3] at hj
  match j with
  | 0 =>
    obtain rfl : 30 = t := by simpa using hj
    obtain rfl : Value.agg (sigC zSigC 0 (.slice none 0 0)).toArray = v := by
      have h : some (Value.agg (sigC zSigC 0 (.slice none 0 0)).toArray) = some v := hv
      exact Option.some.inj h
    exact okWide_of_zip Try.underlying30 (okZ0 os)
  | 1 =>
    obtain rfl : 31 = t := by simpa using hj
    obtain rfl : Value.agg (bv (List.replicate 32 0)).toArray = v := by
      have h : some (Value.agg (bv (List.replicate 32 0)).toArray) = some v := hv
      exact Option.some.inj h
    exact Value.okWide_of_okWideB (by kernel_rfl)
  | 2 =>
    obtain rfl : 3 = t := by simpa using hj
    obtain rfl : Value.int .i64 0 = v := by
      have h : some (Value.int .i64 0) = some v := hv
      exact Option.some.inj h
    exact Value.okWide_of_okWideB (by kernel_rfl)
  | 3 =>
    obtain rfl : 27 = t := by simpa using hj
    obtain rfl : Value.int .u32 0 = v := by
      have h : some (Value.int .u32 0) = some v := hv
      exact Option.some.inj h
    exact Value.okWide_of_okWideB (by kernel_rfl)
  | 4 =>
    obtain rfl : 31 = t := by simpa using hj
    obtain rfl : Value.agg (bv (List.replicate 32 0)).toArray = v := by
      have h : some (Value.agg (bv (List.replicate 32 0)).toArray) = some v := hv
      exact Option.some.inj h
    exact Value.okWide_of_okWideB (by kernel_rfl)
  | j + 5 => simp at hj
set_option maxRecDepth 100000 in
theorem lifted (os : Os) (started : os.Started) (H : Type) (enc : TypeId × Value → H) :
    ReturnsInHanded {} Try.checked os 3 .any (Rows.ringRightsSpec.pre6 enc Try.prog Try.f3 Rows.ringRightsRow.domain false) (Rows.ringRightsSpec.post enc Try.prog Try.f3 false true false false) := by
  refine returnsInHanded_of_change_sized (C := Try.checked) own started (by kernel_rfl) Try.func3
    (witness6W (enc := enc) (C := Try.checked) false ⟨#[], #[.agg (sigC zSigC 0 (.slice none 0 0)).toArray, .agg (bv (List.replicate 32 0)).toArray, .int .i64 0, .int .u32 0, .agg (bv (List.replicate 32 0)).toArray], []⟩ 8 (by kernel_rfl) (by kernel_rfl) (okArgs os) (by kernel_rfl) (by kernel_rfl)) ?_
  intro W base args ds gs before hval0 hW hcnd hsz0 _
  have hval : ∀ (j : Nat) t v, Try.f3.params[j]? = some t → args[j]? = some v → Value.okWide Try.prog W .any base t v := hval0
  have hW' := hW
  obtain ⟨p, q, hA0, hV, rfl, hfz, hnd⟩ := hW
  have hA : DataW.TrodAll enc Try.prog W 0 (fun _ => true) true Try.f3.params.toList args.toList ds p := hA0
  rw [Try.params3] at hA hval
  obtain ⟨v0, vs0, d0, ds0, p0, q0, hargs, rfl, rfl, h0, r0⟩ := trodAll_cons hA
  obtain ⟨v1, vs1, d1, ds1, p1, q1, rfl, rfl, rfl, h1, r1⟩ := trodAll_cons r0
  obtain ⟨v2, vs2, d2, ds2, p2, q2, rfl, rfl, rfl, h2, r2⟩ := trodAll_cons r1
  obtain ⟨v3, vs3, d3, ds3, p3, q3, rfl, rfl, rfl, h3, r3⟩ := trodAll_cons r2
  obtain ⟨v4, vs4, d4, ds4, p4, q4, rfl, rfl, rfl, h4, r4⟩ := trodAll_cons r3
  obtain ⟨rfl, rfl, rfl⟩ := trodAll_nil r4
  obtain rfl : args = #[v0, v1, v2, v3, v4] := by cases args; simp_all
  obtain ⟨rfl, rfl⟩ := trodVars_none hV
  have hsz : (DataW.weightsEach Try.prog [30, 31, 3, 27, 31] [d0, d1, d2, d3, d4]).all (fun x => decide (x ≤ reachBytes)) = true := hsz0
  simp only [DataW.weightsEach, List.all_append, Bool.and_eq_true] at hsz
  have lt0 : ∀ x ∈ p0, x.block < W.heap.size := by obtain ⟨m, hm⟩ := h0; exact DataW.trod_lt m _ _ _ hm
  have lt1 : ∀ x ∈ p1, x.block < W.heap.size := by obtain ⟨m, hm⟩ := h1; exact DataW.trod_lt m _ _ _ hm
  have lt2 : ∀ x ∈ p2, x.block < W.heap.size := by obtain ⟨m, hm⟩ := h2; exact DataW.trod_lt m _ _ _ hm
  have lt3 : ∀ x ∈ p3, x.block < W.heap.size := by obtain ⟨m, hm⟩ := h3; exact DataW.trod_lt m _ _ _ hm
  have lt4 : ∀ x ∈ p4, x.block < W.heap.size := by obtain ⟨m, hm⟩ := h4; exact DataW.trod_lt m _ _ _ hm
  obtain ⟨x0, g0, s0⟩ := Ty.open_arg (SigF) (by kernel_rfl) h0 hsz.1
  obtain ⟨x1, g1, s1⟩ := Ty.open_arg ((.arr 32 .u8)) (by kernel_rfl) h1 hsz.2.1
  obtain ⟨x2, g2, s2⟩ := Ty.open_arg (.int .i64) (by kernel_rfl) h2 hsz.2.2.1
  obtain ⟨x3, g3, s3⟩ := Ty.open_arg (.nat .u32) (by kernel_rfl) h3 hsz.2.2.2.1
  obtain ⟨x4, g4, s4⟩ := Ty.open_arg ((.arr 32 .u8)) (by kernel_rfl) h4 hsz.2.2.2.2.1
  obtain ⟨c0, rfl⟩ := okWide_agg Try.underlying30 rfl (hval 0 _ v0 rfl rfl)
  obtain ⟨S, ky, u, dss, rfl, hS, hky, hways⟩ := sigf_open g0
  obtain ⟨c1, rfl⟩ := okWide_agg Try.underlying31 rfl (hval 1 _ v1 rfl rfl)
  have q1 : c1 = bv x1 := by have h := AllH.bytes.1 (g1.2); simpa [Value.cells] using h
  subst q1
  obtain ⟨n2, rfl⟩ := okWide_int Try.underlying3 (hval 2 _ v2 rfl rfl)
  obtain ⟨e2, w2⟩ := g2
  have q2 : n2 = (x2 : Int) := by simpa [Value.cells] using e2
  subst n2
  obtain ⟨n3, rfl⟩ := okWide_int Try.underlying27 (hval 3 _ v3 rfl rfl)
  obtain ⟨e3, w3⟩ := g3
  have q3 : n3 = (x3 : Int) := by simpa [Value.cells] using e3
  subst n3
  obtain ⟨c4, rfl⟩ := okWide_agg Try.underlying31 rfl (hval 4 _ v4 rfl rfl)
  have q4 : c4 = bv x4 := by have h := AllH.bytes.1 (g4.2); simpa [Value.cells] using h
  subst q4
  clear hA0 hval0
  refine (Rights05 S hS ky u dss x1 g1.1 x4 g4.1 _ W hways (fun b hb => hb) hky x2 w2 x3 w3).mono fun e W' ⟨he, hx⟩ => ?_
  subst he
  have bel : Below W.heap.size W W' := ⟨hx.os, hx.tape, hx.output, hx.size, fun k hk => hx.block k hk (by simp)⟩
  exact ⟨_, rfl, _, _, _, [], _, [], hW', trodAll_mk1 (shut_bool Try.underlying4 _), (trodAll_cons_mk (Below.trod laidOut (by kernel_rfl) (of_decide_eq_true (by kernel_rfl)) h0 bel lt0) (trodAll_cons_mk (Below.trod laidOut (by kernel_rfl) (of_decide_eq_true (by kernel_rfl)) h1 bel lt1) (trodAll_cons_mk (Below.trod laidOut (by kernel_rfl) (of_decide_eq_true (by kernel_rfl)) h2 bel lt2) (trodAll_cons_mk (Below.trod laidOut (by kernel_rfl) (of_decide_eq_true (by kernel_rfl)) h3 bel lt3) (trodAll_cons_mk (Below.trod laidOut (by kernel_rfl) (of_decide_eq_true (by kernel_rfl)) h4 bel lt4) trodAll_mk0))))), rfl, bel.frame _, fun h => by cases h⟩

theorem over : Rows.ringRightsRow.holds Try.pinned (OpenSpec.ofChange Rows.ringRightsSpec) :=
  OpenClaim.holds_of_wide 3 Try.f3 rfl rfl rfl rfl rfl rfl rfl ⟨rfl, rfl, rfl, rfl, rfl⟩ rfl rfl rfl rfl rfl (by kernel_rfl) Try.func3 (by kernel_rfl)
    (of_decide_eq_true (by kernel_rfl)) (by unfold Func.isWrapper; first | (rw [if_pos (by decide +kernel)]; kernel_rfl) | (rw [if_neg (by decide +kernel)]; exact ⟨rfl, rfl⟩))
    (fun os started H enc _ => lifted os started H enc)

theorem proved : Rows.RingRightsSaid := over
#print axioms proved
end Go.Proofs.Ytpdkmapogncgmaa.ringRights
