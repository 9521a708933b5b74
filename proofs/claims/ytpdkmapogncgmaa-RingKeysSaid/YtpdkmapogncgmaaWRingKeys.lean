/- The law RingKeys is true of every input, and its arguments read as before. No condition. -/
import Derived.Test.YtpdkmapogncgmaaW74ca9ec9be
import Derived.SizedLaws
set_option linter.unusedVariables false
set_option linter.unusedSimpArgs false
set_option linter.unnecessarySimpa false
namespace Go.Proofs.Ytpdkmapogncgmaa.ringKeys
open Go.ChangeShapes Go.WideShapes Go.ChangeAt Go.RowKit Go.Proofs.Ytpdkmapogncgmaa
set_option linter.unusedVariables false

theorem own : ownKnob Try.prog.godebug = none := by kernel_rfl
theorem laidOut : laidOutB Try.prog = true := by kernel_rfl

set_option maxRecDepth 100000 in
theorem lifted (os : Os) (started : os.Started) (H : Type) (enc : TypeId × Value → H) :
    ReturnsInHanded {} Try.checked os 6 .any (Rows.ringKeysSpec.pre6 enc Try.prog Try.f6 Rows.ringKeysRow.domain false) (Rows.ringKeysSpec.post enc Try.prog Try.f6 false true false false) := by
  refine returnsInHanded_of_change_sized (C := Try.checked) own started (by kernel_rfl) Try.func6
    (ChangeSpec.witness6 (enc := enc) (C := Try.checked) false ⟨#[], #[.agg (bv (List.replicate 32 0)).toArray, .int .i64 0, .slice none 0 0, .slice none 0 0, .agg (bv (List.replicate 32 0)).toArray], []⟩ 8 (by kernel_rfl) (by kernel_rfl) (by kernel_rfl) (by kernel_rfl)) ?_
  intro W base args ds gs before hval0 hW hcnd hsz0 _
  have hval : ∀ (j : Nat) t v, Try.f6.params[j]? = some t → args[j]? = some v → Value.okWide Try.prog W .any base t v := hval0
  have hW' := hW
  obtain ⟨p, q, hA0, hV, rfl, hfz, hnd⟩ := hW
  have hA : DataW.TrodAll enc Try.prog W 0 (fun _ => true) true Try.f6.params.toList args.toList ds p := hA0
  rw [Try.params6] at hA hval
  obtain ⟨v0, vs0, d0, ds0, p0, q0, hargs, rfl, rfl, h0, r0⟩ := trodAll_cons hA
  obtain ⟨v1, vs1, d1, ds1, p1, q1, rfl, rfl, rfl, h1, r1⟩ := trodAll_cons r0
  obtain ⟨v2, vs2, d2, ds2, p2, q2, rfl, rfl, rfl, h2, r2⟩ := trodAll_cons r1
  obtain ⟨v3, vs3, d3, ds3, p3, q3, rfl, rfl, rfl, h3, r3⟩ := trodAll_cons r2
  obtain ⟨v4, vs4, d4, ds4, p4, q4, rfl, rfl, rfl, h4, r4⟩ := trodAll_cons r3
  obtain ⟨rfl, rfl, rfl⟩ := trodAll_nil r4
  obtain rfl : args = #[v0, v1, v2, v3, v4] := by cases args; simp_all
  obtain ⟨rfl, rfl⟩ := trodVars_none hV
  have hsz : (DataW.weightsEach Try.prog [31, 3, 61, 62, 31] [d0, d1, d2, d3, d4]).all (fun x => decide (x ≤ reachBytes)) = true := hsz0
  simp only [DataW.weightsEach, List.all_append, Bool.and_eq_true] at hsz
  have lt0 : ∀ x ∈ p0, x.block < W.heap.size := by obtain ⟨m, hm⟩ := h0; exact DataW.trod_lt m _ _ _ hm
  have lt1 : ∀ x ∈ p1, x.block < W.heap.size := by obtain ⟨m, hm⟩ := h1; exact DataW.trod_lt m _ _ _ hm
  have lt2 : ∀ x ∈ p2, x.block < W.heap.size := by obtain ⟨m, hm⟩ := h2; exact DataW.trod_lt m _ _ _ hm
  have lt3 : ∀ x ∈ p3, x.block < W.heap.size := by obtain ⟨m, hm⟩ := h3; exact DataW.trod_lt m _ _ _ hm
  have lt4 : ∀ x ∈ p4, x.block < W.heap.size := by obtain ⟨m, hm⟩ := h4; exact DataW.trod_lt m _ _ _ hm
  obtain ⟨x0, g0, s0⟩ := Ty.open_arg (.arr 32 .u8) (by kernel_rfl) h0 hsz.1
  obtain ⟨x1, g1, s1⟩ := Ty.open_arg (.int .i64) (by kernel_rfl) h1 hsz.2.1
  obtain ⟨x2, g2, s2⟩ := Ty.open_arg (.sl (.nat .u32)) (by kernel_rfl) h2 hsz.2.2.1
  obtain ⟨x3, g3, s3⟩ := Ty.open_arg (.sl .u8) (by kernel_rfl) h3 hsz.2.2.2.1
  obtain ⟨x4, g4, s4⟩ := Ty.open_arg (.arr 32 .u8) (by kernel_rfl) h4 hsz.2.2.2.2.1
  obtain ⟨c0, rfl⟩ := okWide_agg Try.underlying31 rfl (hval 0 _ v0 rfl rfl)
  have q0 : c0 = bv x0 := by have h := AllH.bytes.1 (g0.2); simpa [Value.cells] using h
  subst q0
  obtain ⟨n1, rfl⟩ := okWide_int Try.underlying3 (hval 1 _ v1 rfl rfl)
  obtain ⟨e1, w1⟩ := g1
  have q1 : n1 = (x1 : Int) := by simpa [Value.cells] using e1
  subst n1
  obtain ⟨a2, l2, c2, rfl⟩ := okWide_slice Try.underlying61 (hval 2 _ v2 rfl rfl)
  obtain ⟨a3, l3, c3, rfl⟩ := okWide_slice Try.underlying62 (hval 3 _ v3 rfl rfl)
  obtain ⟨c4, rfl⟩ := okWide_agg Try.underlying31 rfl (hval 4 _ v4 rfl rfl)
  have q4 : c4 = bv x4 := by have h := AllH.bytes.1 (g4.2); simpa [Value.cells] using h
  subst q4
  clear hA0 hval0
  refine (KeysLaw x0 g0.1 x1 w1 x2 _ _ _ x3 _ _ _ x4 g4.1 _ W g2 g3 (fun b hb => hb)).mono fun e W' ⟨he, hx⟩ => ?_
  subst he
  have bel : Below W.heap.size W W' := ⟨hx.os, hx.tape, hx.output, hx.size, fun k hk => hx.block k hk (by simp)⟩
  exact ⟨_, rfl, _, _, _, [], _, [], hW', trodAll_mk1 (shut_bool Try.underlying4 _), (trodAll_cons_mk (Below.trod laidOut (by kernel_rfl) (of_decide_eq_true (by kernel_rfl)) h0 bel lt0) (trodAll_cons_mk (Below.trod laidOut (by kernel_rfl) (of_decide_eq_true (by kernel_rfl)) h1 bel lt1) (trodAll_cons_mk (Below.trod laidOut (by kernel_rfl) (of_decide_eq_true (by kernel_rfl)) h2 bel lt2) (trodAll_cons_mk (Below.trod laidOut (by kernel_rfl) (of_decide_eq_true (by kernel_rfl)) h3 bel lt3) (trodAll_cons_mk (Below.trod laidOut (by kernel_rfl) (of_decide_eq_true (by kernel_rfl)) h4 bel lt4) trodAll_mk0))))), rfl, bel.frame _, fun h => by cases h⟩

theorem over : Rows.ringKeysRow.holds Try.pinned (OpenSpec.ofChange Rows.ringKeysSpec) :=
  OpenClaim.holds_of_wide 6 Try.f6 rfl rfl rfl rfl rfl rfl rfl ⟨rfl, rfl, rfl, rfl, rfl⟩ rfl rfl rfl rfl rfl (by kernel_rfl) Try.func6 (by kernel_rfl)
    (of_decide_eq_true (by kernel_rfl)) (by unfold Func.isWrapper; first | (rw [if_pos (by decide +kernel)]; kernel_rfl) | (rw [if_neg (by decide +kernel)]; exact ⟨rfl, rfl⟩))
    (fun os started H enc _ => lifted os started H enc)

theorem proved : Rows.RingKeysSaid := over
#print axioms proved
end Go.Proofs.Ytpdkmapogncgmaa.ringKeys
