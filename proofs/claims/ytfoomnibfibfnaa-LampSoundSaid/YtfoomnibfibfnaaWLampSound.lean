/- The law LampSound is true of every input, and its arguments read as before. No condition. -/
import Derived.Test.YtfoomnibfibfnaaW32bd9749ef
import Derived.SizedLaws
set_option linter.unusedVariables false
set_option linter.unusedSimpArgs false
set_option linter.unnecessarySimpa false
namespace Go.Proofs.Ytfoomnibfibfnaa.lampSound
open Go.ChangeShapes Go.WideShapes Go.ChangeAt Go.RowKit Go.Proofs.Ytfoomnibfibfnaa
set_option linter.unusedVariables false

theorem at_bound {n : Nat} (h : (Lit.int .u16 (n : Int)).wf = true) : n < 65536 := by
  simp [Lit.wf, IntKind.min, IntKind.max, IntKind.signed, IntKind.bits] at h
  omega
theorem own : ownKnob Try.prog.godebug = none := by kernel_rfl
theorem laidOut : laidOutB Try.prog = true := by kernel_rfl

set_option maxRecDepth 100000 in
theorem lifted (os : Os) (started : os.Started) (H : Type) (enc : TypeId × Value → H) :
    ReturnsInHanded {} Try.checked os 5 .any (Rows.lampSoundSpec.pre6 enc Try.prog Try.f5 Rows.lampSoundRow.domain false) (Rows.lampSoundSpec.post enc Try.prog Try.f5 false true false false) := by
  refine returnsInHanded_of_change_sized (C := Try.checked) own started (by kernel_rfl) Try.func5
    (ChangeSpec.witness6 (enc := enc) (C := Try.checked) false ⟨#[], #[.agg (Array.replicate 32 (.int .u8 0)), .int .u32 0, .agg (Array.replicate 32 (.int .u8 0)), .agg (Array.replicate 32 (.int .u8 0)), .int .u16 0, .int .u8 0], []⟩ 8 (by kernel_rfl) (by kernel_rfl) (by kernel_rfl) (by kernel_rfl)) ?_
  intro W base args ds gs before hval0 hW hcnd hsz0 _
  have hval : ∀ (j : Nat) t v, Try.f5.params[j]? = some t → args[j]? = some v → Value.okWide Try.prog W .any base t v := hval0
  have hW' := hW
  obtain ⟨p, q, hA0, hV, rfl, hfz, hnd⟩ := hW
  have hA : DataW.TrodAll enc Try.prog W 0 (fun _ => true) true Try.f5.params.toList args.toList ds p := hA0
  rw [Try.params5] at hA hval
  obtain ⟨v0, vs0, d0, ds0, p0, q0, hargs, rfl, rfl, h0, r0⟩ := trodAll_cons hA
  obtain ⟨v1, vs1, d1, ds1, p1, q1, rfl, rfl, rfl, h1, r1⟩ := trodAll_cons r0
  obtain ⟨v2, vs2, d2, ds2, p2, q2, rfl, rfl, rfl, h2, r2⟩ := trodAll_cons r1
  obtain ⟨v3, vs3, d3, ds3, p3, q3, rfl, rfl, rfl, h3, r3⟩ := trodAll_cons r2
  obtain ⟨v4, vs4, d4, ds4, p4, q4, rfl, rfl, rfl, h4, r4⟩ := trodAll_cons r3
  obtain ⟨v5, vs5, d5, ds5, p5, q5, rfl, rfl, rfl, h5, r5⟩ := trodAll_cons r4
  obtain ⟨rfl, rfl, rfl⟩ := trodAll_nil r5
  obtain rfl : args = #[v0, v1, v2, v3, v4, v5] := by cases args; simp_all
  obtain ⟨rfl, rfl⟩ := trodVars_none hV
  have hsz : (DataW.weightsEach Try.prog [22, 23, 22, 22, 51, 5] [d0, d1, d2, d3, d4, d5]).all (fun x => decide (x ≤ reachBytes)) = true := hsz0
  simp only [DataW.weightsEach, List.all_append, Bool.and_eq_true] at hsz
  have lt0 : ∀ x ∈ p0, x.block < W.heap.size := by obtain ⟨m, hm⟩ := h0; exact DataW.trod_lt m _ _ _ hm
  have lt1 : ∀ x ∈ p1, x.block < W.heap.size := by obtain ⟨m, hm⟩ := h1; exact DataW.trod_lt m _ _ _ hm
  have lt2 : ∀ x ∈ p2, x.block < W.heap.size := by obtain ⟨m, hm⟩ := h2; exact DataW.trod_lt m _ _ _ hm
  have lt3 : ∀ x ∈ p3, x.block < W.heap.size := by obtain ⟨m, hm⟩ := h3; exact DataW.trod_lt m _ _ _ hm
  have lt4 : ∀ x ∈ p4, x.block < W.heap.size := by obtain ⟨m, hm⟩ := h4; exact DataW.trod_lt m _ _ _ hm
  have lt5 : ∀ x ∈ p5, x.block < W.heap.size := by obtain ⟨m, hm⟩ := h5; exact DataW.trod_lt m _ _ _ hm
  obtain ⟨x0, g0, s0⟩ := Ty.open_arg ((.arr 32 .u8)) (by kernel_rfl) h0 hsz.1
  obtain ⟨x1, g1, s1⟩ := Ty.open_arg (.nat .u32) (by kernel_rfl) h1 hsz.2.1
  obtain ⟨x2, g2, s2⟩ := Ty.open_arg ((.arr 32 .u8)) (by kernel_rfl) h2 hsz.2.2.1
  obtain ⟨x3, g3, s3⟩ := Ty.open_arg ((.arr 32 .u8)) (by kernel_rfl) h3 hsz.2.2.2.1
  obtain ⟨x4, g4, s4⟩ := Ty.open_arg (.nat .u16) (by kernel_rfl) h4 hsz.2.2.2.2.1
  obtain ⟨x5, g5, s5⟩ := Ty.open_arg (.u8) (by kernel_rfl) h5 hsz.2.2.2.2.2.1
  obtain ⟨c0, rfl⟩ := okWide_agg Try.underlying22 rfl (hval 0 _ v0 rfl rfl)
  have q0 : c0 = bv x0 := by have h := AllH.bytes.1 (g0.2); simpa [Value.cells] using h
  subst q0
  obtain ⟨n1, rfl⟩ := okWide_int Try.underlying23 (hval 1 _ v1 rfl rfl)
  obtain ⟨e1, w1⟩ := g1
  have q1 : n1 = (x1 : Int) := by simpa [Value.cells] using e1
  subst n1
  obtain ⟨c2, rfl⟩ := okWide_agg Try.underlying22 rfl (hval 2 _ v2 rfl rfl)
  have q2 : c2 = bv x2 := by have h := AllH.bytes.1 (g2.2); simpa [Value.cells] using h
  subst q2
  obtain ⟨c3, rfl⟩ := okWide_agg Try.underlying22 rfl (hval 3 _ v3 rfl rfl)
  have q3 : c3 = bv x3 := by have h := AllH.bytes.1 (g3.2); simpa [Value.cells] using h
  subst q3
  obtain ⟨n4, rfl⟩ := okWide_int Try.underlying51 (hval 4 _ v4 rfl rfl)
  obtain ⟨e4, w4⟩ := g4
  have q4 : n4 = (x4 : Int) := by simpa [Value.cells] using e4
  subst n4
  obtain ⟨n5, rfl⟩ := okWide_int Try.underlying5 (hval 5 _ v5 rfl rfl)
  have q5 : n5 = (x5.toNat : Int) := by have := g5; simpa [Ty.holds, Value.cells] using this
  subst n5
  clear hA0 hval0
  refine (Sound x0 g0.1 x1 w1 x2 x3 g2.1 g3.1 x4 (by have := at_bound w4; omega) x5 W).mono fun e W' ⟨he, hx⟩ => ?_
  subst he
  have bel : Below W.heap.size W W' := ⟨hx.os, hx.tape, hx.output, hx.size, fun k hk => hx.block k hk (by simp)⟩
  exact ⟨_, rfl, _, _, _, [], _, [], hW', trodAll_mk1 (shut_bool Try.underlying4 _), (trodAll_cons_mk (Below.trod laidOut (by kernel_rfl) (of_decide_eq_true (by kernel_rfl)) h0 bel lt0) (trodAll_cons_mk (Below.trod laidOut (by kernel_rfl) (of_decide_eq_true (by kernel_rfl)) h1 bel lt1) (trodAll_cons_mk (Below.trod laidOut (by kernel_rfl) (of_decide_eq_true (by kernel_rfl)) h2 bel lt2) (trodAll_cons_mk (Below.trod laidOut (by kernel_rfl) (of_decide_eq_true (by kernel_rfl)) h3 bel lt3) (trodAll_cons_mk (Below.trod laidOut (by kernel_rfl) (of_decide_eq_true (by kernel_rfl)) h4 bel lt4) (trodAll_cons_mk (Below.trod laidOut (by kernel_rfl) (of_decide_eq_true (by kernel_rfl)) h5 bel lt5) trodAll_mk0)))))), rfl, bel.frame _, fun h => by cases h⟩

theorem over : Rows.lampSoundRow.holds Try.pinned (OpenSpec.ofChange Rows.lampSoundSpec) :=
  OpenClaim.holds_of_wide 5 Try.f5 rfl rfl rfl rfl rfl rfl rfl ⟨rfl, rfl, rfl, rfl, rfl⟩ rfl rfl rfl rfl rfl (by kernel_rfl) Try.func5 (by kernel_rfl)
    (of_decide_eq_true (by kernel_rfl)) (by unfold Func.isWrapper; first | (rw [if_pos (by decide +kernel)]; kernel_rfl) | (rw [if_neg (by decide +kernel)]; exact ⟨rfl, rfl⟩))
    (fun os started H enc _ => lifted os started H enc)

theorem proved : Rows.LampSoundSaid := over
#print axioms proved
end Go.Proofs.Ytfoomnibfibfnaa.lampSound
