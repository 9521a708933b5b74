/- The law PactNext is true of every input, and its arguments read as before. No condition. -/
import Derived.Test.YtnpolfihbfdggaaOpen
import Derived.Test.YtnpolfihbfdggaaPNextAll
import Derived.SizedLaws
set_option linter.unusedVariables false
set_option linter.unusedSimpArgs false
set_option linter.unnecessarySimpa false
namespace Go.Proofs.Ytnpolfihbfdggaa.pactNext
open Go.ChangeShapes Go.WideShapes Go.ChangeAt Go.RowKit Go.Proofs.Ytnpolfihbfdggaa
set_option linter.unusedVariables false

theorem own : ownKnob Try.prog.godebug = none := by kernel_rfl
theorem laidOut : laidOutB Try.prog = true := by kernel_rfl

set_option maxRecDepth 100000 in
theorem lifted (os : Os) (started : os.Started) (H : Type) (enc : TypeId × Value → H) :
    ReturnsInHanded {} Try.checked os 3 .any (Rows.pactNextSpec.pre6 enc Try.prog Try.f3 Rows.pactNextRow.domain false) (Rows.pactNextSpec.post enc Try.prog Try.f3 false true false false) := by
  refine returnsInHanded_of_change_sized (C := Try.checked) own started (by kernel_rfl) Try.func3
    (ChangeSpec.witness6 (enc := enc) (C := Try.checked) false ⟨#[], #[.agg (stc s1 (.slice none 0 0)).toArray, .agg #[.int .u64 0, .int .u64 0], .int .i64 0, .agg (wishCells ⟨0, 0, zcd, 0⟩).toArray], []⟩ 8 (by kernel_rfl) (by kernel_rfl) (by kernel_rfl) (by kernel_rfl)) ?_
  intro W base args ds gs before hval0 hW hcnd hsz0 _
  have hval : ∀ (j : Nat) t v, Try.f3.params[j]? = some t → args[j]? = some v → Value.okWide Try.prog W .any base t v := hval0
  have hW' := hW
  obtain ⟨p, q, hA0, hV, rfl, hfz, hnd⟩ := hW
  have hA : DataW.TrodAll enc Try.prog W 0 (fun _ => true) true Try.f3.params.toList args.toList ds p := hA0
  rw [Try.params3] at hA hval
  obtain ⟨v0, vs0, d0, ds0, p0, q0, hargs, rfl, rfl, h0, r0⟩ := trodAll_cons hA
  obtain ⟨v1, vs1, d1, ds1, p1, q1, rfl, rfl, rfl, h1, r1⟩ := trodAll_cons r0
  obtain ⟨v2, vs2, d2, ds2, p2, q2, rfl, rfl, rfl, h2, r2⟩ := trodAll_cons r1
  obtain ⟨v3, vs3, d3, ds3, p3, q3, rfl, rfl, rfl, h3, r3⟩ := trodAll_cons r2
  obtain ⟨rfl, rfl, rfl⟩ := trodAll_nil r3
  obtain rfl : args = #[v0, v1, v2, v3] := by cases args; simp_all
  obtain ⟨rfl, rfl⟩ := trodVars_none hV
  have hsz : (DataW.weightsEach Try.prog [27, 24, 3, 32] [d0, d1, d2, d3]).all (fun x => decide (x ≤ reachBytes)) = true := hsz0
  simp only [DataW.weightsEach, List.all_append, Bool.and_eq_true] at hsz
  have lt0 : ∀ x ∈ p0, x.block < W.heap.size := by obtain ⟨m, hm⟩ := h0; exact DataW.trod_lt m _ _ _ hm
  have lt1 : ∀ x ∈ p1, x.block < W.heap.size := by obtain ⟨m, hm⟩ := h1; exact DataW.trod_lt m _ _ _ hm
  have lt2 : ∀ x ∈ p2, x.block < W.heap.size := by obtain ⟨m, hm⟩ := h2; exact DataW.trod_lt m _ _ _ hm
  have lt3 : ∀ x ∈ p3, x.block < W.heap.size := by obtain ⟨m, hm⟩ := h3; exact DataW.trod_lt m _ _ _ hm
  obtain ⟨x0, g0, s0⟩ := Ty.open_arg (StT) (by kernel_rfl) h0 hsz.1
  obtain ⟨x1, g1, s1⟩ := Ty.open_arg (PutT) (by kernel_rfl) h1 hsz.2.1
  obtain ⟨x2, g2, s2⟩ := Ty.open_arg ((.int .i64)) (by kernel_rfl) h2 hsz.2.2.1
  obtain ⟨x3, g3, s3⟩ := Ty.open_arg (WishT) (by kernel_rfl) h3 hsz.2.2.2.1
  obtain ⟨c0, rfl⟩ := okWide_agg Try.underlying27 rfl (hval 0 _ v0 rfl rfl)
  obtain ⟨st0, sv0, rfl, hs0, hc0⟩ := state_open g0
  obtain ⟨c1, rfl⟩ := okWide_agg Try.underlying24 rfl (hval 1 _ v1 rfl rfl)
  obtain ⟨a1, b1, rfl, ha1, hb1⟩ := put_open g1
  obtain ⟨n2, rfl⟩ := okWide_int Try.underlying3 (hval 2 _ v2 rfl rfl)
  obtain ⟨e2, w2⟩ := g2
  have q2 : n2 = (x2 : Int) := by simpa [Value.cells] using e2
  subst n2
  obtain ⟨c3, rfl⟩ := okWide_agg Try.underlying32 rfl (hval 3 _ v3 rfl rfl)
  obtain ⟨o3, rfl, hok3, ham3, hid3, hk3⟩ := wish_open g3
  clear hA0 hval0
  refine (PNextLaw st0 sv0 a1 b1 _ o3 W _ hs0 hc0 (fun b hb => hb) ha1 hb1 hok3 ham3).mono fun e W' ⟨he, hx⟩ => ?_
  subst he
  have bel : Below W.heap.size W W' := ⟨hx.os, hx.tape, hx.output, hx.size, fun k hk => hx.block k hk (by simp)⟩
  exact ⟨_, rfl, _, _, _, [], _, [], hW', trodAll_mk1 (shut_bool Try.underlying4 _), (trodAll_cons_mk (Below.trod laidOut (by kernel_rfl) (of_decide_eq_true (by kernel_rfl)) h0 bel lt0) (trodAll_cons_mk (Below.trod laidOut (by kernel_rfl) (of_decide_eq_true (by kernel_rfl)) h1 bel lt1) (trodAll_cons_mk (Below.trod laidOut (by kernel_rfl) (of_decide_eq_true (by kernel_rfl)) h2 bel lt2) (trodAll_cons_mk (Below.trod laidOut (by kernel_rfl) (of_decide_eq_true (by kernel_rfl)) h3 bel lt3) trodAll_mk0)))), rfl, bel.frame _, fun h => by cases h⟩

theorem over : Rows.pactNextRow.holds Try.pinned (OpenSpec.ofChange Rows.pactNextSpec) :=
  OpenClaim.holds_of_wide 3 Try.f3 rfl rfl rfl rfl rfl rfl rfl ⟨rfl, rfl, rfl, rfl, rfl⟩ rfl rfl rfl rfl rfl (by kernel_rfl) Try.func3 (by kernel_rfl)
    (of_decide_eq_true (by kernel_rfl)) (by unfold Func.isWrapper; first | (rw [if_pos (by decide +kernel)]; kernel_rfl) | (rw [if_neg (by decide +kernel)]; exact ⟨rfl, rfl⟩))
    (fun os started H enc _ => lifted os started H enc)

theorem proved : Rows.PactNextSaid := over
#print axioms proved
end Go.Proofs.Ytnpolfihbfdggaa.pactNext
