/- Walks and plain laws, put together in build order. Conditions: what each of them names. -/
import Derived.Test.YtmicjaiiinaipaaW4adab0c79f
set_option linter.unusedVariables false
set_option linter.unusedSimpArgs false
set_option linter.unnecessarySimpa false
namespace Go.Proofs.Ytmicjaiiinaipaa
section
open Go.RowKit

theorem takenD_self {tk : List Bool} {k : Nat} (h : k < tk.length) : takenM (tk.set k true) k = true := by simp [takenM, List.getD, h]
theorem takenD_none (n o : Nat) : takenM (List.replicate n false) o = false := by
  simp only [takenM, List.getD, List.getElem?_replicate]
  split <;> rfl
theorem rem_three (P : Program) (t : TypeId) (m : Nat) (w : World) : (binOp .rem t (.int .u64 (m : Int)) (.int .u64 3)).run P w = .ok (.int .u64 ((m % 3 : Nat) : Int)) w := by
  have h : (m : Int).tmod 3 = ((m % 3 : Nat) : Int) := by rw [Int.tmod_eq_emod_of_nonneg (by omega)]; rfl
  rw [← h]; rfl
theorem add_one_u64 (P : Program) (t : TypeId) {m : Nat} (h : m < 3) (w : World) : (binOp .add t (.int .u64 1) (.int .u64 (m : Int))).run P w = .ok (.int .u64 ((1 + m : Nat) : Int)) w := by
  rcases (show m = 0 ∨ m = 1 ∨ m = 2 by omega) with rfl | rfl | rfl <;> rfl
theorem run_build_ar {P : Program} (w : World) (t : TypeId) (parts : Array (Nat × Value)) (n : Nat) (e : TypeId) (sz : Nat) (z r : List Value) (segs : List (Nat × List Value)) (hu : P.underlying t = some (.array n e))
    (hz : (P.info? t).bind (fun i => i.zero.map (·.cells)) = some z.toArray) (he : (P.info? e).map (·.size) = some sz)
    (hs : parts.toList.map (fun p => (p.1, p.2.cells)) = segs.map (fun p => (p.1, p.2.toArray))) (hf : fillL (fun i => some (i * sz, sz)) z segs = some r) : (Instr.build t parts).run P w = .ok (.agg r.toArray) w := by
  obtain ⟨i, hi, hzz⟩ := Option.bind_eq_some_iff.1 hz
  obtain ⟨zv, hzv, hzc⟩ := Option.map_eq_some_iff.1 hzz
  obtain ⟨ie, hie, hsz⟩ := Option.map_eq_some_iff.1 he
  refine run_build w t parts _ ?_
  unfold Program.built
  simp only [hi, hu, hzv, hie, hzc, hsz]
  exact fill_segs _ _ _ _ _ hs hf
theorem wpList_build_ar {P : Program} {w : World} {ops : Array Oper} {rest : List Oper} {o : Oper} {a : Act} {Q : Exit → Act → World → Prop} (hgd : o.guard = none ∨ Region.wanted o (yielded ops a.tmps) = true) (t : TypeId) (parts : Array (Nat × Operand)) (ho : o.op = .build t parts) (n : Nat) (e : TypeId) (sz : Nat) (z r : List Value) (segs : List (Nat × List Value)) (hu : P.underlying t = some (.array n e))
    (hz : (P.info? t).bind (fun i => i.zero.map (·.cells)) = some z.toArray) (he : (P.info? e).map (·.size) = some sz)
    (hs : (parts.map fun p => (p.1, a.eval p.2)).toList.map (fun p => (p.1, p.2.cells)) = segs.map (fun p => (p.1, p.2.toArray))) (hf : fillL (fun i => some (i * sz, sz)) z segs = some r)
    (h : wpList P ops Q rest (a.put o.dst (.agg r.toArray)) w) : wpList P ops Q (o :: rest) a w :=
  wpList_build hgd t parts ho _ (by
    unfold execOp
    simp only [ho]
    rw [Sem.run_bind, run_build_ar w t _ n e sz z r segs hu hz he hs hf]
    simp) h
theorem fill_two {n : Nat} {A B z : List Value} (hA : A.length = n) (hB : B.length = n) (hz : z.length = n + n) : fillL (fun i => some (i * n, n)) z [(0, A), (1, B)] = some (A ++ B) := by
  simp [fillL, hA, hB, hz, List.drop_append, List.take_append]
theorem fill_deed2 {A B Z G : List Value} (hB : B.length = 7) (hG : G.length = 2052) (hZ : Z.length = 2052) (hA : A.length = 7 := by rfl) : fillL ([(0, 7), (7, 2052)].toArray[·]?) (A ++ Z) [(0, B), (1, G)] = some (B ++ G) := by
  simp [fillL, hA, hB, hG, hZ, List.drop_append, List.take_append]
theorem fill_roots {Z R : List Value} (hZ : Z.length = 64) (hR : R.length = 64) (x y : Value) : fillL ([(0, 64), (64, 1)].toArray[·]?) (Z ++ [x]) [(0, R), (1, [y])] = some (R ++ [y]) := by
  simp [fillL, hZ, hR, List.drop_append, List.take_append]
theorem drop_two {A B C : List Value} (hA : A.length = 7) (hB : B.length = 1026) : (A ++ (B ++ C)).drop 1033 = C := by
  rw [← List.append_assoc]
  exact List.drop_left' (by rw [List.length_append, hA, hB])
theorem two_sig_zero : (Try.prog.info? 73).bind (fun i => i.zero.map (·.cells)) = some (zsg ++ zsg).toArray := by kernel_rfl
theorem two_dig_zero : (Try.prog.info? 77).bind (fun i => i.zero.map (·.cells)) = some (List.replicate 64 (Value.int .u8 0)).toArray := by kernel_rfl
theorem roots_zero : (Try.prog.info? 79).bind (fun i => i.zero.map (·.cells)) = some (List.replicate 64 (Value.int .u8 0) ++ [Value.int .i64 0]).toArray := by kernel_rfl
theorem roots_fields : ∃ fields, Try.prog.underlying 79 = some (.struct fields) ∧ fields.toList.mapM (fun f => (Try.prog.info? f.type).map fun i => (f.offset, i.size)) = some [(0, 64), (64, 1)] :=
  ⟨_, Try.underlying79, by kernel_rfl⟩
set_option maxRecDepth 100000 in
set_option maxHeartbeats 16000000 in
theorem DSignsLight (sa sb : List UInt8) (hsa : sa.length = 32) (hsb : sb.length = 32) (s0 o0 : St) (hw : StWf s0) (hwo : StWf o0) (A A2 : Option Addr) (c c2 : Nat) (F : Fp) (w : World) (hc : Conds w F (.slice A (List.length (α := Cd) s0.cs) c) s0.cs) (hco : Conds w F (.slice A2 (List.length (α := Cd) o0.cs) c2) o0.cs) (hF : ∀ b, F b → b < w.heap.size)
    (hl : List.length (α := Cd) s0.cs ≤ 30) (hlo : List.length (α := Cd) o0.cs ≤ 30) :
    Calls Try.prog 4 #[.agg (bv sa).toArray, .agg (bv sb).toArray, stv s0 (.slice A (List.length (α := Cd) s0.cs) c), stv o0 (.slice A2 (List.length (α := Cd) o0.cs) c2)] w fun e w' => e = .returned (.bool true) ∧ Ext w w' := by
    have hlight := fun W => DLight s0 A (List.length (α := Cd) s0.cs) c W (by omega)
    have hlight2 := fun W => DLight o0 A2 (List.length (α := Cd) o0.cs) c2 W (by omega)
    rw [decide_eq_true hl] at hlight
    rw [decide_eq_true hlo] at hlight2
    obtain ⟨s1, hs1⟩ : ∃ s1 : St, s1 = ⟨s0.chan, 1 + s0.round % 3, s0.m0, s0.m1, s0.t0, s0.t1, s0.cs⟩ := ⟨_, rfl⟩
    obtain ⟨o1, ho1⟩ : ∃ o1 : St, o1 = ⟨o0.chan, 1 + s0.round % 3, o0.m0, o0.m1, o0.t0, o0.t1, o0.cs⟩ := ⟨_, rfl⟩
    have hr1 : s1.round = 1 + s0.round % 3 := by rw [hs1]
    have hro : o1.round = s1.round := by rw [ho1, hs1]
    have hcs : s1.cs = s0.cs := by rw [hs1]
    have hcso : o1.cs = o0.cs := by rw [ho1]
    have hr4 : s1.round < 2 ^ 2 := by rw [hr1]; have := Nat.mod_lt s0.round (show 0 < 3 by decide); omega
    have hr10 : s1.round ≠ 0 := by omega
    have hrwf : (Lit.int .u64 ((1 + s0.round % 3 : Nat) : Int)).wf = true := by have := Nat.mod_lt s0.round (show 0 < 3 by decide); simp [Lit.wf, IntKind.bits, IntKind.signed, IntKind.min, IntKind.max]; omega
    have hw1 : StWf s1 := by rw [hs1]; exact ⟨hw.chan, hrwf, hw.m0, hw.m1, hw.t0, hw.t1⟩
    have hwo1 : StWf o1 := by rw [ho1]; exact ⟨hwo.chan, hrwf, hwo.m0, hwo.m1, hwo.t0, hwo.t1⟩
    have hchan : s1.chan < 4294967296 := by have := bounds_u32 hw1.chan; omega
    have hrem := fun P t W => rem_three P t s0.round W
    have hadd : ∀ (P : Program) (t : TypeId) (w : World), (binOp .add t (.int .u64 1) (.int .u64 ((s0.round % 3 : Nat) : Int))).run P w = .ok (.int .u64 (s1.round : Int)) w := fun P t W => by rw [hr1]; exact add_one_u64 P t (Nat.mod_lt _ (by decide)) W
    have hto := fun W (hx : Ext w W) => To12 s1 _ W F (by rw [hcs]; exact hx.holds hF hc) (fun b hb => Nat.lt_of_lt_of_le (hF b hb) hx.size) (by rw [hcs]; omega)
    have hto2 := fun W (hx : Ext w W) => To12 o1 _ W F (by rw [hcso]; exact hx.holds hF hco) (fun b hb => Nat.lt_of_lt_of_le (hF b hb) hx.size) (by rw [hcso]; omega)
    have hl1 : List.length (α := Cd) s1.cs ≤ 1000 := by rw [hcs]; omega
    have hlo1 : List.length (α := Cd) o1.cs ≤ 1000 := by rw [hcso]; omega
    have hna : ∀ W, Calls Try.prog 16 #[.agg (bv sa).toArray, .int .i64 2] W _ := fun W => Ring_New sa hsa 2 (by decide) W
    have hnb : ∀ W, Calls Try.prog 16 #[.agg (bv sb).toArray, .int .i64 2] W _ := fun W => Ring_New sb hsb 2 (by decide) W
    have hlen : (List.replicate (2 ^ 2) false).length = 2 ^ 2 := List.length_replicate
    have ht0 : takenM (List.replicate (2 ^ 2) false) s1.round = false := takenD_none _ _
    have ht1 : takenM ((List.replicate (2 ^ 2) false).set s1.round true) s1.round = true := takenD_self (by rw [hlen]; exact hr4)
    have hsi := fun (sd : List UInt8) (W : World) (g tb : Nat) (FR : Fp) (R : Value) (v : Value) {SV : List Value} (hv : SV = stc s1 v) (h : RingAt W g tb FR R sd 2 (List.replicate (2 ^ 2) false)) (hcv : Conds W (fun b => v.ownBlock = some b) v s1.cs) (hFv : ∀ b, v.ownBlock = some b → b < W.heap.size ∧ b ≠ tb) =>
      (show Calls Try.prog 17 #[.pointer (some ⟨g, 0, none⟩), .agg SV.toArray] W _ from by subst hv; exact DSign h s1 hw1 v _ hcv hFv hl1 hr4 ht0)
    have hag := fun (sd : List UInt8) (W : World) (g tb : Nat) (FR : Fp) (R : Value) (v : Value) {SV : List Value} (hv : SV = stc s1 v) (h : RingAt W g tb FR R sd 2 ((List.replicate (2 ^ 2) false).set s1.round true)) (hcv : Conds W (fun b => v.ownBlock = some b) v s1.cs) (hFv : ∀ b, v.ownBlock = some b → b < W.heap.size ∧ b ≠ tb) =>
      (show Calls Try.prog 18 #[.pointer (some ⟨g, 0, none⟩), .agg SV.toArray] W _ from by subst hv; exact DAgain h s1 hw1 v _ hcv hFv hl1 hr4 ht1)
    have hno := fun (W : World) (g tb : Nat) (FR : Fp) (R : Value) (v : Value) (h : RingAt W g tb FR R sa 2 ((List.replicate (2 ^ 2) false).set s1.round true)) (hcv : Conds W (fun b => v.ownBlock = some b) v o1.cs) (hFv : ∀ b, v.ownBlock = some b → b < W.heap.size ∧ b ≠ tb) =>
      (show Calls Try.prog 17 #[.pointer (some ⟨g, 0, none⟩), .agg (stc o1 v).toArray] W _ from DSignNo h o1 hwo1 v _ hcv hFv hlo1 (by rw [hro]; exact hr4) (by rw [hro]; exact ht1))
    have hrt := fun (sd : List UInt8) (W : World) (g tb : Nat) (FR : Fp) (R : Value) (h : RingAt W g tb FR R sd 2 ((List.replicate (2 ^ 2) false).set s1.round true)) => Ring_Root h
    have hkw : (Lit.int .u32 (s1.round : Int)).wf = true := Go.WalkArith.wf_u32 (by omega)
    obtain ⟨RR, hRR⟩ : ∃ RR, RR = bv (rootM sa 2) ++ bv (rootM sb 2) := ⟨_, rfl⟩
    obtain ⟨RC, hRC⟩ : ∃ RC, RC = RR ++ [Value.int .i64 2] := ⟨_, rfl⟩
    have hxl : (bv (rootM sa 2)).length = 32 := by rw [bv_length]; exact rootM_length _ _
    have hyl : (bv (rootM sb 2)).length = 32 := by rw [bv_length]; exact rootM_length _ _
    have hrrl : RR.length = 64 := by rw [hRR, List.length_append, hxl, hyl]
    have hrcl : RC.length = 65 := by rw [hRC, List.length_append, hrrl]; rfl
    have hrco : ∀ u ∈ RC, u.oneCell' = true := by
      rw [hRC, hRR]
      intro u hu
      rcases List.mem_append.1 hu with h | h
      · rcases List.mem_append.1 h with h | h
        · exact bv_one _ u h
        · exact bv_one _ u h
      · obtain rfl : u = .int .i64 2 := by simpa using h
        rfl
    have hwl : ∀ sd, List.length (α := Dg) (wayM sd 2 s1.round) = 2 := fun sd => wayM_length _ _ _
    have hrt64 : RC[64]? = some (.int .i64 ((2 : Nat) : Int)) := by rw [hRC, List.getElem?_append_right (by rw [hrrl]; exact Nat.le_refl _), hrrl]; rfl
    have hd0 : (RC.drop 0).take 32 = bv (rootM sa 2) := by rw [List.drop_zero, hRC, hRR, List.append_assoc]; exact List.take_left' hxl
    have hd1 : (RC.drop 32).take 32 = bv (rootM sb 2) := by rw [hRC, hRR, List.append_assoc, List.drop_left' hxl]; exact List.take_left' hyl
    have hR0 := fun (v : Value) (Fv : Fp) (W : World) (hcv : Conds W Fv v s1.cs) (hFv : ∀ b, Fv b → b < W.heap.size) (v1 : Value) (F1 : Fp) (hw1' : Ways W F1 v1 (wayM sa 2 s1.round)) (hF1 : ∀ b, F1 b → b < W.heap.size) =>
      (show Calls Try.prog 23 #[.agg RC.toArray, .int .i64 0, .agg (stc s1 v).toArray, .agg (sigC (bv (signM sa s1.round (sumD s1))) s1.round v1).toArray] W fun e w' => e = .returned (.bool true) ∧ Ext W w' from by
        have h := DRight0 RC hrcl (rootM sa 2) (rootM_length _ _) hd0 2 (by decide) hrt64 s1 hw1 v Fv W hcv hFv hl1 (by omega) (signM sa s1.round (sumD s1)) (signM_length _ _ _) s1.round v1 (wayM sa 2 s1.round) F1 hw1' hF1 (by rw [hwl]; omega) hkw
        rw [right_signed sa 2 s1.round (sumD s1) hr4] at h
        exact h)
    have hR1 := fun (v : Value) (Fv : Fp) (W : World) (hcv : Conds W Fv v s1.cs) (hFv : ∀ b, Fv b → b < W.heap.size) (v1 : Value) (F1 : Fp) (hw1' : Ways W F1 v1 (wayM sb 2 s1.round)) (hF1 : ∀ b, F1 b → b < W.heap.size) =>
      (show Calls Try.prog 23 #[.agg RC.toArray, .int .i64 1, .agg (stc s1 v).toArray, .agg (sigC (bv (signM sb s1.round (sumD s1))) s1.round v1).toArray] W fun e w' => e = .returned (.bool true) ∧ Ext W w' from by
        have h := DRight1 RC hrcl (rootM sb 2) (rootM_length _ _) hd1 2 (by decide) hrt64 s1 hw1 v Fv W hcv hFv hl1 (by omega) (signM sb s1.round (sumD s1)) (signM_length _ _ _) s1.round v1 (wayM sb 2 s1.round) F1 hw1' hF1 (by rw [hwl]; omega) hkw
        rw [right_signed sb 2 s1.round (sumD s1) hr4] at h
        exact h)
    obtain ⟨SG, hSG⟩ : ∃ SG, SG = bv (signM sa s1.round (sumD s1)) := ⟨_, rfl⟩
    have hsgl : SG.length = 1024 := by rw [hSG, bv_length]; exact signM_length _ _ _
    have hsgo : ∀ u ∈ SG, u.oneCell' = true := by rw [hSG]; exact bv_one _
    have hsgh : ∀ W, SigT.holds W (fun _ => True) SG (chunks 32 ((signM sa s1.round (sumD s1)).take 512), chunks 32 ((signM sa s1.round (sumD s1)).drop 512), ()) := fun W => by rw [hSG]; exact sig_holds _ (signM_length _ _ _) W (fun _ => True)
    rw [← hSG] at hR0
    have hfr := fun (u : Value) (W : World) (Fw : Fp) (hcw : Ways W Fw u (wayM sa 2 s1.round)) (hFw : ∀ b, Fw b → b < W.heap.size) => From05 SG s1.round u (wayM sa 2 s1.round) W Fw hsgl hsgo hcw hFw (by rw [hwl]; omega)
    have hsm := fun (u v : Value) (W : World) (ho : OwnD 28 W u (wayM sa 2 s1.round)) (ho2 : OwnD 28 W v (wayM sa 2 s1.round)) =>
      RSame05 SG s1.round u v (wayM sa 2 s1.round) _ W (fun b => u.ownBlock = some b ∨ v.ownBlock = some b) hsgl (hsgh W) (Ty.keep (t := .sl DigT) (fun _ _ => rfl) (fun _ h => .inl h) ho.holds) (Ty.keep (t := .sl DigT) (fun _ _ => rfl) (fun _ h => .inr h) ho2.holds) (fun b hb => hb.elim (ho.lt b) (ho2.lt b))
    obtain ⟨c9, hc9⟩ : ∃ c9, c9 = (s1.chan + 1) % 4294967296 := ⟨_, rfl⟩
    have hc9n : s1.chan ≠ c9 := by omega
    have HW135 : Hid (IntKind.u32.wrap ((s1.chan : Int) + 1) = (c9 : Int)) := Lib.hid (by rw [hc9]; simp [IntKind.wrap, IntKind.bits, IntKind.signed])
    have hzr := zSig_zero
    have hzl := zSig_len
    have hzo := zSig_one
    obtain ⟨ZR, hZR⟩ : ∃ ZR, ZR = zSig := ⟨_, rfl⟩
    rw [← hZR] at hzr hzl hzo hno
    have hf89 : fillL (fun i => some (i * 32, 32)) (List.replicate 64 (Value.int .u8 0)) [(0, bv (rootM sa 2)), (1, bv (rootM sb 2))] = some RR := by rw [hRR]; exact fill_two hxl hyl (by rw [List.length_replicate])
    have hf90 : fillL ([(0, 64), (64, 1)].toArray[·]?) (List.replicate 64 (Value.int .u8 0) ++ [Value.int .i64 0]) [(0, RR), (1, [Value.int .i64 2])] = some RC := by rw [hRC]; exact fill_roots (List.length_replicate) hrrl _ _
    obtain ⟨SC, hSC⟩ : ∃ SC, SC = stc s0 (.slice A (List.length (α := Cd) s0.cs) c) := ⟨_, rfl⟩
    obtain ⟨OC, hOC⟩ : ∃ OC, OC = stc o0 (.slice A2 (List.length (α := Cd) o0.cs) c2) := ⟨_, rfl⟩
    obtain ⟨SC1, hSC1⟩ : ∃ SC1, SC1 = stc s1 (.slice A (List.length (α := Cd) s0.cs) c) := ⟨_, rfl⟩
    obtain ⟨OC1, hOC1⟩ : ∃ OC1, OC1 = stc o1 (.slice A2 (List.length (α := Cd) o0.cs) c2) := ⟨_, rfl⟩
    have hst : stv s0 (.slice A (List.length (α := Cd) s0.cs) c) = .agg SC.toArray := by rw [hSC]; rfl
    have hst2 : stv o0 (.slice A2 (List.length (α := Cd) o0.cs) c2) = .agg OC.toArray := by rw [hOC]; rfl
    have hset : SC.set 1 (.int .u64 (s1.round : Int)) = SC1 := by rw [hSC, hSC1, hs1]; rfl
    have hseto : OC.set 1 (.int .u64 (s1.round : Int)) = OC1 := by rw [← hro, hOC, hOC1, ho1]; rfl
    have hscl : SC.length = 7 := by rw [hSC]; rfl
    have hocl : OC.length = 7 := by rw [hOC]; rfl
    have hsc1l : SC1.length = 7 := by rw [hSC1]; rfl
    have hoc1l : OC1.length = 7 := by rw [hOC1]; rfl
    have hsc1 : SC[1]? = some (.int .u64 (s0.round : Int)) := by rw [hSC]; rfl
    have hoc1 : OC[1]? = some (.int .u64 (o0.round : Int)) := by rw [hOC]; rfl
    have hch : SC1[0]? = some (.int .u32 (s1.chan : Int)) := by rw [hSC1]; rfl
    rw [hst] at hlight ⊢
    rw [hst2] at hlight2 ⊢
    rw [← hSC1] at hto
    rw [← hOC1] at hto2
    have hal : (bv sa).length = 32 := by rw [bv_length]; exact hsa
    have hbl : (bv sb).length = 32 := by rw [bv_length]; exact hsb
    generalize bv sa = AC at *
    generalize bv sb = BC at *
    have hrtx := hrt sa
    have hrty := hrt sb
    obtain ⟨RTX, hRTX⟩ : ∃ X, X = bv (rootM sa 2) := ⟨_, rfl⟩
    obtain ⟨RTY, hRTY⟩ : ∃ X, X = bv (rootM sb 2) := ⟨_, rfl⟩
    rw [← hRTX] at hf89 hrtx
    rw [← hRTY] at hf89 hrty
    obtain ⟨fieldsD, hfuD, hfpD⟩ := deed_fields
    obtain ⟨fieldsR, hfuR, hfpR⟩ := roots_fields
    have hx0 : Ext w ((((w.alloc (.cells AC.toArray 28)).alloc (.cells BC.toArray 28)).alloc (.cells SC.toArray 27)).alloc (.cells OC.toArray 27)) := ((((Ext.refl w).alloc _).alloc _).alloc _).alloc _
    have hb4 : Blk ((((w.alloc (.cells AC.toArray 28)).alloc (.cells BC.toArray 28)).alloc (.cells SC.toArray 27)).alloc (.cells OC.toArray 27)) w.heap.size 28 AC := (Blk.new _ _ _).keep ((((Ext.refl _).alloc _).alloc _).alloc _) (by simp)
    have hb5 : Blk ((((w.alloc (.cells AC.toArray 28)).alloc (.cells BC.toArray 28)).alloc (.cells SC.toArray 27)).alloc (.cells OC.toArray 27)) (w.heap.size + 1) 28 BC := (Blk.new_at (by simp) _ _).keep (((Ext.refl _).alloc (.cells SC.toArray 27)).alloc (.cells OC.toArray 27)) (by simp)
    have hb6 : Blk ((((w.alloc (.cells AC.toArray 28)).alloc (.cells BC.toArray 28)).alloc (.cells SC.toArray 27)).alloc (.cells OC.toArray 27)) (w.heap.size + 2) 27 SC := (Blk.new_at (by simp) _ _).keep ((Ext.refl _).alloc (.cells OC.toArray 27)) (by simp)
    have hb7 : Blk ((((w.alloc (.cells AC.toArray 28)).alloc (.cells BC.toArray 28)).alloc (.cells SC.toArray 27)).alloc (.cells OC.toArray 27)) (w.heap.size + 3) 27 OC := Blk.new_at (by simp) _ _
    have HL1 := Lib.hid hlight
    have HL2 := Lib.hid hlight2
    have HX := Lib.hid hx0
    have HB4 := Lib.hid hb4
    have HB5 := Lib.hid hb5
    have HB6 := Lib.hid hb6
    have HB7 := Lib.hid hb7
    have HREM := Lib.hid hrem
    have HADD := Lib.hid hadd
    have HTO := Lib.hid hto
    have HTO2 := Lib.hid hto2
    have HNA := Lib.hid hna
    have HNB := Lib.hid hnb
    have HSIA := Lib.hid (hsi sa)
    have HSIB := Lib.hid (hsi sb)
    have HAG := Lib.hid (hag sa)
    have HNO := Lib.hid hno
    have HRTX := Lib.hid hrtx
    have HRTY := Lib.hid hrty
    have HR0 := Lib.hid hR0
    have HR1 := Lib.hid hR1
    have HFR := Lib.hid hfr
    have HSAME := Lib.hid hsm
    have HC9 := Lib.hid hc9n
    have HZL := Lib.hid hzl
    have HF89 := Lib.hid hf89
    have HF90 := Lib.hid hf90
    have HSET := Lib.hid hset
    have HSETO := Lib.hid hseto
    have HSCL := Lib.hid hscl
    have HOCL := Lib.hid hocl
    have HSC1L := Lib.hid hsc1l
    have HOC1L := Lib.hid hoc1l
    have HSC1 := Lib.hid hsc1
    have HOC1 := Lib.hid hoc1
    have HCH := Lib.hid hch
    have HAL := Lib.hid hal
    have HBL := Lib.hid hbl
    have HRCL := Lib.hid hrcl
    have HR10 := Lib.hid hr10
    have HSGE := Lib.hid hSG
    clear hlight hlight2 hx0 hb4 hb5 hb6 hb7 hrem hadd hto hto2 hna hnb hno hrtx hrty hR0 hR1 hfr hsm hc9n hzl hf89 hf90 hset hseto hscl hocl hsc1l hoc1l hsc1 hoc1 hch hal hbl hrcl hr10 hSG hsi hag hrt hkw hwl hrt64 hd0 hd1 hsgl hsgo hsgh hc9 hZR hRR hRC hxl hyl hrrl hSC hOC hSC1 hOC1 hst hst2 hRTX hRTY hr1 hro hcs hcso hr4 hrwf hw1 hwo1 hchan hl1 hlo1 hlen ht0 ht1 hs1 ho1 hw hwo hc hco hl hlo hF hsa hsb
    go_enter Try.func4, Try.ntmps4
    go_wp2_with (first
      | ((with_reducible refine wpDst 24 rfl ?_); refine wpList_load_agg _ rfl 27 (.tmp 6) rfl _ rfl SC _ Try.underlying27 rfl (szRState HSCL.out) (by exact HB6.out.cells) ?_)
      | fail)
    refine (HL1.out _).mono ?_
    rintro e w1 ⟨rfl, hx1⟩
    replace HB4 := Lib.hid (HB4.out.keep hx1 (by simp))
    replace HB5 := Lib.hid (HB5.out.keep hx1 (by simp))
    replace HB6 := Lib.hid (HB6.out.keep hx1 (by simp))
    replace HB7 := Lib.hid (HB7.out.keep hx1 (by simp))
    replace HX := Lib.hid (HX.out.trans hx1)
    clear hx1
    go_wp2_with (first
      | ((with_reducible refine wpDst 28 rfl ?_); refine wpList_loadG (.inr (by kernel_rfl)) 27 (.tmp 7) rfl _ rfl OC _ Try.underlying27 rfl (szRState HOCL.out) (by exact HB7.out.cells) ?_)
      | fail)
    refine (HL2.out _).mono ?_
    rintro e w2 ⟨rfl, hx2⟩
    replace HB4 := Lib.hid (HB4.out.keep hx2 (by simp))
    replace HB5 := Lib.hid (HB5.out.keep hx2 (by simp))
    replace HB6 := Lib.hid (HB6.out.keep hx2 (by simp))
    replace HB7 := Lib.hid (HB7.out.keep hx2 (by simp))
    replace HX := Lib.hid (HX.out.trans hx2)
    clear hx2
    have cs1 : w2.cell? ⟨w.heap.size + 2, 1, none⟩ = some (.int .u64 (s0.round : Int)) := (HB6.out.cell 1).trans HSC1.out
    have fs1 : w2.frozen? ⟨w.heap.size + 2, 1, none⟩ = false := HB6.out.free 1
    have hk1 : w2.grownBy (w2.setCell ⟨w.heap.size + 2, 1, none⟩ (.int .u64 (s1.round : Int))) (some (w.heap.size + 2)) := only_set 1 _
    have hb6 := HB6.out.set 1 (.int .u64 (s1.round : Int))
    rw [HSET.out] at hb6
    have HB7b := Lib.hid (HB7.out.keep hk1 (by simp))
    have co1 : (w2.setCell ⟨w.heap.size + 2, 1, none⟩ (.int .u64 (s1.round : Int))).cell? ⟨w.heap.size + 3, 1, none⟩ = some (.int .u64 (o0.round : Int)) := (HB7b.out.cell 1).trans HOC1.out
    have fo1 : (w2.setCell ⟨w.heap.size + 2, 1, none⟩ (.int .u64 (s1.round : Int))).frozen? ⟨w.heap.size + 3, 1, none⟩ = false := HB7b.out.free 1
    have hk2 : (w2.setCell ⟨w.heap.size + 2, 1, none⟩ (.int .u64 (s1.round : Int))).grownBy ((w2.setCell ⟨w.heap.size + 2, 1, none⟩ (.int .u64 (s1.round : Int))).setCell ⟨w.heap.size + 3, 1, none⟩ (.int .u64 (s1.round : Int))) (some (w.heap.size + 3)) := only_set 1 _
    have hb7 := HB7b.out.set 1 (.int .u64 (s1.round : Int))
    rw [HSETO.out] at hb7
    have hx3 : Ext w ((w2.setCell ⟨w.heap.size + 2, 1, none⟩ (.int .u64 (s1.round : Int))).setCell ⟨w.heap.size + 3, 1, none⟩ (.int .u64 (s1.round : Int))) := grown_then (grown_then HX.out hk1 (.inr (by rintro b ⟨⟩; omega))) hk2 (.inr (by rintro b ⟨⟩; omega))
    have hsz3 : ((w2.setCell ⟨w.heap.size + 2, 1, none⟩ (.int .u64 (s1.round : Int))).setCell ⟨w.heap.size + 3, 1, none⟩ (.int .u64 (s1.round : Int))).heap.size = w2.heap.size := by simp
    have HN0 : Hid (w.heap.size + 3 < ((w2.setCell ⟨w.heap.size + 2, 1, none⟩ (.int .u64 (s1.round : Int))).setCell ⟨w.heap.size + 3, 1, none⟩ (.int .u64 (s1.round : Int))).heap.size) := Lib.hid (by have := HB7.out.lt; omega)
    replace HX := Lib.hid hx3
    replace HB4 := Lib.hid ((HB4.out.keep hk1 (by simp)).keep hk2 (by simp))
    replace HB5 := Lib.hid ((HB5.out.keep hk1 (by simp)).keep hk2 (by simp))
    replace HB6 := Lib.hid (hb6.keep hk2 (by simp))
    replace HB7 := Lib.hid hb7
    clear hk1 hk2 hb6 hb7 HB7b hx3 hsz3
    go_wp2_with (first
      | ((with_reducible refine wpDst 35 rfl ?_); go_must (refine wpList_bin2 rfl .rem 23 (.tmp 34) _ rfl (.int .u64 (s0.round : Int)) (.int .u64 3) rfl rfl rfl (HREM.out _ _ _) ?_))
      | ((with_reducible refine wpDst 36 rfl ?_); go_must (refine wpList_bin2 rfl .add 23 _ (.tmp 35) rfl (.int .u64 1) (.int .u64 ((s0.round % 3 : Nat) : Int)) rfl rfl rfl (HADD.out _ _ _) ?_))
      | ((with_reducible refine wpDst 39 rfl ?_); go_must (refine wpList_bin2 rfl .rem 23 (.tmp 38) _ rfl (.int .u64 (s0.round : Int)) (.int .u64 3) rfl rfl rfl (HREM.out _ _ _) ?_))
      | ((with_reducible refine wpDst 40 rfl ?_); go_must (refine wpList_bin2 rfl .add 23 _ (.tmp 39) rfl (.int .u64 1) (.int .u64 ((s0.round % 3 : Nat) : Int)) rfl rfl rfl (HADD.out _ _ _) ?_))
      | ((with_reducible refine wpDst 44 rfl ?_); refine wpList_load_agg _ rfl 28 (.tmp 4) rfl _ rfl AC _ Try.underlying28 rfl (szElTo05 HAL.out) (by exact HB4.out.cells) ?_)
      | fail)
    clear cs1 fs1 co1 fo1
    generalize ((w2.setCell ⟨w.heap.size + 2, 1, none⟩ (.int .u64 (s1.round : Int))).setCell ⟨w.heap.size + 3, 1, none⟩ (.int .u64 (s1.round : Int))) = w3 at *
    refine (HNA.out _).mono ?_
    rintro e w4 ⟨gx, tx, FX, RX, rfl, hrx, hx4, hg1, ht1, hF1⟩
    replace HB5 := Lib.hid (HB5.out.keep hx4 (by simp))
    replace HB6 := Lib.hid (HB6.out.keep hx4 (by simp))
    replace HB7 := Lib.hid (HB7.out.keep hx4 (by simp))
    replace HX := Lib.hid (HX.out.trans hx4)
    have HN1 : Hid (w3.heap.size ≤ w4.heap.size ∧ w3.heap.size ≤ gx ∧ w3.heap.size ≤ tx ∧ gx < w4.heap.size ∧ tx < w4.heap.size) := Lib.hid ⟨hx4.size, hg1, ht1, hrx.blk.lt, hrx.tak.lt⟩
    have HFX : Hid (∀ b, FX b → b < w4.heap.size) := Lib.hid fun b hb => (hrx.fp b hb).1
    have HRX := Lib.hid hrx
    clear hx4 hg1 ht1 hF1 hrx HB4
    go_wp2_with (first
      | ((with_reducible refine wpDst 49 rfl ?_); refine wpList_load_agg _ rfl 28 (.tmp 5) rfl _ rfl BC _ Try.underlying28 rfl (szElTo05 HBL.out) (by exact HB5.out.cells) ?_)
      | fail)
    refine (HNB.out _).mono ?_
    rintro e w5 ⟨gy, ty, FY, RY, rfl, hry, hx5, hg1, ht1, hF1⟩
    replace HB6 := Lib.hid (HB6.out.keep hx5 (by simp))
    replace HB7 := Lib.hid (HB7.out.keep hx5 (by simp))
    replace HX := Lib.hid (HX.out.trans hx5)
    have HN2 : Hid (w4.heap.size ≤ w5.heap.size ∧ w4.heap.size ≤ gy ∧ w4.heap.size ≤ ty ∧ gy < w5.heap.size ∧ ty < w5.heap.size) := Lib.hid ⟨hx5.size, hg1, ht1, hry.blk.lt, hry.tak.lt⟩
    have HFY : Hid (∀ b, FY b → w4.heap.size ≤ b) := Lib.hid hF1
    replace HRX := Lib.hid (HRX.out.ext hx5)
    have HRY := Lib.hid hry
    clear hx5 hg1 ht1 hF1 hry HB5
    go_wp2_with (first
      | ((with_reducible refine wpDst 53 rfl ?_); refine wpList_load_agg _ rfl 27 (.tmp 6) rfl _ rfl SC1 _ Try.underlying27 rfl (szRState HSC1L.out) (by exact HB6.out.cells) ?_)
      | fail)
    refine (HTO.out _ HX.out).mono ?_
    rintro e w6 ⟨v, rfl, hov, hx6, hvn⟩
    obtain ⟨A3, c3, hv⟩ := hov.2.form
    have hsvo : ∀ u ∈ stc s1 v, u.oneCell' = true := by rw [hv]; exact stc_one _ _ _ _
    have hx7 : Ext w6 (w6.alloc (.cells (stc s1 v).toArray 40)) := (Ext.refl _).alloc _
    have hx67 := hx6.trans hx7
    replace HB6 := Lib.hid (HB6.out.keep hx67 (by simp))
    replace HB7 := Lib.hid (HB7.out.keep hx67 (by simp))
    replace HX := Lib.hid (HX.out.trans hx67)
    replace HRX := Lib.hid (HRX.out.ext hx67)
    replace HRY := Lib.hid (HRY.out.ext hx67)
    have HN3 : Hid (w5.heap.size ≤ w6.heap.size ∧ w6.heap.size < (w6.alloc (.cells (stc s1 v).toArray 40)).heap.size) := Lib.hid ⟨hx6.size, by simp⟩
    have HFV : Hid (∀ b, v.ownBlock = some b → w5.heap.size ≤ b ∧ b < w6.heap.size) := Lib.hid fun b hb => ⟨hvn b hb, hov.lt b hb⟩
    have HCV : Hid (Conds (w6.alloc (.cells (stc s1 v).toArray 40)) (fun b => v.ownBlock = some b) v s1.cs) := Lib.hid (hx7.holds hov.lt hov.holds)
    have HB13 : Hid (Blk (w6.alloc (.cells (stc s1 v).toArray 40)) w6.heap.size 40 (stc s1 v)) := Lib.hid (Blk.new _ _ _)
    obtain ⟨SV, hSV⟩ : ∃ SV, SV = stc s1 v := ⟨_, rfl⟩
    have hsvl : SV.length = 7 := by rw [hSV]; rfl
    rw [← hSV] at hsvo HB6 HB7 HX HRX HRY HN3 HCV HB13 ⊢
    have HSVL := Lib.hid hsvl
    have HSVE := Lib.hid hSV
    clear hov hx6 hvn hv hx7 hx67 hsvl hSV
    go_wp2_with (first
      | ((with_reducible refine wpDst 13 rfl ?_); refine wpList_alloc _ rfl 40 rfl _ zSTo ?_)
      | ((with_reducible refine wpSto 13 54 rfl ?_); go_must (refine wpList_storeN rfl 40 (.tmp 13) (.tmp 54) rfl w6 rfl zst SV 40 rfl rfl (szStD HSVL.out) (by rw [HSVL.out]; rfl) hsvo ?_))
      | ((with_reducible refine wpDst 57 rfl ?_); refine wpList_load_agg _ rfl 40 (.tmp 13) rfl _ rfl SV _ Try.underlying40 rfl (szStD HSVL.out) (by exact HB13.out.cells) ?_)
      | fail)
    generalize w6.alloc (.cells SV.toArray 40) = w7 at *
    refine (HSIA.out w7 gx tx FX RX v HSVE.out HRX.out (by exact HCV.out) (fun b hb => by have := HFV.out b hb; have := HN0.out; have := HN1.out; have := HN2.out; have := HN3.out; constructor <;> omega)).mono ?_
    rintro e w8 ⟨M1, rfl, hsg, hrn, hg⟩
    have HN4 : Hid (w7.heap.size ≤ w8.heap.size) := Lib.hid hg.size
    replace HB6 := Lib.hid (HB6.out.keep hg (by have := HN0.out; have := HN1.out; have := HN2.out; have := HN3.out; have := HN4.out; simp only [Option.some.injEq, ne_eq]; omega))
    replace HB7 := Lib.hid (HB7.out.keep hg (by have := HN0.out; have := HN1.out; have := HN2.out; have := HN3.out; have := HN4.out; simp only [Option.some.injEq, ne_eq]; omega))
    replace HB13 := Lib.hid (HB13.out.keep hg (by have := HN0.out; have := HN1.out; have := HN2.out; have := HN3.out; have := HN4.out; simp only [Option.some.injEq, ne_eq]; omega))
    replace HX := Lib.hid (grown_then HX.out hg (.inr (by rintro b ⟨⟩; have := HN0.out; have := HN1.out; have := HN2.out; have := HN3.out; have := HN4.out; omega)))
    replace HCV := Lib.hid (Ty.keep (t := .sl CondT) (fun b hb => hg.block b (by have := HFV.out b hb; have := HN0.out; have := HN1.out; have := HN2.out; have := HN3.out; have := HN4.out; omega) (by have := HFV.out b hb; have := HN0.out; have := HN1.out; have := HN2.out; have := HN3.out; have := HN4.out; simp only [Option.some.injEq, ne_eq]; omega)) (fun _ h => h) HCV.out)
    replace HRY := Lib.hid (HRY.out.keep hg (by have := HN0.out; have := HN1.out; have := HN2.out; have := HN3.out; have := HN4.out; simp only [Option.some.injEq, ne_eq]; omega) (by have := HN0.out; have := HN1.out; have := HN2.out; have := HN3.out; have := HN4.out; simp only [Option.some.injEq, ne_eq]; omega) (fun b hb => by have := HFY.out b hb; have := HN0.out; have := HN1.out; have := HN2.out; have := HN3.out; have := HN4.out; simp only [Option.some.injEq, ne_eq]; omega))
    replace HRX := Lib.hid hrn
    have hm1l := hsg.len (signM_length _ _ _)
    have hm1o := hsg.one
    have HM1L := Lib.hid hm1l
    have hx9 : Ext w8 (w8.alloc (.cells M1.toArray 70)) := (Ext.refl _).alloc _
    have HSG1 := Lib.hid (hsg.ext hx9)
    have HB14 : Hid (Blk (w8.alloc (.cells M1.toArray 70)) w8.heap.size 70 M1) := Lib.hid (Blk.new _ _ _)
    have HN5 : Hid (w8.heap.size < (w8.alloc (.cells M1.toArray 70)).heap.size) := Lib.hid (by simp)
    replace HB6 := Lib.hid (HB6.out.keep hx9 (by simp))
    replace HB7 := Lib.hid (HB7.out.keep hx9 (by simp))
    replace HB13 := Lib.hid (HB13.out.keep hx9 (by simp))
    replace HX := Lib.hid (HX.out.trans hx9)
    replace HCV := Lib.hid (hx9.holds (fun b hb => by have := HFV.out b hb; have := HN0.out; have := HN1.out; have := HN2.out; have := HN3.out; have := HN4.out; have := HN5.out; omega) HCV.out)
    replace HRX := Lib.hid (HRX.out.ext hx9)
    replace HRY := Lib.hid (HRY.out.ext hx9)
    clear hsg hrn hg hm1l hx9
    go_wp2_with (first
      | ((with_reducible refine wpDst 14 rfl ?_); refine wpList_alloc _ rfl 70 rfl _ hzr ?_)
      | ((with_reducible refine wpSto 14 59 rfl ?_); go_must (refine wpList_storeN rfl 70 (.tmp 14) (.tmp 59) rfl w8 rfl ZR M1 70 rfl rfl (szOutTo05 HM1L.out) (by rw [HM1L.out, HZL.out]) hm1o ?_))
      | ((with_reducible refine wpDst 63 rfl ?_); refine wpList_load_agg _ rfl 40 (.tmp 13) rfl _ rfl SV _ Try.underlying40 rfl (szStD HSVL.out) (by exact HB13.out.cells) ?_)
      | fail)
    generalize w8.alloc (.cells M1.toArray 70) = w9 at *
    refine (HSIB.out w9 gy ty FY RY v HSVE.out HRY.out (by exact HCV.out) (fun b hb => by have := HFV.out b hb; have := HN0.out; have := HN1.out; have := HN2.out; have := HN3.out; have := HN4.out; have := HN5.out; constructor <;> omega)).mono ?_
    rintro e w10 ⟨M2, rfl, hsg, hrn, hg⟩
    have HN6 : Hid (w9.heap.size ≤ w10.heap.size) := Lib.hid hg.size
    replace HB6 := Lib.hid (HB6.out.keep hg (by have := HN0.out; have := HN1.out; have := HN2.out; have := HN3.out; have := HN4.out; have := HN5.out; have := HN6.out; simp only [Option.some.injEq, ne_eq]; omega))
    replace HB7 := Lib.hid (HB7.out.keep hg (by have := HN0.out; have := HN1.out; have := HN2.out; have := HN3.out; have := HN4.out; have := HN5.out; have := HN6.out; simp only [Option.some.injEq, ne_eq]; omega))
    replace HB13 := Lib.hid (HB13.out.keep hg (by have := HN0.out; have := HN1.out; have := HN2.out; have := HN3.out; have := HN4.out; have := HN5.out; have := HN6.out; simp only [Option.some.injEq, ne_eq]; omega))
    replace HB14 := Lib.hid (HB14.out.keep hg (by have := HN0.out; have := HN1.out; have := HN2.out; have := HN3.out; have := HN4.out; have := HN5.out; have := HN6.out; simp only [Option.some.injEq, ne_eq]; omega))
    replace HX := Lib.hid (grown_then HX.out hg (.inr (by rintro b ⟨⟩; have := HN0.out; have := HN1.out; have := HN2.out; have := HN3.out; have := HN4.out; have := HN5.out; have := HN6.out; omega)))
    replace HCV := Lib.hid (Ty.keep (t := .sl CondT) (fun b hb => hg.block b (by have := HFV.out b hb; have := HN0.out; have := HN1.out; have := HN2.out; have := HN3.out; have := HN4.out; have := HN5.out; have := HN6.out; omega) (by have := HFV.out b hb; have := HN0.out; have := HN1.out; have := HN2.out; have := HN3.out; have := HN4.out; have := HN5.out; have := HN6.out; simp only [Option.some.injEq, ne_eq]; omega)) (fun _ h => h) HCV.out)
    replace HRX := Lib.hid (HRX.out.keep hg (by have := HN0.out; have := HN1.out; have := HN2.out; have := HN3.out; have := HN4.out; have := HN5.out; have := HN6.out; simp only [Option.some.injEq, ne_eq]; omega) (by have := HN0.out; have := HN1.out; have := HN2.out; have := HN3.out; have := HN4.out; have := HN5.out; have := HN6.out; simp only [Option.some.injEq, ne_eq]; omega) (fun b hb => by have := HFX.out b hb; have := HN0.out; have := HN1.out; have := HN2.out; have := HN3.out; have := HN4.out; have := HN5.out; have := HN6.out; simp only [Option.some.injEq, ne_eq]; omega))
    replace HRY := Lib.hid hrn
    replace HSG1 := Lib.hid (HSG1.out.row hg (.inl (by have := HN0.out; have := HN1.out; have := HN2.out; have := HN3.out; have := HN4.out; have := HN5.out; have := HN6.out; omega)))
    have hm2l := hsg.len (signM_length _ _ _)
    have hm2o := hsg.one
    have HM2L := Lib.hid hm2l
    have hx11 : Ext w10 (w10.alloc (.cells M2.toArray 70)) := (Ext.refl _).alloc _
    have HSG2 := Lib.hid (hsg.ext hx11)
    have HB16 : Hid (Blk (w10.alloc (.cells M2.toArray 70)) w10.heap.size 70 M2) := Lib.hid (Blk.new _ _ _)
    have HN7 : Hid (w10.heap.size < (w10.alloc (.cells M2.toArray 70)).heap.size) := Lib.hid (by simp)
    replace HB6 := Lib.hid (HB6.out.keep hx11 (by simp))
    replace HB7 := Lib.hid (HB7.out.keep hx11 (by simp))
    replace HB13 := Lib.hid (HB13.out.keep hx11 (by simp))
    replace HB14 := Lib.hid (HB14.out.keep hx11 (by simp))
    replace HX := Lib.hid (HX.out.trans hx11)
    replace HCV := Lib.hid (hx11.holds (fun b hb => by have := HFV.out b hb; have := HN0.out; have := HN1.out; have := HN2.out; have := HN3.out; have := HN4.out; have := HN5.out; have := HN6.out; have := HN7.out; omega) HCV.out)
    replace HRX := Lib.hid (HRX.out.ext hx11)
    replace HRY := Lib.hid (HRY.out.ext hx11)
    replace HSG1 := Lib.hid (HSG1.out.ext hx11)
    clear hsg hrn hg hm2l hx11
    go_wp2_with (first
      | ((with_reducible refine wpDst 16 rfl ?_); refine wpList_alloc _ rfl 70 rfl _ hzr ?_)
      | ((with_reducible refine wpSto 16 65 rfl ?_); go_must (refine wpList_storeN rfl 70 (.tmp 16) (.tmp 65) rfl w10 rfl ZR M2 70 rfl rfl (szOutTo05 HM2L.out) (by rw [HM2L.out, HZL.out]) hm2o ?_))
      | ((with_reducible refine wpDst 69 rfl ?_); refine wpList_load_agg _ rfl 27 (.tmp 7) rfl _ rfl OC1 _ Try.underlying27 rfl (szRState HOC1L.out) (by exact HB7.out.cells) ?_)
      | fail)
    generalize w10.alloc (.cells M2.toArray 70) = w11 at *
    refine (HTO2.out _ HX.out).mono ?_
    rintro e w12 ⟨v2, rfl, hov, hx12, hvn⟩
    replace HB6 := Lib.hid (HB6.out.keep hx12 (by simp))
    replace HB13 := Lib.hid (HB13.out.keep hx12 (by simp))
    replace HB14 := Lib.hid (HB14.out.keep hx12 (by simp))
    replace HB16 := Lib.hid (HB16.out.keep hx12 (by simp))
    replace HX := Lib.hid (HX.out.trans hx12)
    replace HCV := Lib.hid (hx12.holds (fun b hb => by have := HFV.out b hb; have := HN0.out; have := HN1.out; have := HN2.out; have := HN3.out; have := HN4.out; have := HN5.out; have := HN6.out; have := HN7.out; omega) HCV.out)
    replace HRX := Lib.hid (HRX.out.ext hx12)
    replace HRY := Lib.hid (HRY.out.ext hx12)
    replace HSG1 := Lib.hid (HSG1.out.ext hx12)
    replace HSG2 := Lib.hid (HSG2.out.ext hx12)
    have HN8 : Hid (w11.heap.size ≤ w12.heap.size) := Lib.hid hx12.size
    have HFV2 : Hid (∀ b, v2.ownBlock = some b → w11.heap.size ≤ b ∧ b < w12.heap.size) := Lib.hid fun b hb => ⟨hvn b hb, hov.lt b hb⟩
    have HCV2 : Hid (Conds w12 (fun b => v2.ownBlock = some b) v2 o1.cs) := Lib.hid hov.holds
    clear hov hx12 hvn HB7
    go_wp2_with (first
      | fail)
    refine (HNO.out w12 gx tx FX RX v2 HRX.out (by exact HCV2.out) (fun b hb => by have := HFV2.out b hb; have := HN0.out; have := HN1.out; have := HN2.out; have := HN3.out; have := HN4.out; have := HN5.out; have := HN6.out; have := HN7.out; have := HN8.out; constructor <;> omega)).mono ?_
    rintro e w13 ⟨rfl, hx13⟩
    have hx14 : Ext w12 (w13.alloc (.cells ZR.toArray 70)) := hx13.alloc _
    have HN9 : Hid (w12.heap.size ≤ (w13.alloc (.cells ZR.toArray 70)).heap.size) := Lib.hid hx14.size
    replace HB6 := Lib.hid (HB6.out.keep hx14 (by simp))
    replace HB13 := Lib.hid (HB13.out.keep hx14 (by simp))
    replace HB14 := Lib.hid (HB14.out.keep hx14 (by simp))
    replace HB16 := Lib.hid (HB16.out.keep hx14 (by simp))
    replace HX := Lib.hid (HX.out.trans hx14)
    replace HCV := Lib.hid (hx14.holds (fun b hb => by have := HFV.out b hb; have := HN0.out; have := HN1.out; have := HN2.out; have := HN3.out; have := HN4.out; have := HN5.out; have := HN6.out; have := HN7.out; have := HN8.out; have := HN9.out; omega) HCV.out)
    replace HRX := Lib.hid (HRX.out.ext hx14)
    replace HRY := Lib.hid (HRY.out.ext hx14)
    replace HSG1 := Lib.hid (HSG1.out.ext hx14)
    replace HSG2 := Lib.hid (HSG2.out.ext hx14)
    clear hx13 hx14 HCV2 HFV2
    go_wp2_with (first
      | ((with_reducible refine wpDst 18 rfl ?_); refine wpList_alloc _ rfl 70 rfl _ hzr ?_)
      | ((with_reducible refine wpSto 18 72 rfl ?_); go_must (refine wpList_storeN rfl 70 (.tmp 18) (.tmp 72) rfl w13 rfl ZR ZR 70 rfl rfl (szOutTo05 HZL.out) (rfl) hzo ?_))
      | ((with_reducible refine wpDst 76 rfl ?_); refine wpList_load_agg _ rfl 40 (.tmp 13) rfl _ rfl SV _ Try.underlying40 rfl (szStD HSVL.out) (by exact HB13.out.cells) ?_)
      | fail)
    generalize w13.alloc (.cells ZR.toArray 70) = w14 at *
    refine (HAG.out w14 gx tx FX RX v HSVE.out HRX.out (by exact HCV.out) (fun b hb => by have := HFV.out b hb; have := HN0.out; have := HN1.out; have := HN2.out; have := HN3.out; have := HN4.out; have := HN5.out; have := HN6.out; have := HN7.out; have := HN8.out; have := HN9.out; constructor <;> omega)).mono ?_
    rintro e w15 ⟨M3, rfl, hsg, hx15⟩
    have hm3l := hsg.len (signM_length _ _ _)
    have hm3o := hsg.one
    have HM3L := Lib.hid hm3l
    have hx16 : Ext w15 (w15.alloc (.cells M3.toArray 70)) := (Ext.refl _).alloc _
    have hx156 := hx15.trans hx16
    have HSG3 := Lib.hid (hsg.ext hx16)
    have HB20 : Hid (Blk (w15.alloc (.cells M3.toArray 70)) w15.heap.size 70 M3) := Lib.hid (Blk.new _ _ _)
    have HN10 : Hid (w14.heap.size ≤ w15.heap.size ∧ w15.heap.size < (w15.alloc (.cells M3.toArray 70)).heap.size) := Lib.hid ⟨hx15.size, by simp⟩
    replace HB6 := Lib.hid (HB6.out.keep hx156 (by simp))
    replace HB13 := Lib.hid (HB13.out.keep hx156 (by simp))
    replace HB14 := Lib.hid (HB14.out.keep hx156 (by simp))
    replace HB16 := Lib.hid (HB16.out.keep hx156 (by simp))
    replace HX := Lib.hid (HX.out.trans hx156)
    replace HCV := Lib.hid (hx156.holds (fun b hb => by have := HFV.out b hb; have := HN0.out; have := HN1.out; have := HN2.out; have := HN3.out; have := HN4.out; have := HN5.out; have := HN6.out; have := HN7.out; have := HN8.out; have := HN9.out; have := HN10.out; omega) HCV.out)
    replace HRX := Lib.hid (HRX.out.ext hx156)
    replace HRY := Lib.hid (HRY.out.ext hx156)
    replace HSG1 := Lib.hid (HSG1.out.ext hx156)
    replace HSG2 := Lib.hid (HSG2.out.ext hx156)
    clear hsg hm3l hx15 hx16 hx156
    obtain ⟨DC, hDC⟩ : ∃ DC, DC = SV ++ (M1 ++ M2) := ⟨_, rfl⟩
    have hgl : (M1 ++ M2).length = 2052 := by rw [List.length_append, HM1L.out, HM2L.out]
    have hdl : DC.length = 2059 := by rw [hDC, List.length_append, hgl, HSVL.out]
    have hdo : ∀ u ∈ DC, u.oneCell' = true := by rw [hDC]; exact fun u hu => (List.mem_append.1 hu).elim (hsvo u) fun h => (List.mem_append.1 h).elim (hm1o u) (hm2o u)
    have hf83 := fill_two (z := zsg ++ zsg) HM1L.out HM2L.out (by rw [List.length_append, zsg_len])
    have hf84 : fillL ([(0, 7), (7, 2052)].toArray[·]?) (zst ++ (zsg ++ zsg)) [(0, SV), (1, M1 ++ M2)] = some DC := by rw [hDC]; exact fill_deed2 HSVL.out hgl (by rw [List.length_append, zsg_len])
    obtain ⟨GG, hGG⟩ : ∃ GG, GG = M1 ++ M2 := ⟨_, rfl⟩
    rw [← hGG] at hf83 hf84
    have HF83 := Lib.hid hf83
    have HF84 := Lib.hid hf84
    have HDCL := Lib.hid hdl
    have HDCE := Lib.hid hDC
    have hx17 : Ext (w15.alloc (.cells M3.toArray 70)) ((w15.alloc (.cells M3.toArray 70)).alloc (.cells DC.toArray 75)) := (Ext.refl _).alloc _
    have HB22n : Hid (Blk ((w15.alloc (.cells M3.toArray 70)).alloc (.cells DC.toArray 75)) (w15.heap.size + 1) 75 DC) := Lib.hid (Blk.new_at (by simp) _ _)
    have HN11 : Hid (w15.heap.size < ((w15.alloc (.cells M3.toArray 70)).alloc (.cells DC.toArray 75)).heap.size) := Lib.hid (by simp only [World.size_alloc]; omega)
    have HB13o := HB13
    have HB14o := HB14
    have HB16o := HB16
    replace HB6 := Lib.hid (HB6.out.keep hx17 (by simp))
    replace HB13 := Lib.hid (HB13.out.keep hx17 (by simp))
    replace HB14 := Lib.hid (HB14.out.keep hx17 (by simp))
    replace HB16 := Lib.hid (HB16.out.keep hx17 (by simp))
    replace HB20 := Lib.hid (HB20.out.keep hx17 (by simp))
    replace HX := Lib.hid (HX.out.trans hx17)
    replace HCV := Lib.hid (hx17.holds (fun b hb => by have := HFV.out b hb; have := HN0.out; have := HN1.out; have := HN2.out; have := HN3.out; have := HN4.out; have := HN5.out; have := HN6.out; have := HN7.out; have := HN8.out; have := HN9.out; have := HN10.out; have := HN11.out; omega) HCV.out)
    replace HRX := Lib.hid (HRX.out.ext hx17)
    replace HRY := Lib.hid (HRY.out.ext hx17)
    replace HSG1 := Lib.hid (HSG1.out.ext hx17)
    replace HSG2 := Lib.hid (HSG2.out.ext hx17)
    replace HSG3 := Lib.hid (HSG3.out.ext hx17)
    clear hDC hgl hdl hf83 hf84 hx17 hGG
    go_wp2_with (first
      | ((with_reducible refine wpDst 20 rfl ?_); refine wpList_alloc _ rfl 70 rfl _ hzr ?_)
      | ((with_reducible refine wpSto 20 78 rfl ?_); go_must (refine wpList_storeN rfl 70 (.tmp 20) (.tmp 78) rfl w15 rfl ZR M3 70 rfl rfl (szOutTo05 HM3L.out) (by rw [HM3L.out, HZL.out]) hm3o ?_))
      | ((with_reducible refine wpDst 80 rfl ?_); refine wpList_load_agg _ rfl 40 (.tmp 13) rfl _ rfl SV _ Try.underlying40 rfl (szStD HSVL.out) (by exact HB13o.out.cells) ?_)
      | ((with_reducible refine wpDst 81 rfl ?_); refine wpList_load_agg _ rfl 70 (.tmp 14) rfl _ rfl M1 _ Try.underlying70 rfl (szOutTo05 HM1L.out) (by exact HB14o.out.cells) ?_)
      | ((with_reducible refine wpDst 82 rfl ?_); refine wpList_load_agg _ rfl 70 (.tmp 16) rfl _ rfl M2 _ Try.underlying70 rfl (szOutTo05 HM2L.out) (by exact HB16o.out.cells) ?_)
      | ((with_reducible refine wpDst 83 rfl ?_); go_must (refine wpList_build_ar (.inl rfl) 73 #[(0, .tmp 81), (1, .tmp 82)] rfl 2 70 1026 (zsg ++ zsg) GG [(0, M1), (1, M2)] Try.underlying73 two_sig_zero (szOutTo05 rfl) (by first | rfl | kernel_rfl) HF83.out ?_))
      | ((with_reducible refine wpDst 84 rfl ?_); go_must (refine wpList_build_st (.inl rfl) 75 #[(0, .tmp 80), (1, .tmp 83)] rfl fieldsD (zst ++ (zsg ++ zsg)) DC _ [(0, SV), (1, GG)] hfuD deed_zero hfpD (by first | rfl | kernel_rfl) HF84.out ?_))
      | ((with_reducible refine wpDst 22 rfl ?_); refine wpList_alloc _ rfl 75 rfl _ deed_zero ?_)
      | ((with_reducible refine wpSto 22 84 rfl ?_); go_must (refine wpList_storeN rfl 75 (.tmp 22) (.tmp 84) rfl (w15.alloc (.cells M3.toArray 70)) rfl (zst ++ (zsg ++ zsg)) DC 75 rfl rfl (deed_size HDCL.out) (by rw [HDCL.out, List.length_append, List.length_append, zsg_len]; rfl) hdo ?_))
      | fail)
    clear HB13o HB14o HB16o
    generalize hw17 : (w15.alloc (.cells M3.toArray 70)).alloc (.cells DC.toArray 75) = w17 at *
    generalize (w15.alloc (.cells M3.toArray 70)) = w16 at *
    clear hw17
    refine (HRTX.out _ _ _ _ _ HRX.out).mono ?_
    rintro e w18 ⟨rfl, hx18⟩
    have HRYb := Lib.hid (HRY.out.ext hx18)
    go_wp2_with (first
      | fail)
    refine (HRTY.out _ _ _ _ _ HRYb.out).mono ?_
    rintro e w19 ⟨rfl, hx19⟩
    have hx20 : Ext w19 (w19.alloc (.cells RC.toArray 79)).drew := ((Ext.refl w19).alloc _).trans (Ext.refl _).drew
    have hxz := (hx18.trans hx19).trans hx20
    have HB23 : Hid (Blk (w19.alloc (.cells RC.toArray 79)).drew w19.heap.size 79 RC) := Lib.hid ((Blk.new _ _ _).keep (Ext.refl _).drew (by simp))
    have HB22 := Lib.hid (HB22n.out.keep hxz (by simp))
    have hlv : ∀ b, v.ownBlock = some b → b < w17.heap.size := (fun b hb => by have := HFV.out b hb; have := HN0.out; have := HN1.out; have := HN2.out; have := HN3.out; have := HN4.out; have := HN5.out; have := HN6.out; have := HN7.out; have := HN8.out; have := HN9.out; have := HN10.out; have := HN11.out; omega)
    replace HCV := Lib.hid (hxz.holds hlv HCV.out)
    replace HB6 := Lib.hid (HB6.out.keep hxz (by simp))
    replace HB13 := Lib.hid (HB13.out.keep hxz (by simp))
    replace HB14 := Lib.hid (HB14.out.keep hxz (by simp))
    replace HB16 := Lib.hid (HB16.out.keep hxz (by simp))
    replace HB20 := Lib.hid (HB20.out.keep hxz (by simp))
    replace HX := Lib.hid (HX.out.trans hxz)
    replace HSG1 := Lib.hid (HSG1.out.ext hxz)
    replace HSG2 := Lib.hid (HSG2.out.ext hxz)
    replace HSG3 := Lib.hid (HSG3.out.ext hxz)
    have hlv2 : ∀ b, v.ownBlock = some b → b < (w19.alloc (.cells RC.toArray 79)).drew.heap.size := fun b hb => Nat.lt_of_lt_of_le (hlv b hb) hxz.size
    obtain ⟨v1, hM1, hd1, -⟩ := HSG1.out
    obtain ⟨v9, hM2, hd2, -⟩ := HSG2.out
    obtain ⟨v3, hM3, hd3, -⟩ := HSG3.out
    rw [← HSGE.out] at hM1 hM3
    have HFR1 : Hid (∀ W', Ext (w19.alloc (.cells RC.toArray 79)).drew W' → _) := Lib.hid fun W' h => HFR.out v1 W' _ ((hd1.ext h).holds) (fun b hb => Nat.lt_of_lt_of_le (hd1.lt b hb) h.size)
    have HFR3 : Hid (∀ W', Ext (w19.alloc (.cells RC.toArray 79)).drew W' → _) := Lib.hid fun W' h => HFR.out v3 W' _ ((hd3.ext h).holds) (fun b hb => Nat.lt_of_lt_of_le (hd3.lt b hb) h.size)
    have hri0 := fun W' (h : Ext (w19.alloc (.cells RC.toArray 79)).drew W') => HR0.out v _ W' (h.holds hlv2 HCV.out) (fun b hb => Nat.lt_of_lt_of_le (hlv2 b hb) h.size) v1 _ ((hd1.ext h).holds) (fun b hb => Nat.lt_of_lt_of_le (hd1.lt b hb) h.size)
    have hri1 := fun W' (h : Ext (w19.alloc (.cells RC.toArray 79)).drew W') => HR1.out v _ W' (h.holds hlv2 HCV.out) (fun b hb => Nat.lt_of_lt_of_le (hlv2 b hb) h.size) v9 _ ((hd2.ext h).holds) (fun b hb => Nat.lt_of_lt_of_le (hd2.lt b hb) h.size)
    rw [← hM1] at HFR1 hri0
    rw [← hM3] at HFR3
    rw [← hM2] at hri1
    rw [← HSVE.out] at hri0 hri1
    have hwy := fun W' (h : Ext (w19.alloc (.cells RC.toArray 79)).drew W') => DWholeYes RC HRCL.out DC SV M1 M2 s1.chan s1.round HR10.out (by rw [HDCE.out, HSVE.out]; rfl) (by rw [HDCE.out, HSVE.out]; rfl)
      (by rw [HDCE.out]; exact List.take_left' HSVL.out) (by rw [HDCE.out, List.drop_left' HSVL.out]; exact List.take_left' HM1L.out) (by rw [HDCE.out, drop_two HSVL.out HM1L.out]; exact List.take_of_length_le (by rw [HM2L.out]; exact Nat.le_refl _)) HSVL.out HM1L.out HM2L.out W' (fun W hx => hri0 W (h.trans hx)) (fun W hx => hri1 W (h.trans hx))
    have hwn := fun W' (_ : Ext (w19.alloc (.cells RC.toArray 79)).drew W') => DWholeNo RC DC s1.chan c9 HC9.out (by rw [HDCE.out, HSVE.out]; rfl) W'
    have HWY := Lib.hid hwy
    have HWN := Lib.hid hwn
    have HRI := Lib.hid hri1
    clear hx18 hx19 hx20 hxz hlv hlv2 hM1 hM2 hM3 hd1 hd2 hd3 hri0 hri1 hwy hwn HRYb HRX HRY HSG1 HSG2 HSG3 HCV HB22n
    go_wp2_with (first
      | ((with_reducible refine wpDst 89 rfl ?_); go_must (refine wpList_build_ar (.inl rfl) 77 #[(0, .tmp 86), (1, .tmp 88)] rfl 2 52 32 (List.replicate 64 (Value.int .u8 0)) RR [(0, RTX), (1, RTY)] Try.underlying77 two_dig_zero (digest_size rfl) (by first | rfl | kernel_rfl) HF89.out ?_))
      | ((with_reducible refine wpDst 90 rfl ?_); go_must (refine wpList_build_st (.inl rfl) 79 #[(0, .tmp 89), (1, _)] rfl fieldsR (List.replicate 64 (Value.int .u8 0) ++ [Value.int .i64 0]) RC _ [(0, RR), (1, [Value.int .i64 2])] hfuR roots_zero hfpR (by first | rfl | kernel_rfl) HF90.out ?_))
      | ((with_reducible refine wpDst 23 rfl ?_); refine wpList_alloc _ rfl 79 rfl _ roots_zero ?_)
      | ((with_reducible refine wpSto 23 90 rfl ?_); go_must (refine wpList_storeN rfl 79 (.tmp 23) (.tmp 90) rfl w19 rfl (List.replicate 64 (Value.int .u8 0) ++ [Value.int .i64 0]) RC 79 rfl rfl (roots_size HRCL.out) (by rw [HRCL.out]; simp) hrco ?_))
      | fail)
    refine stab_plain Ext ext_refl ext_trans [[0], [0, 1], [0, 1, 2], [0, 1, 2, 3], [0, 1, 2, 3, 4], [0, 1, 2, 3, 4, 5], [0, 1, 2, 3, 4, 5, 6], [0, 1, 2, 3, 4, 5, 6, 7], [0, 1, 2, 3, 4, 5, 6, 7, 8], [0, 1, 2, 3, 4, 5, 6, 7, 8, 9], [0, 1, 2, 3, 4, 5, 6, 7, 8, 9, 10], [0, 1, 2, 3, 4, 5, 6, 7, 8, 9, 10, 11], [0, 1, 2, 3, 4, 5, 6, 7, 8, 9, 10, 11, 12], [0, 1, 2, 3, 4, 5, 6, 7, 8, 9, 10, 11, 12, 13], [0, 1, 2, 3, 4, 5, 6, 7, 8, 9, 10, 11, 12, 13, 14], [0, 1, 2, 3, 4, 5, 6, 7, 8, 9, 10, 11, 12, 13, 14, 15], [0, 1, 2, 3, 4, 5, 6, 7, 8, 9, 10, 11, 12, 13, 14, 15, 16], [0, 1, 2, 3, 4, 5, 6, 7, 8, 9, 10, 11, 12, 13, 14, 15, 16, 17], [0, 1, 2, 3, 4, 5, 6, 7, 8, 9, 10, 11, 12, 13, 14, 15, 16, 17, 18], [0, 1, 2, 3, 4, 5, 6, 7, 8, 9, 10, 11, 12, 13, 14, 15, 16, 17, 18, 19], [0, 1, 2, 3, 4, 5, 6, 7, 8, 9, 10, 11, 12, 13, 14, 15, 16, 17, 18, 19, 20], [0, 1, 2, 3, 4, 5, 6, 7, 8, 9, 10, 11, 12, 13, 14, 15, 16, 17, 18, 19, 20, 21], [0, 1, 2, 3, 4, 5, 6, 7, 8, 9, 10, 11, 12, 13, 14, 15, 16, 17, 18, 19, 20, 21, 22], [0, 1, 2, 3, 4, 5, 6, 7, 8, 9, 10, 11, 12, 13, 14, 15, 16, 17, 18, 19, 20, 21, 22, 23], [0, 1, 2, 3, 4, 5, 6, 7, 8, 9, 10, 11, 12, 13, 14, 15, 16, 17, 18, 19, 20, 21, 22, 23, 24], [0, 1, 2, 3, 4, 5, 6, 7, 8, 9, 10, 11, 12, 13, 14, 15, 16, 17, 18, 19, 20, 21, 22, 23, 24, 25], [0, 1, 2, 3, 4, 5, 6, 7, 8, 9, 10, 11, 12, 13, 14, 15, 16, 17, 18, 19, 20, 21, 22, 23, 24, 25, 26], [0, 1, 2, 3, 4, 5, 6, 7, 8, 9, 10, 11, 12, 13, 14, 15, 16, 17, 18, 19, 20, 21, 22, 23, 24, 25, 26, 27], [0, 1, 2, 3, 4, 5, 6, 7, 8, 9, 10, 11, 12, 13, 14, 15, 16, 17, 18, 19, 20, 21, 22, 23, 24, 25, 28], [0, 1, 2, 3, 4, 5, 6, 7, 8, 9, 10, 11, 12, 13, 14, 15, 16, 17, 18, 19, 20, 21, 22, 23, 24, 25, 26, 27, 28, 29], [0, 1, 2, 3, 4, 5, 6, 7, 8, 9, 10, 11, 12, 13, 14, 15, 16, 17, 18, 19, 20, 21, 22, 23, 24, 25, 26, 27, 28, 29, 30], [0, 1, 2, 3, 4, 5, 6, 7, 8, 9, 10, 11, 12, 13, 14, 15, 16, 17, 18, 19, 20, 21, 22, 23, 24, 25, 26, 27, 28, 29, 30, 31], [0, 1, 2, 3, 4, 5, 6, 7, 8, 9, 10, 11, 12, 13, 14, 15, 16, 17, 18, 19, 20, 21, 22, 23, 24, 25, 26, 27, 28, 29, 30, 31, 32], [0, 1, 2, 3, 4, 5, 6, 7, 8, 9, 10, 11, 12, 13, 14, 15, 16, 17, 18, 19, 20, 21, 22, 23, 24, 25, 26, 27, 28, 29, 30, 31, 32, 33], [0, 1, 2, 3, 4, 5, 6, 7, 8, 9, 10, 11, 12, 13, 14, 15, 16, 17, 18, 19, 20, 21, 22, 23, 24, 25, 26, 27, 28, 29, 30, 31, 32, 34], [0, 1, 2, 3, 4, 5, 6, 7, 8, 9, 10, 11, 12, 13, 14, 15, 16, 17, 18, 19, 20, 21, 22, 23, 24, 25, 26, 27, 28, 29, 30, 31, 32, 35], [0, 1, 2, 3, 4, 5, 6, 7, 8, 9, 10, 11, 12, 13, 14, 15, 16, 17, 18, 19, 20, 21, 22, 23, 24, 25, 26, 27, 28, 29, 30, 31, 32, 35, 36], [0, 1, 2, 3, 4, 5, 6, 7, 8, 9, 10, 11, 12, 13, 14, 15, 16, 17, 18, 19, 20, 21, 22, 23, 24, 25, 26, 27, 28, 29, 30, 31, 32, 33, 34, 35, 36, 37], [0, 1, 2, 3, 4, 5, 6, 7, 8, 9, 10, 11, 12, 13, 14, 15, 16, 17, 18, 19, 20, 21, 22, 23, 24, 25, 26, 27, 28, 29, 30, 31, 32, 33, 34, 35, 36, 37, 38], [0, 1, 2, 3, 4, 5, 6, 7, 8, 9, 10, 11, 12, 13, 14, 15, 16, 17, 18, 19, 20, 21, 22, 23, 24, 25, 26, 27, 28, 29, 30, 31, 32, 33, 34, 35, 36, 37, 38, 39], [0, 1, 2, 3, 4, 5, 6, 7, 8, 9, 10, 11, 12, 13, 14, 15, 16, 17, 18, 19, 20, 21, 22, 23, 24, 25, 26, 27, 28, 29, 30, 31, 32, 33, 34, 35, 36, 37, 38, 39, 40], [0, 1, 2, 3, 4, 5, 6, 7, 8, 9, 10, 11, 12, 13, 14, 15, 16, 17, 18, 19, 20, 21, 22, 23, 24, 25, 26, 27, 28, 29, 30, 31, 32, 33, 34, 35, 36, 37, 38, 39, 41], [0, 1, 2, 3, 4, 5, 6, 7, 8, 9, 10, 11, 12, 13, 14, 15, 16, 17, 18, 19, 20, 21, 22, 23, 24, 25, 26, 27, 28, 29, 30, 31, 32, 33, 34, 35, 36, 37, 38, 39, 42], [0, 1, 2, 3, 4, 5, 6, 7, 8, 9, 10, 11, 12, 13, 14, 15, 16, 17, 18, 19, 20, 21, 22, 23, 24, 25, 26, 27, 28, 29, 30, 31, 32, 33, 34, 35, 36, 37, 38, 39, 42, 43], [0, 1, 2, 3, 4, 5, 6, 7, 8, 9, 10, 11, 12, 13, 14, 15, 16, 17, 18, 19, 20, 21, 22, 23, 24, 25, 26, 27, 28, 29, 30, 31, 32, 33, 34, 35, 36, 37, 38, 39, 42, 43, 44], [0, 1, 2, 3, 4, 5, 6, 7, 8, 9, 10, 11, 12, 13, 14, 15, 16, 17, 18, 19, 20, 21, 22, 23, 24, 25, 26, 27, 28, 29, 30, 31, 32, 33, 34, 35, 36, 37, 38, 39, 40, 41, 42, 43, 44, 45], [0, 1, 2, 3, 4, 5, 6, 7, 8, 9, 10, 11, 12, 13, 14, 15, 16, 17, 18, 19, 20, 21, 22, 23, 24, 25, 26, 27, 28, 29, 30, 31, 32, 33, 34, 35, 36, 37, 38, 39, 40, 41, 42, 43, 44, 45, 46], [0, 1, 2, 3, 4, 5, 6, 7, 8, 9, 10, 11, 12, 13, 14, 15, 16, 17, 18, 19, 20, 21, 22, 23, 24, 25, 26, 27, 28, 29, 30, 31, 32, 33, 34, 35, 36, 37, 38, 39, 40, 41, 42, 43, 44, 45, 46, 47], [0, 1, 2, 3, 4, 5, 6, 7, 8, 9, 10, 11, 12, 13, 14, 15, 16, 17, 18, 19, 20, 21, 22, 23, 24, 25, 26, 27, 28, 29, 30, 31, 32, 33, 34, 35, 36, 37, 38, 39, 40, 41, 42, 43, 44, 45, 46, 47, 48], [0, 1, 2, 3, 4, 5, 6, 7, 8, 9, 10, 11, 12, 13, 14, 15, 16, 17, 18, 19, 20, 21, 22, 23, 24, 25, 26, 27, 28, 29, 30, 31, 32, 33, 34, 35, 36, 37, 38, 39, 40, 41, 42, 43, 44, 45, 46, 47, 48, 49], [0, 1, 2, 3, 4, 5, 6, 7, 8, 9, 10, 11, 12, 13, 14, 15, 16, 17, 18, 19, 20, 21, 22, 23, 24, 25, 26, 27, 28, 29, 30, 31, 32, 33, 34, 35, 36, 37, 38, 39, 40, 41, 42, 43, 44, 45, 46, 47, 48, 50], [0, 1, 2, 3, 4, 5, 6, 7, 8, 9, 10, 11, 12, 13, 14, 15, 16, 17, 18, 19, 20, 21, 22, 23, 24, 25, 26, 27, 28, 29, 30, 31, 32, 33, 34, 35, 36, 37, 38, 39, 40, 41, 42, 43, 44, 45, 46, 47, 48, 51], [0, 1, 2, 3, 4, 5, 6, 7, 8, 9, 10, 11, 12, 13, 14, 15, 16, 17, 18, 19, 20, 21, 22, 23, 24, 25, 26, 27, 28, 29, 30, 31, 32, 33, 34, 35, 36, 37, 38, 39, 40, 41, 42, 43, 44, 45, 46, 47, 48, 49, 50, 51, 52], [0, 1, 2, 3, 4, 5, 6, 7, 8, 9, 10, 11, 12, 13, 14, 15, 16, 17, 18, 19, 20, 21, 22, 23, 24, 25, 26, 27, 28, 29, 30, 31, 32, 33, 34, 35, 36, 37, 38, 39, 40, 41, 42, 43, 44, 45, 46, 47, 48, 49, 50, 51, 52, 53], [0, 1, 2, 3, 4, 5, 6, 7, 8, 9, 10, 11, 12, 13, 14, 15, 16, 17, 18, 19, 20, 21, 22, 23, 24, 25, 26, 27, 28, 29, 30, 31, 32, 33, 34, 35, 36, 37, 38, 39, 40, 41, 42, 43, 44, 45, 46, 47, 48, 49, 50, 51, 52, 53, 54]] (fun i v wv => match i with | 0 => v = .bool true | 1 => v = .bool true | 2 => v = .int .i64 0 | 3 => v = .bool true | 4 => v = .bool true | 5 => v = .bool true | 6 => v = .int .i64 0 | 7 => v = .bool true | 8 => v = .bool true | 9 => v = .bool true | 10 => v = .int .i64 0 | 11 => v = .bool true | 12 => v = .bool true | 13 => v = .bool true | 14 => v = .int .i64 0 | 15 => v = .bool true | 16 => v = .bool true | 17 => v = .bool true | 18 => v = .int .i64 21 | 19 => v = .bool true | 20 => v = .bool true | 21 => v = .bool true | 22 => v = .int .i64 0 | 23 => v = .bool true | 24 => v = .bool true | 25 => v = .bool true | 26 => v = .agg M3.toArray | 27 => ∃ u, v = .agg (sigC SG s1.round u).toArray ∧ OwnD 28 wv u (wayM sa 2 s1.round) | 28 => v = .agg M1.toArray | 29 => ∃ u, v = .agg (sigC SG s1.round u).toArray ∧ OwnD 28 wv u (wayM sa 2 s1.round) | 30 => v = .bool true | 31 => v = .bool true | 32 => v = .bool true | 33 => v = .agg RC.toArray | 34 => v = .agg DC.toArray | 35 => v = .pointer (some ⟨w.heap.size + 2, 0, none⟩) | 36 => v = .int .u32 (s1.chan : Int) | 37 => v = .bool true | 38 => v = .bool true | 39 => v = .bool true | 40 => v = .agg RC.toArray | 41 => v = .agg DC.toArray | 42 => v = .pointer (some ⟨w.heap.size + 2, 0, none⟩) | 43 => v = .int .u32 (s1.chan : Int) | 44 => v = .int .u32 (c9 : Int) | 45 => v = .bool false | 46 => v = .bool true | 47 => v = .bool true | 48 => v = .bool true | 49 => v = .agg RC.toArray | 50 => v = .agg SV.toArray | 51 => v = .agg M2.toArray | 52 => v = .bool true | 53 => v = .bool true | 54 => v = .bool true | _ => True) (by kernel_rfl) (by kernel_rfl) (by kernel_rfl) ?_ ?_ ?_
    · intro i v w1 w2 h hx
      match i, h with
      | 0, h => exact h
      | 1, h => exact h
      | 2, h => exact h
      | 3, h => exact h
      | 4, h => exact h
      | 5, h => exact h
      | 6, h => exact h
      | 7, h => exact h
      | 8, h => exact h
      | 9, h => exact h
      | 10, h => exact h
      | 11, h => exact h
      | 12, h => exact h
      | 13, h => exact h
      | 14, h => exact h
      | 15, h => exact h
      | 16, h => exact h
      | 17, h => exact h
      | 18, h => exact h
      | 19, h => exact h
      | 20, h => exact h
      | 21, h => exact h
      | 22, h => exact h
      | 23, h => exact h
      | 24, h => exact h
      | 25, h => exact h
      | 26, h => exact h
      | 27, h =>
        replace h : ∃ u, v = .agg (sigC SG s1.round u).toArray ∧ OwnD 28 w1 u (wayM sa 2 s1.round) := h
        show ∃ u, v = .agg (sigC SG s1.round u).toArray ∧ OwnD 28 w2 u (wayM sa 2 s1.round)
        obtain ⟨u, h1, h2⟩ := h
        exact ⟨u, h1, h2.ext hx⟩
      | 28, h => exact h
      | 29, h =>
        replace h : ∃ u, v = .agg (sigC SG s1.round u).toArray ∧ OwnD 28 w1 u (wayM sa 2 s1.round) := h
        show ∃ u, v = .agg (sigC SG s1.round u).toArray ∧ OwnD 28 w2 u (wayM sa 2 s1.round)
        obtain ⟨u, h1, h2⟩ := h
        exact ⟨u, h1, h2.ext hx⟩
      | 30, h => exact h
      | 31, h => exact h
      | 32, h => exact h
      | 33, h => exact h
      | 34, h => exact h
      | 35, h => exact h
      | 36, h => exact h
      | 37, h => exact h
      | 38, h => exact h
      | 39, h => exact h
      | 40, h => exact h
      | 41, h => exact h
      | 42, h => exact h
      | 43, h => exact h
      | 44, h => exact h
      | 45, h => exact h
      | 46, h => exact h
      | 47, h => exact h
      | 48, h => exact h
      | 49, h => exact h
      | 50, h => exact h
      | 51, h => exact h
      | 52, h => exact h
      | 53, h => exact h
      | 54, h => exact h
      | i + 55, h => trivial
    · intro i hi o ho
      match i, hi, ho with
      | 0, _, ho =>
        obtain rfl := Option.some.inj ho
        intro s W hX hd K hK
        rw [if_pos (wanted_plain rfl)]
        clear hd
        replace hK : ∀ (v : Value) (W' : World), Ext W W' → (v = .bool true) → _ := hK
        simp only [mkOf, List.map_cons, List.map_nil, Act.put, List.setIfInBounds_toArray, List.set_cons_succ, List.set_cons_zero, Nat.reduceAdd, Nat.zero_add] at hK ⊢
        go_simp
        refine (DAwake _).mono ?_
        rintro e w' ⟨rfl, hx⟩
        exact hK _ _ hx rfl
      | 1, _, ho =>
        obtain rfl := Option.some.inj ho
        intro s W hX hd K hK
        rw [if_pos (wanted_plain rfl)]
        have d91 : (s 0) = .bool true := hd 0 (by decide) (by decide)
        clear hd
        replace hK : ∀ (v : Value) (W' : World), Ext W W' → (v = .bool true) → _ := hK
        simp only [mkOf, List.map_cons, List.map_nil, Act.put, List.setIfInBounds_toArray, List.set_cons_succ, List.set_cons_zero, Nat.reduceAdd, Nat.zero_add] at hK ⊢
        simp only [d91] at hK ⊢
        go_simp
        exact hK _ _ (Ext.refl _) rfl
      | 2, _, ho =>
        obtain rfl := Option.some.inj ho
        intro s W hX hd K hK
        have d92 : (s 1) = .bool true := hd 1 (by decide) (by decide)
        clear hd
        replace hK : ∀ (v : Value) (W' : World), Ext W W' → (v = .int .i64 0) → _ := hK
        simp only [mkOf, List.map_cons, List.map_nil, Act.put, List.setIfInBounds_toArray, List.set_cons_succ, List.set_cons_zero, Nat.reduceAdd, Nat.zero_add] at hK ⊢
        simp only [d92] at hK ⊢
        rw [if_pos (by kernel_rfl)]
        go_simp
        exact hK _ _ (Ext.refl _) rfl
      | 3, _, ho =>
        obtain rfl := Option.some.inj ho
        intro s W hX hd K hK
        have d92 : (s 1) = .bool true := hd 1 (by decide) (by decide)
        have d93 : (s 2) = .int .i64 0 := hd 2 (by decide) (by decide)
        clear hd
        replace hK : ∀ (v : Value) (W' : World), Ext W W' → (v = .bool true) → _ := hK
        simp only [mkOf, List.map_cons, List.map_nil, Act.put, List.setIfInBounds_toArray, List.set_cons_succ, List.set_cons_zero, Nat.reduceAdd, Nat.zero_add] at hK ⊢
        simp only [d92, d93] at hK ⊢
        rw [if_pos (by kernel_rfl)]
        go_simp
        exact hK _ _ (Ext.refl _) rfl
      | 4, _, ho =>
        obtain rfl := Option.some.inj ho
        intro s W hX hd K hK
        rw [if_pos (wanted_plain rfl)]
        have d92 : (s 1) = .bool true := hd 1 (by decide) (by decide)
        have d94 : (s 3) = .bool true := hd 3 (by decide) (by decide)
        clear hd
        replace hK : ∀ (v : Value) (W' : World), Ext W W' → (v = .bool true) → _ := hK
        simp only [mkOf, List.map_cons, List.map_nil, Act.put, List.setIfInBounds_toArray, List.set_cons_succ, List.set_cons_zero, Nat.reduceAdd, Nat.zero_add] at hK ⊢
        simp only [d92, d94] at hK ⊢
        go_simp
        exact hK _ _ (Ext.refl _) rfl
      | 5, _, ho =>
        obtain rfl := Option.some.inj ho
        intro s W hX hd K hK
        rw [if_pos (wanted_plain rfl)]
        have d95 : (s 4) = .bool true := hd 4 (by decide) (by decide)
        clear hd
        replace hK : ∀ (v : Value) (W' : World), Ext W W' → (v = .bool true) → _ := hK
        simp only [mkOf, List.map_cons, List.map_nil, Act.put, List.setIfInBounds_toArray, List.set_cons_succ, List.set_cons_zero, Nat.reduceAdd, Nat.zero_add] at hK ⊢
        simp only [d95] at hK ⊢
        go_simp
        exact hK _ _ (Ext.refl _) rfl
      | 6, _, ho =>
        obtain rfl := Option.some.inj ho
        intro s W hX hd K hK
        have d96 : (s 5) = .bool true := hd 5 (by decide) (by decide)
        clear hd
        replace hK : ∀ (v : Value) (W' : World), Ext W W' → (v = .int .i64 0) → _ := hK
        simp only [mkOf, List.map_cons, List.map_nil, Act.put, List.setIfInBounds_toArray, List.set_cons_succ, List.set_cons_zero, Nat.reduceAdd, Nat.zero_add] at hK ⊢
        simp only [d96] at hK ⊢
        rw [if_pos (by kernel_rfl)]
        go_simp
        exact hK _ _ (Ext.refl _) rfl
      | 7, _, ho =>
        obtain rfl := Option.some.inj ho
        intro s W hX hd K hK
        have d96 : (s 5) = .bool true := hd 5 (by decide) (by decide)
        have d97 : (s 6) = .int .i64 0 := hd 6 (by decide) (by decide)
        clear hd
        replace hK : ∀ (v : Value) (W' : World), Ext W W' → (v = .bool true) → _ := hK
        simp only [mkOf, List.map_cons, List.map_nil, Act.put, List.setIfInBounds_toArray, List.set_cons_succ, List.set_cons_zero, Nat.reduceAdd, Nat.zero_add] at hK ⊢
        simp only [d96, d97] at hK ⊢
        rw [if_pos (by kernel_rfl)]
        go_simp
        exact hK _ _ (Ext.refl _) rfl
      | 8, _, ho =>
        obtain rfl := Option.some.inj ho
        intro s W hX hd K hK
        rw [if_pos (wanted_plain rfl)]
        have d96 : (s 5) = .bool true := hd 5 (by decide) (by decide)
        have d98 : (s 7) = .bool true := hd 7 (by decide) (by decide)
        clear hd
        replace hK : ∀ (v : Value) (W' : World), Ext W W' → (v = .bool true) → _ := hK
        simp only [mkOf, List.map_cons, List.map_nil, Act.put, List.setIfInBounds_toArray, List.set_cons_succ, List.set_cons_zero, Nat.reduceAdd, Nat.zero_add] at hK ⊢
        simp only [d96, d98] at hK ⊢
        go_simp
        exact hK _ _ (Ext.refl _) rfl
      | 9, _, ho =>
        obtain rfl := Option.some.inj ho
        intro s W hX hd K hK
        rw [if_pos (wanted_plain rfl)]
        have d99 : (s 8) = .bool true := hd 8 (by decide) (by decide)
        clear hd
        replace hK : ∀ (v : Value) (W' : World), Ext W W' → (v = .bool true) → _ := hK
        simp only [mkOf, List.map_cons, List.map_nil, Act.put, List.setIfInBounds_toArray, List.set_cons_succ, List.set_cons_zero, Nat.reduceAdd, Nat.zero_add] at hK ⊢
        simp only [d99] at hK ⊢
        go_simp
        exact hK _ _ (Ext.refl _) rfl
      | 10, _, ho =>
        obtain rfl := Option.some.inj ho
        intro s W hX hd K hK
        have d100 : (s 9) = .bool true := hd 9 (by decide) (by decide)
        clear hd
        replace hK : ∀ (v : Value) (W' : World), Ext W W' → (v = .int .i64 0) → _ := hK
        simp only [mkOf, List.map_cons, List.map_nil, Act.put, List.setIfInBounds_toArray, List.set_cons_succ, List.set_cons_zero, Nat.reduceAdd, Nat.zero_add] at hK ⊢
        simp only [d100] at hK ⊢
        rw [if_pos (by kernel_rfl)]
        go_simp
        exact hK _ _ (Ext.refl _) rfl
      | 11, _, ho =>
        obtain rfl := Option.some.inj ho
        intro s W hX hd K hK
        have d100 : (s 9) = .bool true := hd 9 (by decide) (by decide)
        have d101 : (s 10) = .int .i64 0 := hd 10 (by decide) (by decide)
        clear hd
        replace hK : ∀ (v : Value) (W' : World), Ext W W' → (v = .bool true) → _ := hK
        simp only [mkOf, List.map_cons, List.map_nil, Act.put, List.setIfInBounds_toArray, List.set_cons_succ, List.set_cons_zero, Nat.reduceAdd, Nat.zero_add] at hK ⊢
        simp only [d100, d101] at hK ⊢
        rw [if_pos (by kernel_rfl)]
        go_simp
        exact hK _ _ (Ext.refl _) rfl
      | 12, _, ho =>
        obtain rfl := Option.some.inj ho
        intro s W hX hd K hK
        rw [if_pos (wanted_plain rfl)]
        have d100 : (s 9) = .bool true := hd 9 (by decide) (by decide)
        have d102 : (s 11) = .bool true := hd 11 (by decide) (by decide)
        clear hd
        replace hK : ∀ (v : Value) (W' : World), Ext W W' → (v = .bool true) → _ := hK
        simp only [mkOf, List.map_cons, List.map_nil, Act.put, List.setIfInBounds_toArray, List.set_cons_succ, List.set_cons_zero, Nat.reduceAdd, Nat.zero_add] at hK ⊢
        simp only [d100, d102] at hK ⊢
        go_simp
        exact hK _ _ (Ext.refl _) rfl
      | 13, _, ho =>
        obtain rfl := Option.some.inj ho
        intro s W hX hd K hK
        rw [if_pos (wanted_plain rfl)]
        have d103 : (s 12) = .bool true := hd 12 (by decide) (by decide)
        clear hd
        replace hK : ∀ (v : Value) (W' : World), Ext W W' → (v = .bool true) → _ := hK
        simp only [mkOf, List.map_cons, List.map_nil, Act.put, List.setIfInBounds_toArray, List.set_cons_succ, List.set_cons_zero, Nat.reduceAdd, Nat.zero_add] at hK ⊢
        simp only [d103] at hK ⊢
        go_simp
        exact hK _ _ (Ext.refl _) rfl
      | 14, _, ho =>
        obtain rfl := Option.some.inj ho
        intro s W hX hd K hK
        have d104 : (s 13) = .bool true := hd 13 (by decide) (by decide)
        clear hd
        replace hK : ∀ (v : Value) (W' : World), Ext W W' → (v = .int .i64 0) → _ := hK
        simp only [mkOf, List.map_cons, List.map_nil, Act.put, List.setIfInBounds_toArray, List.set_cons_succ, List.set_cons_zero, Nat.reduceAdd, Nat.zero_add] at hK ⊢
        simp only [d104] at hK ⊢
        rw [if_pos (by kernel_rfl)]
        go_simp
        exact hK _ _ (Ext.refl _) rfl
      | 15, _, ho =>
        obtain rfl := Option.some.inj ho
        intro s W hX hd K hK
        have d104 : (s 13) = .bool true := hd 13 (by decide) (by decide)
        have d105 : (s 14) = .int .i64 0 := hd 14 (by decide) (by decide)
        clear hd
        replace hK : ∀ (v : Value) (W' : World), Ext W W' → (v = .bool true) → _ := hK
        simp only [mkOf, List.map_cons, List.map_nil, Act.put, List.setIfInBounds_toArray, List.set_cons_succ, List.set_cons_zero, Nat.reduceAdd, Nat.zero_add] at hK ⊢
        simp only [d104, d105] at hK ⊢
        rw [if_pos (by kernel_rfl)]
        go_simp
        exact hK _ _ (Ext.refl _) rfl
      | 16, _, ho =>
        obtain rfl := Option.some.inj ho
        intro s W hX hd K hK
        rw [if_pos (wanted_plain rfl)]
        have d104 : (s 13) = .bool true := hd 13 (by decide) (by decide)
        have d106 : (s 15) = .bool true := hd 15 (by decide) (by decide)
        clear hd
        replace hK : ∀ (v : Value) (W' : World), Ext W W' → (v = .bool true) → _ := hK
        simp only [mkOf, List.map_cons, List.map_nil, Act.put, List.setIfInBounds_toArray, List.set_cons_succ, List.set_cons_zero, Nat.reduceAdd, Nat.zero_add] at hK ⊢
        simp only [d104, d106] at hK ⊢
        go_simp
        exact hK _ _ (Ext.refl _) rfl
      | 17, _, ho =>
        obtain rfl := Option.some.inj ho
        intro s W hX hd K hK
        rw [if_pos (wanted_plain rfl)]
        have d107 : (s 16) = .bool true := hd 16 (by decide) (by decide)
        clear hd
        replace hK : ∀ (v : Value) (W' : World), Ext W W' → (v = .bool true) → _ := hK
        simp only [mkOf, List.map_cons, List.map_nil, Act.put, List.setIfInBounds_toArray, List.set_cons_succ, List.set_cons_zero, Nat.reduceAdd, Nat.zero_add] at hK ⊢
        simp only [d107] at hK ⊢
        go_simp
        exact hK _ _ (Ext.refl _) rfl
      | 18, _, ho =>
        obtain rfl := Option.some.inj ho
        intro s W hX hd K hK
        have d108 : (s 17) = .bool true := hd 17 (by decide) (by decide)
        clear hd
        replace hK : ∀ (v : Value) (W' : World), Ext W W' → (v = .int .i64 21) → _ := hK
        simp only [mkOf, List.map_cons, List.map_nil, Act.put, List.setIfInBounds_toArray, List.set_cons_succ, List.set_cons_zero, Nat.reduceAdd, Nat.zero_add] at hK ⊢
        simp only [d108] at hK ⊢
        rw [if_pos (by kernel_rfl)]
        go_simp
        exact hK _ _ (Ext.refl _) rfl
      | 19, _, ho =>
        obtain rfl := Option.some.inj ho
        intro s W hX hd K hK
        have d108 : (s 17) = .bool true := hd 17 (by decide) (by decide)
        have d109 : (s 18) = .int .i64 21 := hd 18 (by decide) (by decide)
        clear hd
        replace hK : ∀ (v : Value) (W' : World), Ext W W' → (v = .bool true) → _ := hK
        simp only [mkOf, List.map_cons, List.map_nil, Act.put, List.setIfInBounds_toArray, List.set_cons_succ, List.set_cons_zero, Nat.reduceAdd, Nat.zero_add] at hK ⊢
        simp only [d108, d109] at hK ⊢
        rw [if_pos (by kernel_rfl)]
        go_simp
        exact hK _ _ (Ext.refl _) rfl
      | 20, _, ho =>
        obtain rfl := Option.some.inj ho
        intro s W hX hd K hK
        rw [if_pos (wanted_plain rfl)]
        have d108 : (s 17) = .bool true := hd 17 (by decide) (by decide)
        have d110 : (s 19) = .bool true := hd 19 (by decide) (by decide)
        clear hd
        replace hK : ∀ (v : Value) (W' : World), Ext W W' → (v = .bool true) → _ := hK
        simp only [mkOf, List.map_cons, List.map_nil, Act.put, List.setIfInBounds_toArray, List.set_cons_succ, List.set_cons_zero, Nat.reduceAdd, Nat.zero_add] at hK ⊢
        simp only [d108, d110] at hK ⊢
        go_simp
        exact hK _ _ (Ext.refl _) rfl
      | 21, _, ho =>
        obtain rfl := Option.some.inj ho
        intro s W hX hd K hK
        rw [if_pos (wanted_plain rfl)]
        have d111 : (s 20) = .bool true := hd 20 (by decide) (by decide)
        clear hd
        replace hK : ∀ (v : Value) (W' : World), Ext W W' → (v = .bool true) → _ := hK
        simp only [mkOf, List.map_cons, List.map_nil, Act.put, List.setIfInBounds_toArray, List.set_cons_succ, List.set_cons_zero, Nat.reduceAdd, Nat.zero_add] at hK ⊢
        simp only [d111] at hK ⊢
        go_simp
        exact hK _ _ (Ext.refl _) rfl
      | 22, _, ho =>
        obtain rfl := Option.some.inj ho
        intro s W hX hd K hK
        have d112 : (s 21) = .bool true := hd 21 (by decide) (by decide)
        clear hd
        replace hK : ∀ (v : Value) (W' : World), Ext W W' → (v = .int .i64 0) → _ := hK
        simp only [mkOf, List.map_cons, List.map_nil, Act.put, List.setIfInBounds_toArray, List.set_cons_succ, List.set_cons_zero, Nat.reduceAdd, Nat.zero_add] at hK ⊢
        simp only [d112] at hK ⊢
        rw [if_pos (by kernel_rfl)]
        go_simp
        exact hK _ _ (Ext.refl _) rfl
      | 23, _, ho =>
        obtain rfl := Option.some.inj ho
        intro s W hX hd K hK
        have d112 : (s 21) = .bool true := hd 21 (by decide) (by decide)
        have d113 : (s 22) = .int .i64 0 := hd 22 (by decide) (by decide)
        clear hd
        replace hK : ∀ (v : Value) (W' : World), Ext W W' → (v = .bool true) → _ := hK
        simp only [mkOf, List.map_cons, List.map_nil, Act.put, List.setIfInBounds_toArray, List.set_cons_succ, List.set_cons_zero, Nat.reduceAdd, Nat.zero_add] at hK ⊢
        simp only [d112, d113] at hK ⊢
        rw [if_pos (by kernel_rfl)]
        go_simp
        exact hK _ _ (Ext.refl _) rfl
      | 24, _, ho =>
        obtain rfl := Option.some.inj ho
        intro s W hX hd K hK
        rw [if_pos (wanted_plain rfl)]
        have d112 : (s 21) = .bool true := hd 21 (by decide) (by decide)
        have d114 : (s 23) = .bool true := hd 23 (by decide) (by decide)
        clear hd
        replace hK : ∀ (v : Value) (W' : World), Ext W W' → (v = .bool true) → _ := hK
        simp only [mkOf, List.map_cons, List.map_nil, Act.put, List.setIfInBounds_toArray, List.set_cons_succ, List.set_cons_zero, Nat.reduceAdd, Nat.zero_add] at hK ⊢
        simp only [d112, d114] at hK ⊢
        go_simp
        exact hK _ _ (Ext.refl _) rfl
      | 25, _, ho =>
        obtain rfl := Option.some.inj ho
        intro s W hX hd K hK
        rw [if_pos (wanted_plain rfl)]
        have d115 : (s 24) = .bool true := hd 24 (by decide) (by decide)
        clear hd
        replace hK : ∀ (v : Value) (W' : World), Ext W W' → (v = .bool true) → _ := hK
        simp only [mkOf, List.map_cons, List.map_nil, Act.put, List.setIfInBounds_toArray, List.set_cons_succ, List.set_cons_zero, Nat.reduceAdd, Nat.zero_add] at hK ⊢
        simp only [d115] at hK ⊢
        go_simp
        exact hK _ _ (Ext.refl _) rfl
      | 26, _, ho =>
        obtain rfl := Option.some.inj ho
        intro s W hX hd K hK
        have d116 : (s 25) = .bool true := hd 25 (by decide) (by decide)
        clear hd
        replace hK : ∀ (v : Value) (W' : World), Ext W W' → (v = .agg M3.toArray) → _ := hK
        simp only [mkOf, List.map_cons, List.map_nil, Act.put, List.setIfInBounds_toArray, List.set_cons_succ, List.set_cons_zero, Nat.reduceAdd, Nat.zero_add] at hK ⊢
        simp only [d116] at hK ⊢
        rw [if_pos (by kernel_rfl)]
        refine wp_load_aggD 70 (.tmp 20) rfl _ rfl M3 _ Try.underlying70 rfl (szOutTo05 HM3L.out) (HB20.out.keep hX (by simp)).cells ?_
        exact hK _ _ (Ext.refl _) rfl
      | 27, _, ho =>
        obtain rfl := Option.some.inj ho
        intro s W hX hd K hK
        have d116 : (s 25) = .bool true := hd 25 (by decide) (by decide)
        have d117 : (s 26) = .agg M3.toArray := hd 26 (by decide) (by decide)
        clear hd
        replace hK : ∀ (v : Value) (W' : World), Ext W W' → (∃ u, v = .agg (sigC SG s1.round u).toArray ∧ OwnD 28 W' u (wayM sa 2 s1.round)) → _ := hK
        simp only [mkOf, List.map_cons, List.map_nil, Act.put, List.setIfInBounds_toArray, List.set_cons_succ, List.set_cons_zero, Nat.reduceAdd, Nat.zero_add] at hK ⊢
        simp only [d116, d117] at hK ⊢
        rw [if_pos (by kernel_rfl)]
        go_simp
        refine (HFR3.out _ hX).mono ?_
        rintro e w' ⟨u, rfl, ho, hx, _⟩
        exact hK _ _ hx ⟨u, rfl, ho⟩
      | 28, _, ho =>
        obtain rfl := Option.some.inj ho
        intro s W hX hd K hK
        have d116 : (s 25) = .bool true := hd 25 (by decide) (by decide)
        clear hd
        replace hK : ∀ (v : Value) (W' : World), Ext W W' → (v = .agg M1.toArray) → _ := hK
        simp only [mkOf, List.map_cons, List.map_nil, Act.put, List.setIfInBounds_toArray, List.set_cons_succ, List.set_cons_zero, Nat.reduceAdd, Nat.zero_add] at hK ⊢
        simp only [d116] at hK ⊢
        rw [if_pos (by kernel_rfl)]
        refine wp_load_aggD 70 (.tmp 14) rfl _ rfl M1 _ Try.underlying70 rfl (szOutTo05 HM1L.out) (HB14.out.keep hX (by simp)).cells ?_
        exact hK _ _ (Ext.refl _) rfl
      | 29, _, ho =>
        obtain rfl := Option.some.inj ho
        intro s W hX hd K hK
        have d116 : (s 25) = .bool true := hd 25 (by decide) (by decide)
        have d119 : (s 28) = .agg M1.toArray := hd 28 (by decide) (by decide)
        clear hd
        replace hK : ∀ (v : Value) (W' : World), Ext W W' → (∃ u, v = .agg (sigC SG s1.round u).toArray ∧ OwnD 28 W' u (wayM sa 2 s1.round)) → _ := hK
        simp only [mkOf, List.map_cons, List.map_nil, Act.put, List.setIfInBounds_toArray, List.set_cons_succ, List.set_cons_zero, Nat.reduceAdd, Nat.zero_add] at hK ⊢
        simp only [d116, d119] at hK ⊢
        rw [if_pos (by kernel_rfl)]
        go_simp
        refine (HFR1.out _ hX).mono ?_
        rintro e w' ⟨u, rfl, ho, hx, _⟩
        exact hK _ _ hx ⟨u, rfl, ho⟩
      | 30, _, ho =>
        obtain rfl := Option.some.inj ho
        intro s W hX hd K hK
        have d116 : (s 25) = .bool true := hd 25 (by decide) (by decide)
        have d118 : ∃ u, (s 27) = .agg (sigC SG s1.round u).toArray ∧ OwnD 28 W u (wayM sa 2 s1.round) := hd 27 (by decide) (by decide)
        have d120 : ∃ u, (s 29) = .agg (sigC SG s1.round u).toArray ∧ OwnD 28 W u (wayM sa 2 s1.round) := hd 29 (by decide) (by decide)
        clear hd
        replace hK : ∀ (v : Value) (W' : World), Ext W W' → (v = .bool true) → _ := hK
        simp only [mkOf, List.map_cons, List.map_nil, Act.put, List.setIfInBounds_toArray, List.set_cons_succ, List.set_cons_zero, Nat.reduceAdd, Nat.zero_add] at hK ⊢
        simp only [d116] at hK ⊢
        rw [if_pos (by kernel_rfl)]
        obtain ⟨u1, e1, o1⟩ := d118
        obtain ⟨u2, e2, o2⟩ := d120
        simp only [e1, e2] at hK ⊢
        go_simp
        refine (HSAME.out u1 u2 W o1 o2).mono ?_
        rintro e w' ⟨rfl, hx⟩
        exact hK _ _ hx rfl
      | 31, _, ho =>
        obtain rfl := Option.some.inj ho
        intro s W hX hd K hK
        rw [if_pos (wanted_plain rfl)]
        have d116 : (s 25) = .bool true := hd 25 (by decide) (by decide)
        have d121 : (s 30) = .bool true := hd 30 (by decide) (by decide)
        clear hd
        replace hK : ∀ (v : Value) (W' : World), Ext W W' → (v = .bool true) → _ := hK
        simp only [mkOf, List.map_cons, List.map_nil, Act.put, List.setIfInBounds_toArray, List.set_cons_succ, List.set_cons_zero, Nat.reduceAdd, Nat.zero_add] at hK ⊢
        simp only [d116, d121] at hK ⊢
        go_simp
        exact hK _ _ (Ext.refl _) rfl
      | 32, _, ho =>
        obtain rfl := Option.some.inj ho
        intro s W hX hd K hK
        rw [if_pos (wanted_plain rfl)]
        have d122 : (s 31) = .bool true := hd 31 (by decide) (by decide)
        clear hd
        replace hK : ∀ (v : Value) (W' : World), Ext W W' → (v = .bool true) → _ := hK
        simp only [mkOf, List.map_cons, List.map_nil, Act.put, List.setIfInBounds_toArray, List.set_cons_succ, List.set_cons_zero, Nat.reduceAdd, Nat.zero_add] at hK ⊢
        simp only [d122] at hK ⊢
        go_simp
        exact hK _ _ (Ext.refl _) rfl
      | 33, _, ho =>
        obtain rfl := Option.some.inj ho
        intro s W hX hd K hK
        have d123 : (s 32) = .bool true := hd 32 (by decide) (by decide)
        clear hd
        replace hK : ∀ (v : Value) (W' : World), Ext W W' → (v = .agg RC.toArray) → _ := hK
        simp only [mkOf, List.map_cons, List.map_nil, Act.put, List.setIfInBounds_toArray, List.set_cons_succ, List.set_cons_zero, Nat.reduceAdd, Nat.zero_add] at hK ⊢
        simp only [d123] at hK ⊢
        rw [if_pos (by kernel_rfl)]
        refine wp_load_aggD 79 (.tmp 23) rfl _ rfl RC _ Try.underlying79 rfl (roots_size HRCL.out) (HB23.out.keep hX (by simp)).cells ?_
        exact hK _ _ (Ext.refl _) rfl
      | 34, _, ho =>
        obtain rfl := Option.some.inj ho
        intro s W hX hd K hK
        have d123 : (s 32) = .bool true := hd 32 (by decide) (by decide)
        clear hd
        replace hK : ∀ (v : Value) (W' : World), Ext W W' → (v = .agg DC.toArray) → _ := hK
        simp only [mkOf, List.map_cons, List.map_nil, Act.put, List.setIfInBounds_toArray, List.set_cons_succ, List.set_cons_zero, Nat.reduceAdd, Nat.zero_add] at hK ⊢
        simp only [d123] at hK ⊢
        rw [if_pos (by kernel_rfl)]
        refine wp_load_aggD 75 (.tmp 22) rfl _ rfl DC _ Try.underlying75 rfl (deed_size HDCL.out) (HB22.out.keep hX (by simp)).cells ?_
        exact hK _ _ (Ext.refl _) rfl
      | 35, _, ho =>
        obtain rfl := Option.some.inj ho
        intro s W hX hd K hK
        have d123 : (s 32) = .bool true := hd 32 (by decide) (by decide)
        clear hd
        replace hK : ∀ (v : Value) (W' : World), Ext W W' → (v = .pointer (some ⟨w.heap.size + 2, 0, none⟩)) → _ := hK
        simp only [mkOf, List.map_cons, List.map_nil, Act.put, List.setIfInBounds_toArray, List.set_cons_succ, List.set_cons_zero, Nat.reduceAdd, Nat.zero_add] at hK ⊢
        simp only [d123] at hK ⊢
        rw [if_pos (by kernel_rfl)]
        go_simp
        exact hK _ _ (Ext.refl _) rfl
      | 36, _, ho =>
        obtain rfl := Option.some.inj ho
        intro s W hX hd K hK
        have d123 : (s 32) = .bool true := hd 32 (by decide) (by decide)
        have d126 : (s 35) = .pointer (some ⟨w.heap.size + 2, 0, none⟩) := hd 35 (by decide) (by decide)
        clear hd
        replace hK : ∀ (v : Value) (W' : World), Ext W W' → (v = .int .u32 (s1.chan : Int)) → _ := hK
        simp only [mkOf, List.map_cons, List.map_nil, Act.put, List.setIfInBounds_toArray, List.set_cons_succ, List.set_cons_zero, Nat.reduceAdd, Nat.zero_add] at hK ⊢
        simp only [d123, d126] at hK ⊢
        rw [if_pos (by kernel_rfl)]
        have c0 := (HB6.out.keep hX (by simp)).cell 0
        rw [HCH.out] at c0
        go_simp
        exact hK _ _ (Ext.refl _) rfl
      | 37, _, ho =>
        obtain rfl := Option.some.inj ho
        intro s W hX hd K hK
        have d123 : (s 32) = .bool true := hd 32 (by decide) (by decide)
        have d124 : (s 33) = .agg RC.toArray := hd 33 (by decide) (by decide)
        have d125 : (s 34) = .agg DC.toArray := hd 34 (by decide) (by decide)
        have d127 : (s 36) = .int .u32 (s1.chan : Int) := hd 36 (by decide) (by decide)
        clear hd
        replace hK : ∀ (v : Value) (W' : World), Ext W W' → (v = .bool true) → _ := hK
        simp only [mkOf, List.map_cons, List.map_nil, Act.put, List.setIfInBounds_toArray, List.set_cons_succ, List.set_cons_zero, Nat.reduceAdd, Nat.zero_add] at hK ⊢
        simp only [d123, d124, d125, d127] at hK ⊢
        rw [if_pos (by kernel_rfl)]
        go_simp
        refine (HWY.out _ hX).mono ?_
        rintro e w' ⟨rfl, hx⟩
        exact hK _ _ hx rfl
      | 38, _, ho =>
        obtain rfl := Option.some.inj ho
        intro s W hX hd K hK
        rw [if_pos (wanted_plain rfl)]
        have d123 : (s 32) = .bool true := hd 32 (by decide) (by decide)
        have d128 : (s 37) = .bool true := hd 37 (by decide) (by decide)
        clear hd
        replace hK : ∀ (v : Value) (W' : World), Ext W W' → (v = .bool true) → _ := hK
        simp only [mkOf, List.map_cons, List.map_nil, Act.put, List.setIfInBounds_toArray, List.set_cons_succ, List.set_cons_zero, Nat.reduceAdd, Nat.zero_add] at hK ⊢
        simp only [d123, d128] at hK ⊢
        go_simp
        exact hK _ _ (Ext.refl _) rfl
      | 39, _, ho =>
        obtain rfl := Option.some.inj ho
        intro s W hX hd K hK
        rw [if_pos (wanted_plain rfl)]
        have d129 : (s 38) = .bool true := hd 38 (by decide) (by decide)
        clear hd
        replace hK : ∀ (v : Value) (W' : World), Ext W W' → (v = .bool true) → _ := hK
        simp only [mkOf, List.map_cons, List.map_nil, Act.put, List.setIfInBounds_toArray, List.set_cons_succ, List.set_cons_zero, Nat.reduceAdd, Nat.zero_add] at hK ⊢
        simp only [d129] at hK ⊢
        go_simp
        exact hK _ _ (Ext.refl _) rfl
      | 40, _, ho =>
        obtain rfl := Option.some.inj ho
        intro s W hX hd K hK
        have d130 : (s 39) = .bool true := hd 39 (by decide) (by decide)
        clear hd
        replace hK : ∀ (v : Value) (W' : World), Ext W W' → (v = .agg RC.toArray) → _ := hK
        simp only [mkOf, List.map_cons, List.map_nil, Act.put, List.setIfInBounds_toArray, List.set_cons_succ, List.set_cons_zero, Nat.reduceAdd, Nat.zero_add] at hK ⊢
        simp only [d130] at hK ⊢
        rw [if_pos (by kernel_rfl)]
        refine wp_load_aggD 79 (.tmp 23) rfl _ rfl RC _ Try.underlying79 rfl (roots_size HRCL.out) (HB23.out.keep hX (by simp)).cells ?_
        exact hK _ _ (Ext.refl _) rfl
      | 41, _, ho =>
        obtain rfl := Option.some.inj ho
        intro s W hX hd K hK
        have d130 : (s 39) = .bool true := hd 39 (by decide) (by decide)
        clear hd
        replace hK : ∀ (v : Value) (W' : World), Ext W W' → (v = .agg DC.toArray) → _ := hK
        simp only [mkOf, List.map_cons, List.map_nil, Act.put, List.setIfInBounds_toArray, List.set_cons_succ, List.set_cons_zero, Nat.reduceAdd, Nat.zero_add] at hK ⊢
        simp only [d130] at hK ⊢
        rw [if_pos (by kernel_rfl)]
        refine wp_load_aggD 75 (.tmp 22) rfl _ rfl DC _ Try.underlying75 rfl (deed_size HDCL.out) (HB22.out.keep hX (by simp)).cells ?_
        exact hK _ _ (Ext.refl _) rfl
      | 42, _, ho =>
        obtain rfl := Option.some.inj ho
        intro s W hX hd K hK
        have d130 : (s 39) = .bool true := hd 39 (by decide) (by decide)
        clear hd
        replace hK : ∀ (v : Value) (W' : World), Ext W W' → (v = .pointer (some ⟨w.heap.size + 2, 0, none⟩)) → _ := hK
        simp only [mkOf, List.map_cons, List.map_nil, Act.put, List.setIfInBounds_toArray, List.set_cons_succ, List.set_cons_zero, Nat.reduceAdd, Nat.zero_add] at hK ⊢
        simp only [d130] at hK ⊢
        rw [if_pos (by kernel_rfl)]
        go_simp
        exact hK _ _ (Ext.refl _) rfl
      | 43, _, ho =>
        obtain rfl := Option.some.inj ho
        intro s W hX hd K hK
        have d130 : (s 39) = .bool true := hd 39 (by decide) (by decide)
        have d133 : (s 42) = .pointer (some ⟨w.heap.size + 2, 0, none⟩) := hd 42 (by decide) (by decide)
        clear hd
        replace hK : ∀ (v : Value) (W' : World), Ext W W' → (v = .int .u32 (s1.chan : Int)) → _ := hK
        simp only [mkOf, List.map_cons, List.map_nil, Act.put, List.setIfInBounds_toArray, List.set_cons_succ, List.set_cons_zero, Nat.reduceAdd, Nat.zero_add] at hK ⊢
        simp only [d130, d133] at hK ⊢
        rw [if_pos (by kernel_rfl)]
        have c0 := (HB6.out.keep hX (by simp)).cell 0
        rw [HCH.out] at c0
        go_simp
        exact hK _ _ (Ext.refl _) rfl
      | 44, _, ho =>
        obtain rfl := Option.some.inj ho
        intro s W hX hd K hK
        have d130 : (s 39) = .bool true := hd 39 (by decide) (by decide)
        have d134 : (s 43) = .int .u32 (s1.chan : Int) := hd 43 (by decide) (by decide)
        clear hd
        replace hK : ∀ (v : Value) (W' : World), Ext W W' → (v = .int .u32 (c9 : Int)) → _ := hK
        simp only [mkOf, List.map_cons, List.map_nil, Act.put, List.setIfInBounds_toArray, List.set_cons_succ, List.set_cons_zero, Nat.reduceAdd, Nat.zero_add] at hK ⊢
        simp only [d130, d134] at hK ⊢
        rw [if_pos (by kernel_rfl)]
        go_simp
        exact hK _ _ (Ext.refl _) (by rw [HW135.out])
      | 45, _, ho =>
        obtain rfl := Option.some.inj ho
        intro s W hX hd K hK
        have d130 : (s 39) = .bool true := hd 39 (by decide) (by decide)
        have d131 : (s 40) = .agg RC.toArray := hd 40 (by decide) (by decide)
        have d132 : (s 41) = .agg DC.toArray := hd 41 (by decide) (by decide)
        have d135 : (s 44) = .int .u32 (c9 : Int) := hd 44 (by decide) (by decide)
        clear hd
        replace hK : ∀ (v : Value) (W' : World), Ext W W' → (v = .bool false) → _ := hK
        simp only [mkOf, List.map_cons, List.map_nil, Act.put, List.setIfInBounds_toArray, List.set_cons_succ, List.set_cons_zero, Nat.reduceAdd, Nat.zero_add] at hK ⊢
        simp only [d130, d131, d132, d135] at hK ⊢
        rw [if_pos (by kernel_rfl)]
        go_simp
        refine (HWN.out _ hX).mono ?_
        rintro e w' ⟨rfl, hx⟩
        exact hK _ _ hx rfl
      | 46, _, ho =>
        obtain rfl := Option.some.inj ho
        intro s W hX hd K hK
        have d130 : (s 39) = .bool true := hd 39 (by decide) (by decide)
        have d136 : (s 45) = .bool false := hd 45 (by decide) (by decide)
        clear hd
        replace hK : ∀ (v : Value) (W' : World), Ext W W' → (v = .bool true) → _ := hK
        simp only [mkOf, List.map_cons, List.map_nil, Act.put, List.setIfInBounds_toArray, List.set_cons_succ, List.set_cons_zero, Nat.reduceAdd, Nat.zero_add] at hK ⊢
        simp only [d130, d136] at hK ⊢
        rw [if_pos (by kernel_rfl)]
        go_simp
        exact hK _ _ (Ext.refl _) rfl
      | 47, _, ho =>
        obtain rfl := Option.some.inj ho
        intro s W hX hd K hK
        rw [if_pos (wanted_plain rfl)]
        have d130 : (s 39) = .bool true := hd 39 (by decide) (by decide)
        have d137 : (s 46) = .bool true := hd 46 (by decide) (by decide)
        clear hd
        replace hK : ∀ (v : Value) (W' : World), Ext W W' → (v = .bool true) → _ := hK
        simp only [mkOf, List.map_cons, List.map_nil, Act.put, List.setIfInBounds_toArray, List.set_cons_succ, List.set_cons_zero, Nat.reduceAdd, Nat.zero_add] at hK ⊢
        simp only [d130, d137] at hK ⊢
        go_simp
        exact hK _ _ (Ext.refl _) rfl
      | 48, _, ho =>
        obtain rfl := Option.some.inj ho
        intro s W hX hd K hK
        rw [if_pos (wanted_plain rfl)]
        have d138 : (s 47) = .bool true := hd 47 (by decide) (by decide)
        clear hd
        replace hK : ∀ (v : Value) (W' : World), Ext W W' → (v = .bool true) → _ := hK
        simp only [mkOf, List.map_cons, List.map_nil, Act.put, List.setIfInBounds_toArray, List.set_cons_succ, List.set_cons_zero, Nat.reduceAdd, Nat.zero_add] at hK ⊢
        simp only [d138] at hK ⊢
        go_simp
        exact hK _ _ (Ext.refl _) rfl
      | 49, _, ho =>
        obtain rfl := Option.some.inj ho
        intro s W hX hd K hK
        have d139 : (s 48) = .bool true := hd 48 (by decide) (by decide)
        clear hd
        replace hK : ∀ (v : Value) (W' : World), Ext W W' → (v = .agg RC.toArray) → _ := hK
        simp only [mkOf, List.map_cons, List.map_nil, Act.put, List.setIfInBounds_toArray, List.set_cons_succ, List.set_cons_zero, Nat.reduceAdd, Nat.zero_add] at hK ⊢
        simp only [d139] at hK ⊢
        rw [if_pos (by kernel_rfl)]
        refine wp_load_aggD 79 (.tmp 23) rfl _ rfl RC _ Try.underlying79 rfl (roots_size HRCL.out) (HB23.out.keep hX (by simp)).cells ?_
        exact hK _ _ (Ext.refl _) rfl
      | 50, _, ho =>
        obtain rfl := Option.some.inj ho
        intro s W hX hd K hK
        have d139 : (s 48) = .bool true := hd 48 (by decide) (by decide)
        clear hd
        replace hK : ∀ (v : Value) (W' : World), Ext W W' → (v = .agg SV.toArray) → _ := hK
        simp only [mkOf, List.map_cons, List.map_nil, Act.put, List.setIfInBounds_toArray, List.set_cons_succ, List.set_cons_zero, Nat.reduceAdd, Nat.zero_add] at hK ⊢
        simp only [d139] at hK ⊢
        rw [if_pos (by kernel_rfl)]
        refine wp_load_aggD 40 (.tmp 13) rfl _ rfl SV _ Try.underlying40 rfl (szStD HSVL.out) (HB13.out.keep hX (by simp)).cells ?_
        exact hK _ _ (Ext.refl _) rfl
      | 51, _, ho =>
        obtain rfl := Option.some.inj ho
        intro s W hX hd K hK
        have d139 : (s 48) = .bool true := hd 48 (by decide) (by decide)
        clear hd
        replace hK : ∀ (v : Value) (W' : World), Ext W W' → (v = .agg M2.toArray) → _ := hK
        simp only [mkOf, List.map_cons, List.map_nil, Act.put, List.setIfInBounds_toArray, List.set_cons_succ, List.set_cons_zero, Nat.reduceAdd, Nat.zero_add] at hK ⊢
        simp only [d139] at hK ⊢
        rw [if_pos (by kernel_rfl)]
        refine wp_load_aggD 70 (.tmp 16) rfl _ rfl M2 _ Try.underlying70 rfl (szOutTo05 HM2L.out) (HB16.out.keep hX (by simp)).cells ?_
        exact hK _ _ (Ext.refl _) rfl
      | 52, _, ho =>
        obtain rfl := Option.some.inj ho
        intro s W hX hd K hK
        have d139 : (s 48) = .bool true := hd 48 (by decide) (by decide)
        have d140 : (s 49) = .agg RC.toArray := hd 49 (by decide) (by decide)
        have d141 : (s 50) = .agg SV.toArray := hd 50 (by decide) (by decide)
        have d142 : (s 51) = .agg M2.toArray := hd 51 (by decide) (by decide)
        clear hd
        replace hK : ∀ (v : Value) (W' : World), Ext W W' → (v = .bool true) → _ := hK
        simp only [mkOf, List.map_cons, List.map_nil, Act.put, List.setIfInBounds_toArray, List.set_cons_succ, List.set_cons_zero, Nat.reduceAdd, Nat.zero_add] at hK ⊢
        simp only [d139, d140, d141, d142] at hK ⊢
        rw [if_pos (by kernel_rfl)]
        go_simp
        refine (HRI.out _ hX).mono ?_
        rintro e w' ⟨rfl, hx⟩
        exact hK _ _ hx rfl
      | 53, _, ho =>
        obtain rfl := Option.some.inj ho
        intro s W hX hd K hK
        rw [if_pos (wanted_plain rfl)]
        have d139 : (s 48) = .bool true := hd 48 (by decide) (by decide)
        have d143 : (s 52) = .bool true := hd 52 (by decide) (by decide)
        clear hd
        replace hK : ∀ (v : Value) (W' : World), Ext W W' → (v = .bool true) → _ := hK
        simp only [mkOf, List.map_cons, List.map_nil, Act.put, List.setIfInBounds_toArray, List.set_cons_succ, List.set_cons_zero, Nat.reduceAdd, Nat.zero_add] at hK ⊢
        simp only [d139, d143] at hK ⊢
        go_simp
        exact hK _ _ (Ext.refl _) rfl
      | 54, _, ho =>
        obtain rfl := Option.some.inj ho
        intro s W hX hd K hK
        rw [if_pos (wanted_plain rfl)]
        have d144 : (s 53) = .bool true := hd 53 (by decide) (by decide)
        clear hd
        replace hK : ∀ (v : Value) (W' : World), Ext W W' → (v = .bool true) → _ := hK
        simp only [mkOf, List.map_cons, List.map_nil, Act.put, List.setIfInBounds_toArray, List.set_cons_succ, List.set_cons_zero, Nat.reduceAdd, Nat.zero_add] at hK ⊢
        simp only [d144] at hK ⊢
        go_simp
        exact hK _ _ (Ext.refl _) rfl
      | i + 55, hi, _ => exact absurd hi (by simp)
    · intro s W hX hd
      have d91 : (s 0) = .bool true := hd 0 (by decide)
      have d92 : (s 1) = .bool true := hd 1 (by decide)
      have d93 : (s 2) = .int .i64 0 := hd 2 (by decide)
      have d94 : (s 3) = .bool true := hd 3 (by decide)
      have d95 : (s 4) = .bool true := hd 4 (by decide)
      have d96 : (s 5) = .bool true := hd 5 (by decide)
      have d97 : (s 6) = .int .i64 0 := hd 6 (by decide)
      have d98 : (s 7) = .bool true := hd 7 (by decide)
      have d99 : (s 8) = .bool true := hd 8 (by decide)
      have d100 : (s 9) = .bool true := hd 9 (by decide)
      have d101 : (s 10) = .int .i64 0 := hd 10 (by decide)
      have d102 : (s 11) = .bool true := hd 11 (by decide)
      have d103 : (s 12) = .bool true := hd 12 (by decide)
      have d104 : (s 13) = .bool true := hd 13 (by decide)
      have d105 : (s 14) = .int .i64 0 := hd 14 (by decide)
      have d106 : (s 15) = .bool true := hd 15 (by decide)
      have d107 : (s 16) = .bool true := hd 16 (by decide)
      have d108 : (s 17) = .bool true := hd 17 (by decide)
      have d109 : (s 18) = .int .i64 21 := hd 18 (by decide)
      have d110 : (s 19) = .bool true := hd 19 (by decide)
      have d111 : (s 20) = .bool true := hd 20 (by decide)
      have d112 : (s 21) = .bool true := hd 21 (by decide)
      have d113 : (s 22) = .int .i64 0 := hd 22 (by decide)
      have d114 : (s 23) = .bool true := hd 23 (by decide)
      have d115 : (s 24) = .bool true := hd 24 (by decide)
      have d116 : (s 25) = .bool true := hd 25 (by decide)
      have d117 : (s 26) = .agg M3.toArray := hd 26 (by decide)
      have d118 : ∃ u, (s 27) = .agg (sigC SG s1.round u).toArray ∧ OwnD 28 W u (wayM sa 2 s1.round) := hd 27 (by decide)
      have d119 : (s 28) = .agg M1.toArray := hd 28 (by decide)
      have d120 : ∃ u, (s 29) = .agg (sigC SG s1.round u).toArray ∧ OwnD 28 W u (wayM sa 2 s1.round) := hd 29 (by decide)
      have d121 : (s 30) = .bool true := hd 30 (by decide)
      have d122 : (s 31) = .bool true := hd 31 (by decide)
      have d123 : (s 32) = .bool true := hd 32 (by decide)
      have d124 : (s 33) = .agg RC.toArray := hd 33 (by decide)
      have d125 : (s 34) = .agg DC.toArray := hd 34 (by decide)
      have d126 : (s 35) = .pointer (some ⟨w.heap.size + 2, 0, none⟩) := hd 35 (by decide)
      have d127 : (s 36) = .int .u32 (s1.chan : Int) := hd 36 (by decide)
      have d128 : (s 37) = .bool true := hd 37 (by decide)
      have d129 : (s 38) = .bool true := hd 38 (by decide)
      have d130 : (s 39) = .bool true := hd 39 (by decide)
      have d131 : (s 40) = .agg RC.toArray := hd 40 (by decide)
      have d132 : (s 41) = .agg DC.toArray := hd 41 (by decide)
      have d133 : (s 42) = .pointer (some ⟨w.heap.size + 2, 0, none⟩) := hd 42 (by decide)
      have d134 : (s 43) = .int .u32 (s1.chan : Int) := hd 43 (by decide)
      have d135 : (s 44) = .int .u32 (c9 : Int) := hd 44 (by decide)
      have d136 : (s 45) = .bool false := hd 45 (by decide)
      have d137 : (s 46) = .bool true := hd 46 (by decide)
      have d138 : (s 47) = .bool true := hd 47 (by decide)
      have d139 : (s 48) = .bool true := hd 48 (by decide)
      have d140 : (s 49) = .agg RC.toArray := hd 49 (by decide)
      have d141 : (s 50) = .agg SV.toArray := hd 50 (by decide)
      have d142 : (s 51) = .agg M2.toArray := hd 51 (by decide)
      have d143 : (s 52) = .bool true := hd 52 (by decide)
      have d144 : (s 53) = .bool true := hd 53 (by decide)
      have d8 : (s 54) = .bool true := hd 54 (by decide)
      clear hd
      simp only [mkOf, List.map_cons, List.map_nil, Act.put, List.setIfInBounds_toArray, List.set_cons_succ, List.set_cons_zero, Nat.reduceAdd, Nat.zero_add]
      simp only [d8]
      (try simp only [Exit.then])
      go_wp2_with fail
      go_ret
      exact ⟨rfl, HX.out.trans hX⟩
end
end Go.Proofs.Ytmicjaiiinaipaa
