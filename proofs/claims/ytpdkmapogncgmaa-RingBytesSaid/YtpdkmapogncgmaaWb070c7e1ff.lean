/- Walks and plain laws, put together in build order. Conditions: what each of them names. -/
import Derived.Test.YtpdkmapogncgmaaWfc8f8e42e5
set_option linter.unusedVariables false
set_option linter.unusedSimpArgs false
set_option linter.unnecessarySimpa false
namespace Go.Proofs.Ytpdkmapogncgmaa
section
open Go.RowKit

/-- The document's In in memory: its block; what is left, what is wrong, as of the program's. -/
def RIn (w : World) (g : Nat) (F : Fp) (s : InS) : Prop := ∃ A c B at_, Blk w g 77 [.slice A B.length c, .int .i64 ((at_ : Nat) : Int), .int .i64 s.2] ∧ (Ty.sl .u8).holds w F [.slice A B.length c] B ∧ at_ ≤ B.length ∧ (s.2 = 0 → s.1 = B.drop at_) ∧ (s.2 ≠ 0 → s.1 = []) ∧ (∀ b, F b → b < w.heap.size ∧ b ≠ g) ∧ B.length ≤ 140737488355328 ∧ (Lit.int .i64 s.2).wf = true
theorem RIn.keep {w w' : World} {g : Nat} {F : Fp} {s : InS} {row : Option Nat} (h : RIn w g F s) (hg : w.grownBy w' row) (h1 : some g ≠ row) (h2 : ∀ b, F b → some b ≠ row) : RIn w' g F s := by
  obtain ⟨A, c, B, a, hb, hh, ha, e1, e2, hF, hl, hw⟩ := h
  exact ⟨A, c, B, a, hb.keep hg h1, Ty.keep (fun b hb => hg.block b (hF b hb).1 (h2 b hb)) (fun _ h => h) _ hh, ha, e1, e2, fun b hb => ⟨Nat.lt_of_lt_of_le (hF b hb).1 hg.size, (hF b hb).2⟩, hl, hw⟩
theorem RIn.lt {w : World} {g : Nat} {F : Fp} {s : InS} (h : RIn w g F s) : g < w.heap.size := by obtain ⟨_, _, _, _, hb, _⟩ := h; exact hb.lt
section
variable {P : Program}
theorem wp_app_empty {w : World} {o : Oper} {a : Act} {K : Act → World → Prop} {Q : Exit → Act → World → Prop} (s x : Operand) (t t' : TypeId)
    (ho : o.op = .call { callee := .builtin .append, args := #[s, x], argTypes := #[t, t'] })
    (e e' : TypeId) (i : TypeInfo) (z : Value) (ht : P.underlying t = some (.slice e)) (ht' : P.underlying t' = some (.slice e')) (hi : P.info? e = some i) (hz : i.zero = some z)
    (hsize : i.size = 1) (hby : i.bytes = 1) (hzs : z.cells.size = 1)
    (b : Addr) (hs : a.eval s = .slice (some b) 0 0) (hown : Own w e 1 (.slice (some b) 0 0) 0 [])
    (A : Option Addr) (m c : Nat) (news : List Value) (hx : a.eval x = .slice A m c) (hl : news.length = m * 1) (hnews : Src w A m news) (h1 : ∀ u ∈ news, u.oneCell' = true) (hm : 0 < m) (hb : m ≤ 140737488355328)
    (h : ∀ v' w', Own w' e 1 v' m news → Ext w w' → (∀ g, v'.ownBlock = some g → w.heap.size ≤ g) → K (a.put o.dst v') w') : o.wp P a w K Q := by
  obtain ⟨v', w', hr, h2, h3⟩ := run_app (P := P) w t t' o.type e e' i z 1 1 ht ht' hi hz hsize hby hzs (by decide) _ 0 [] hown A m c news hl hnews h1 (by unfold maxLen; omega) (by omega)
  obtain ⟨ad, rfl, hc⟩ := hnews (by omega)
  have hg := run_append_grow (P := P) (w := w) t o.type e i z ht hi hz b 0 0 [] (by simp) (by intro j v hj; simp at hj) ad m c news (by rw [hsize]; exact hl) (fun j v hj => hc j v hj) (by omega) (by omega)
    (by rw [hby, Nat.zero_add, nextslicecap_zero hm]; omega)
  rw [← append_types w ht ht'] at hg
  rw [hr] at hg
  simp only [Result.ok.injEq] at hg
  obtain ⟨hv, hw⟩ := hg
  unfold Oper.wp execOp
  simp only [ho, resolve, invoke, builtin, Sem.run_bind, Sem.run_pure, Result.andThen_ok, List.map_toArray, List.map_cons, List.map_nil, hs, hx, hr]
  refine h v' w' (by simpa using h2) ?_ ?_
  · rw [hw]; exact ((Ext.refl _).drew).alloc _
  · intro g hgb
    rw [hv] at hgb
    simp [Value.ownBlock] at hgb
    omega
end
set_option maxRecDepth 100000 in
set_option maxHeartbeats 4000000 in
theorem RRaw (n : Nat) (hn : n < 1000000) (hn0 : 0 < n) {w : World} {g : Nat} {F : Fp} {s : InS} (h : RIn w g F s) :
    Calls Try.prog 77 #[.pointer (some ⟨g, 0, none⟩), .int .i64 (n : Int)] w fun r w' => ∃ v, r = .returned v ∧ OwnB w' v (cutM n s).1 ∧ RIn w' g F (cutM n s).2 ∧ w.grownBy w' (some g) ∧ ∀ b, v.ownBlock = some b → w.heap.size ≤ b := by
  obtain ⟨i0, hi8, hz0, hz1, hz2⟩ := info_parts u8_info
  obtain ⟨l, bad⟩ := s
  have h0 := h
  obtain ⟨A, c, B, at_, hb, hh, hat, e1, e2, hF, hbl, hwf⟩ := h
  by_cases hbad : bad = 0
  case neg =>
    have hc2 := hb.cell 2
    have hcut : cutM n (l, bad) = ([], (l, bad)) := if_pos hbad
    rw [hcut]
    have hbb : (bad != 0) = true := by simpa using hbad
    have HR := Lib.hid h0
    clear hb hh e1 e2 hF hwf h0 hcut
    replace hc2 : w.cell? ⟨g, 2, none⟩ = some (.int .i64 bad) := hc2
    go_enter Try.func77, Try.ntmps77
    go_wp2
    go_ret
    exact ⟨_, rfl, Own.nil _ _ _, HR.out, World.grownBy.refl _ _, fun b hb => by simp [Value.ownBlock] at hb⟩
  subst hbad
  have hc2 : w.cell? ⟨g, 2, none⟩ = some (.int .i64 0) := hb.cell 2
  have el : l = B.drop at_ := e1 rfl
  have HB : Hid (Blk w.drew g 77 [.slice A B.length c, .int .i64 ((at_ : Nat) : Int), .int .i64 0]) := Lib.hid hb
  have HAT := Lib.hid hat
  have HBL := Lib.hid hbl
  have HSUB : Hid (IntKind.i64.wrap ((B.length : Int) - (at_ : Int)) = ((B.length - at_ : Nat) : Int)) := Lib.hid (by simp [IntKind.wrap, IntKind.bits, IntKind.signed]; omega)
  have HH := Lib.hid hh
  have HF := Lib.hid hF
  have HR := Lib.hid h0
  have HN := Lib.hid hn
  have HN0 := Lib.hid hn0
  have HEL := Lib.hid el
  clear hb hh e1 e2 hF hwf h0 hat hbl hn hn0 el
  go_enter Try.func77, Try.ntmps77
  go_wp2_with fail
  refine stab_plain Ext ext_refl ext_trans [[0], [1], [1, 2], [1, 2, 3], [1, 2, 3, 4], [1, 2, 3, 4, 5], [6], [6, 7], [6, 7, 8], [6, 7, 8, 9], [1, 2, 3, 4, 5, 6, 7, 8, 9, 10], [0, 1, 2, 3, 4, 5, 6, 7, 8, 9, 10, 11]] (fun i v wv => match i with | 0 => v = .int .i64 (n : Int) | 1 => v = .pointer (some ⟨g, 0, none⟩) | 2 => v = .pointer (some ⟨g, 0, none⟩) | 3 => v = .pointer (some ⟨g, 0, none⟩) | 4 => v = .slice A B.length c | 5 => v = .int .i64 (B.length : Int) | 6 => v = .pointer (some ⟨g, 0, none⟩) | 7 => v = .pointer (some ⟨g, 0, none⟩) | 8 => v = .pointer (some ⟨g, 1, none⟩) | 9 => v = .int .i64 (at_ : Int) | 10 => v = .int .i64 ((B.length - at_ : Nat) : Int) | 11 => v = .bool (decide (B.length - at_ < n)) | _ => True) (by kernel_rfl) (by kernel_rfl) (by kernel_rfl) ?_ ?_ ?_
  · intro i v w1 w2 h hx
    match i, h with
    | 0, h => exact h
    | 1, h => exact h
    | 2, h => exact h
    | 3, h => exact h
    | 4, h => exact h
    | 5, h => exact h
    | 6, h => exact h
    | 7, h => exact h
    | 8, h => exact h
    | 9, h => exact h
    | 10, h => exact h
    | 11, h => exact h
    | i + 12, h => trivial
  · intro i hi o ho
    match i, hi, ho with
    | 0, _, ho =>
      obtain rfl := Option.some.inj ho
      intro s W hX hd K hK
      rw [if_pos (wanted_plain rfl)]
      clear hd
      replace hK : ∀ (v : Value) (W' : World), Ext W W' → (v = .int .i64 (n : Int)) → _ := hK
      simp only [mkOf, List.map_cons, List.map_nil, Act.put, List.setIfInBounds_toArray, List.set_cons_succ, List.set_cons_zero, Nat.reduceAdd, Nat.zero_add] at hK ⊢
      go_simp
      exact hK _ _ (Ext.refl _) rfl
    | 1, _, ho =>
      obtain rfl := Option.some.inj ho
      intro s W hX hd K hK
      rw [if_pos (wanted_plain rfl)]
      clear hd
      replace hK : ∀ (v : Value) (W' : World), Ext W W' → (v = .pointer (some ⟨g, 0, none⟩)) → _ := hK
      simp only [mkOf, List.map_cons, List.map_nil, Act.put, List.setIfInBounds_toArray, List.set_cons_succ, List.set_cons_zero, Nat.reduceAdd, Nat.zero_add] at hK ⊢
      go_simp
      exact hK _ _ (Ext.refl _) rfl
    | 2, _, ho =>
      obtain rfl := Option.some.inj ho
      intro s W hX hd K hK
      rw [if_pos (wanted_plain rfl)]
      have d11 : (s 1) = .pointer (some ⟨g, 0, none⟩) := hd 1 (by decide) (by decide)
      clear hd
      replace hK : ∀ (v : Value) (W' : World), Ext W W' → (v = .pointer (some ⟨g, 0, none⟩)) → _ := hK
      simp only [mkOf, List.map_cons, List.map_nil, Act.put, List.setIfInBounds_toArray, List.set_cons_succ, List.set_cons_zero, Nat.reduceAdd, Nat.zero_add] at hK ⊢
      simp only [d11] at hK ⊢
      go_simp
      exact hK _ _ (Ext.refl _) rfl
    | 3, _, ho =>
      obtain rfl := Option.some.inj ho
      intro s W hX hd K hK
      rw [if_pos (wanted_plain rfl)]
      have d12 : (s 2) = .pointer (some ⟨g, 0, none⟩) := hd 2 (by decide) (by decide)
      clear hd
      replace hK : ∀ (v : Value) (W' : World), Ext W W' → (v = .pointer (some ⟨g, 0, none⟩)) → _ := hK
      simp only [mkOf, List.map_cons, List.map_nil, Act.put, List.setIfInBounds_toArray, List.set_cons_succ, List.set_cons_zero, Nat.reduceAdd, Nat.zero_add] at hK ⊢
      simp only [d12] at hK ⊢
      go_simp
      exact hK _ _ (Ext.refl _) rfl
    | 4, _, ho =>
      obtain rfl := Option.some.inj ho
      intro s W hX hd K hK
      rw [if_pos (wanted_plain rfl)]
      have d13 : (s 3) = .pointer (some ⟨g, 0, none⟩) := hd 3 (by decide) (by decide)
      clear hd
      replace hK : ∀ (v : Value) (W' : World), Ext W W' → (v = .slice A B.length c) → _ := hK
      simp only [mkOf, List.map_cons, List.map_nil, Act.put, List.setIfInBounds_toArray, List.set_cons_succ, List.set_cons_zero, Nat.reduceAdd, Nat.zero_add] at hK ⊢
      simp only [d13] at hK ⊢
      have c0 := (HB.out.keep hX (by simp)).cell 0
      replace c0 : W.cell? ⟨g, 0, none⟩ = some (.slice A B.length c) := c0
      go_simp
      exact hK _ _ (Ext.refl _) rfl
    | 5, _, ho =>
      obtain rfl := Option.some.inj ho
      intro s W hX hd K hK
      rw [if_pos (wanted_plain rfl)]
      have d14 : (s 4) = .slice A B.length c := hd 4 (by decide) (by decide)
      clear hd
      replace hK : ∀ (v : Value) (W' : World), Ext W W' → (v = .int .i64 (B.length : Int)) → _ := hK
      simp only [mkOf, List.map_cons, List.map_nil, Act.put, List.setIfInBounds_toArray, List.set_cons_succ, List.set_cons_zero, Nat.reduceAdd, Nat.zero_add] at hK ⊢
      simp only [d14] at hK ⊢
      go_simp
      exact hK _ _ (Ext.refl _) rfl
    | 6, _, ho =>
      obtain rfl := Option.some.inj ho
      intro s W hX hd K hK
      rw [if_pos (wanted_plain rfl)]
      clear hd
      replace hK : ∀ (v : Value) (W' : World), Ext W W' → (v = .pointer (some ⟨g, 0, none⟩)) → _ := hK
      simp only [mkOf, List.map_cons, List.map_nil, Act.put, List.setIfInBounds_toArray, List.set_cons_succ, List.set_cons_zero, Nat.reduceAdd, Nat.zero_add] at hK ⊢
      go_simp
      exact hK _ _ (Ext.refl _) rfl
    | 7, _, ho =>
      obtain rfl := Option.some.inj ho
      intro s W hX hd K hK
      rw [if_pos (wanted_plain rfl)]
      have d16 : (s 6) = .pointer (some ⟨g, 0, none⟩) := hd 6 (by decide) (by decide)
      clear hd
      replace hK : ∀ (v : Value) (W' : World), Ext W W' → (v = .pointer (some ⟨g, 0, none⟩)) → _ := hK
      simp only [mkOf, List.map_cons, List.map_nil, Act.put, List.setIfInBounds_toArray, List.set_cons_succ, List.set_cons_zero, Nat.reduceAdd, Nat.zero_add] at hK ⊢
      simp only [d16] at hK ⊢
      go_simp
      exact hK _ _ (Ext.refl _) rfl
    | 8, _, ho =>
      obtain rfl := Option.some.inj ho
      intro s W hX hd K hK
      rw [if_pos (wanted_plain rfl)]
      have d17 : (s 7) = .pointer (some ⟨g, 0, none⟩) := hd 7 (by decide) (by decide)
      clear hd
      replace hK : ∀ (v : Value) (W' : World), Ext W W' → (v = .pointer (some ⟨g, 1, none⟩)) → _ := hK
      simp only [mkOf, List.map_cons, List.map_nil, Act.put, List.setIfInBounds_toArray, List.set_cons_succ, List.set_cons_zero, Nat.reduceAdd, Nat.zero_add] at hK ⊢
      simp only [d17] at hK ⊢
      go_simp
      exact hK _ _ (Ext.refl _) rfl
    | 9, _, ho =>
      obtain rfl := Option.some.inj ho
      intro s W hX hd K hK
      rw [if_pos (wanted_plain rfl)]
      have d18 : (s 8) = .pointer (some ⟨g, 1, none⟩) := hd 8 (by decide) (by decide)
      clear hd
      replace hK : ∀ (v : Value) (W' : World), Ext W W' → (v = .int .i64 (at_ : Int)) → _ := hK
      simp only [mkOf, List.map_cons, List.map_nil, Act.put, List.setIfInBounds_toArray, List.set_cons_succ, List.set_cons_zero, Nat.reduceAdd, Nat.zero_add] at hK ⊢
      simp only [d18] at hK ⊢
      have c1 := (HB.out.keep hX (by simp)).cell 1
      replace c1 : W.cell? ⟨g, 1, none⟩ = some (.int .i64 (at_ : Int)) := c1
      go_simp
      exact hK _ _ (Ext.refl _) rfl
    | 10, _, ho =>
      obtain rfl := Option.some.inj ho
      intro s W hX hd K hK
      rw [if_pos (wanted_plain rfl)]
      have d15 : (s 5) = .int .i64 (B.length : Int) := hd 5 (by decide) (by decide)
      have d19 : (s 9) = .int .i64 (at_ : Int) := hd 9 (by decide) (by decide)
      clear hd
      replace hK : ∀ (v : Value) (W' : World), Ext W W' → (v = .int .i64 ((B.length - at_ : Nat) : Int)) → _ := hK
      simp only [mkOf, List.map_cons, List.map_nil, Act.put, List.setIfInBounds_toArray, List.set_cons_succ, List.set_cons_zero, Nat.reduceAdd, Nat.zero_add] at hK ⊢
      simp only [d15, d19] at hK ⊢
      have h1 := HAT.out
      have h2 := HBL.out
      go_simp
      exact hK _ _ (Ext.refl _) (by first | rw [HSUB.out] | (congr 1; omega))
    | 11, _, ho =>
      obtain rfl := Option.some.inj ho
      intro s W hX hd K hK
      rw [if_pos (wanted_plain rfl)]
      have d10 : (s 0) = .int .i64 (n : Int) := hd 0 (by decide) (by decide)
      have d20 : (s 10) = .int .i64 ((B.length - at_ : Nat) : Int) := hd 10 (by decide) (by decide)
      clear hd
      replace hK : ∀ (v : Value) (W' : World), Ext W W' → (v = .bool (decide (B.length - at_ < n))) → _ := hK
      simp only [mkOf, List.map_cons, List.map_nil, Act.put, List.setIfInBounds_toArray, List.set_cons_succ, List.set_cons_zero, Nat.reduceAdd, Nat.zero_add] at hK ⊢
      simp only [d10, d20] at hK ⊢
      go_simp
      exact hK _ _ (Ext.refl _) rfl
    | i + 12, hi, _ => exact absurd hi (by simp)
  · intro s W hX hd
    have d10 : (s 0) = .int .i64 (n : Int) := hd 0 (by decide)
    have d11 : (s 1) = .pointer (some ⟨g, 0, none⟩) := hd 1 (by decide)
    have d12 : (s 2) = .pointer (some ⟨g, 0, none⟩) := hd 2 (by decide)
    have d13 : (s 3) = .pointer (some ⟨g, 0, none⟩) := hd 3 (by decide)
    have d14 : (s 4) = .slice A B.length c := hd 4 (by decide)
    have d15 : (s 5) = .int .i64 (B.length : Int) := hd 5 (by decide)
    have d16 : (s 6) = .pointer (some ⟨g, 0, none⟩) := hd 6 (by decide)
    have d17 : (s 7) = .pointer (some ⟨g, 0, none⟩) := hd 7 (by decide)
    have d18 : (s 8) = .pointer (some ⟨g, 1, none⟩) := hd 8 (by decide)
    have d19 : (s 9) = .int .i64 (at_ : Int) := hd 9 (by decide)
    have d20 : (s 10) = .int .i64 ((B.length - at_ : Nat) : Int) := hd 10 (by decide)
    have d21 : (s 11) = .bool (decide (B.length - at_ < n)) := hd 11 (by decide)
    clear hd
    simp only [mkOf, List.map_cons, List.map_nil, Act.put, List.setIfInBounds_toArray, List.set_cons_succ, List.set_cons_zero, Nat.reduceAdd, Nat.zero_add]
    have hbW := HB.out.keep hX (by simp)
    have hxW : Ext w W := (Ext.refl w).drew.trans hX
    have HRW := Lib.hid (HR.out.keep hxW (by simp) (fun b _ => by simp))
    by_cases hlt : B.length - at_ < n
    · have hs2 := hbW.cell 2
      have hf2 := hbW.free 2
      replace hs2 : W.cell? ⟨g, 2, none⟩ = some (.int .i64 0) := hs2
      have hcut : cutM n (l, 0) = ([], ([], 9)) := by
        unfold cutM
        rw [if_neg (by simp), if_pos (by show l.length < n; rw [HEL.out, List.length_drop]; exact hlt)]
      have HCUT := Lib.hid hcut
      have hset := hbW.set 2 (.int .i64 9)
      have hgr : w.grownBy (W.setCell ⟨g, 2, none⟩ (.int .i64 9)) (some g) := grown_then (hxW.any (some g)) (only_set 2 _) (.inl rfl)
      have HRI : Hid (RIn (W.setCell ⟨g, 2, none⟩ (.int .i64 9)) g F ([], 9)) := Lib.hid ⟨A, c, B, at_, hset, Ty.keep (fun b hb => ((only_set (w := W) (g := g) 2 (.int .i64 9)).block b (Nat.lt_of_lt_of_le (HF.out b hb).1 hxW.size) (by have := (HF.out b hb).2; simpa using this)).trans (hxW.block b (HF.out b hb).1 (by simp))) (fun _ h => h) _ HH.out, HAT.out, fun h => by simp at h, fun _ => rfl, fun b hb => ⟨by have := (HF.out b hb).1; have h2 := hxW.size; simp; omega, (HF.out b hb).2⟩, HBL.out, by decide⟩
      have HGR := Lib.hid hgr
      have hd : decide (B.length - at_ < n) = true := decide_eq_true hlt
      rw [hd] at d21
      simp only [d21]
      clear hbW hxW hset hgr hX hcut hd d10 d11 d12 d13 d14 d15 d16 d17 d18 d19 d20
      (try simp only [Exit.then])
      go_wp2
      go_ret
      rw [HCUT.out]
      exact ⟨_, rfl, Own.nil _ _ _, HRI.out, HGR.out, fun b hb => by simp [Value.ownBlock] at hb⟩
    · have hle : at_ + n ≤ B.length := by have := HAT.out; omega
      have hh2 := HH.out
      obtain ⟨ad, rfl⟩ : ∃ ad, A = some ad := by
        obtain ⟨A2, c2, xs, hv, _, _, hA, hcell, _⟩ := hh2
        cases hv
        obtain ⟨ad, h1, _⟩ := hcell (by rintro rfl; have := HN0.out; simp at hle; omega)
        exact ⟨ad, h1⟩
      have HS2 : Hid (IntKind.i64.wrap (((at_ + n : Nat) : Int) - (n : Int)) = (at_ : Int)) := Lib.hid (by have := HBL.out; simp [IntKind.wrap, IntKind.bits, IntKind.signed]; omega)
      have HS3 : Hid (IntKind.i64.wrap (at_ : Int) = (at_ : Int)) := Lib.hid (by have := HBL.out; simp [IntKind.wrap, IntKind.bits, IntKind.signed]; omega)
      have HCL : Hid (B.length ≤ c) := Lib.hid (by obtain ⟨A2, c2, xs, hv, h5, _⟩ := hh2; cases hv; exact h5)
      have HLEN : Hid (((B.drop at_).take n).length = n) := Lib.hid (by rw [List.length_take, List.length_drop]; omega)
      have HCUT : Hid (cutM n (l, 0) = ((B.drop at_).take n, (B.drop (at_ + n), 0))) := Lib.hid (by
        unfold cutM
        rw [if_neg (by simp), if_neg (by show ¬ l.length < n; rw [HEL.out, List.length_drop]; exact hlt), HEL.out, List.drop_drop])
      clear hh2
      have hs1 : W.cell? ⟨g, 1, none⟩ = some (.int .i64 (at_ : Int)) := hbW.cell 1
      have hf1 := hbW.free 1
      have hset : Blk (W.setCell ⟨g, 1, none⟩ (.int .i64 ((at_ : Int) + (n : Int)))).drew g 77 [.slice (some ad) B.length c, .int .i64 ((at_ + n : Nat) : Int), .int .i64 0] := by
        rw [Int.natCast_add]
        exact (hbW.set 1 (.int .i64 ((at_ : Int) + (n : Int)))).keep (Ext.refl _).drew (by simp)
      have hgr : w.grownBy (W.setCell ⟨g, 1, none⟩ (.int .i64 ((at_ : Int) + (n : Int)))).drew (some g) := grown_then (grown_then (hxW.any (some g)) (only_set 1 _) (.inl rfl)) ((Ext.refl _).drew.any _) (.inl rfl)
      have hhV : (Ty.sl .u8).holds (W.setCell ⟨g, 1, none⟩ (.int .i64 ((at_ : Int) + (n : Int)))).drew F [.slice (some ad) B.length c] B := Ty.keep (fun b hb => hgr.block b (HF.out b hb).1 (by have := (HF.out b hb).2; simpa using this)) (fun _ h => h) _ HH.out
      have HGR := Lib.hid hgr
      have HHV := Lib.hid hhV
      clear hgr hhV
      have HBV := Lib.hid hset
      have HATN := Lib.hid hle
      have hd : decide (B.length - at_ < n) = false := decide_eq_false hlt
      rw [hd] at d21
      simp only [d21]
      have hN := HN.out
      have hBL := HBL.out
      clear hset hd d10 d11 d12 d13 d14 d15 d16 d17 d18 d19 d20
      (try simp only [Exit.then])
      go_wp2_with fail
      clear hs1 hf1 hN hBL d21 hbW hxW HRW
      generalize W.setCell ⟨g, 1, none⟩ (.int .i64 ((at_ : Int) + (n : Int))) = V at *
      have HSRC : Hid (∀ W2, Ext V.drew W2 → Cells W2 (ad.add at_) (bv ((B.drop at_).take n))) := Lib.hid fun W2 h => by
        obtain ⟨A2, c2, xs, hv, _, _, _, hcell, hall⟩ := h.holds (fun b hb => Nat.lt_of_lt_of_le (HF.out b hb).1 HGR.out.size) HHV.out
        cases hv
        obtain ⟨ad2, h1, _, h3⟩ := hcell (by rintro rfl; have := HN0.out; simp at hle; omega)
        cases h1
        rw [AllH.bytes.1 hall] at h3
        have h4 := (h3.drop at_).take n
        rw [show ((bv B).drop at_).take n = bv ((B.drop at_).take n) by simp [bv, List.map_drop, List.map_take]] at h4
        exact h4
      refine stab_plain Ext ext_refl ext_trans [[0], [1], [1, 2], [1, 2, 3], [1, 2, 3, 4], [5], [5, 6], [5, 6, 7], [5, 6, 7, 8], [9], [5, 6, 7, 8, 9, 10], [11], [11, 12], [11, 12, 13], [11, 12, 13, 14], [1, 2, 3, 4, 5, 6, 7, 8, 9, 10, 11, 12, 13, 14, 15], [0, 1, 2, 3, 4, 5, 6, 7, 8, 9, 10, 11, 12, 13, 14, 15, 16], [0, 1, 2, 3, 4, 5, 6, 7, 8, 9, 10, 11, 12, 13, 14, 15, 16, 17]] (fun i v wv => match i with | 0 => OwnB wv v [] ∧ ∃ b, v = .slice (some b) 0 0 | 1 => v = .pointer (some ⟨g, 0, none⟩) | 2 => v = .pointer (some ⟨g, 0, none⟩) | 3 => v = .pointer (some ⟨g, 0, none⟩) | 4 => v = .slice (some ad) B.length c | 5 => v = .pointer (some ⟨g, 0, none⟩) | 6 => v = .pointer (some ⟨g, 0, none⟩) | 7 => v = .pointer (some ⟨g, 1, none⟩) | 8 => v = .int .i64 ((at_ + n : Nat) : Int) | 9 => v = .int .i64 (n : Int) | 10 => v = .int .i64 (at_ : Int) | 11 => v = .pointer (some ⟨g, 0, none⟩) | 12 => v = .pointer (some ⟨g, 0, none⟩) | 13 => v = .pointer (some ⟨g, 1, none⟩) | 14 => v = .int .i64 ((at_ + n : Nat) : Int) | 15 => ∃ c2, v = .slice (some (ad.add at_)) n c2 | 16 => OwnB wv v ((B.drop at_).take n) ∧ ∀ b, v.ownBlock = some b → V.heap.size ≤ b | 17 => OwnB wv v ((B.drop at_).take n) ∧ ∀ b, v.ownBlock = some b → V.heap.size ≤ b | _ => True) (by kernel_rfl) (by kernel_rfl) (by kernel_rfl) ?_ ?_ ?_
      · intro i v w1 w2 h hx
        match i, h with
        | 0, h =>
          replace h : OwnB w1 v [] ∧ ∃ b, v = .slice (some b) 0 0 := h
          show OwnB w2 v [] ∧ ∃ b, v = .slice (some b) 0 0
          obtain ⟨h1, h2⟩ := h
          exact ⟨h1.ext hx, h2⟩
        | 1, h => exact h
        | 2, h => exact h
        | 3, h => exact h
        | 4, h => exact h
        | 5, h => exact h
        | 6, h => exact h
        | 7, h => exact h
        | 8, h => exact h
        | 9, h => exact h
        | 10, h => exact h
        | 11, h => exact h
        | 12, h => exact h
        | 13, h => exact h
        | 14, h => exact h
        | 15, h =>
          replace h : ∃ c2, v = .slice (some (ad.add at_)) n c2 := h
          show ∃ c2, v = .slice (some (ad.add at_)) n c2
          exact h
        | 16, h =>
          replace h : OwnB w1 v ((B.drop at_).take n) ∧ ∀ b, v.ownBlock = some b → V.heap.size ≤ b := h
          show OwnB w2 v ((B.drop at_).take n) ∧ ∀ b, v.ownBlock = some b → V.heap.size ≤ b
          obtain ⟨h1, h2⟩ := h
          exact ⟨h1.ext hx, h2⟩
        | 17, h =>
          replace h : OwnB w1 v ((B.drop at_).take n) ∧ ∀ b, v.ownBlock = some b → V.heap.size ≤ b := h
          show OwnB w2 v ((B.drop at_).take n) ∧ ∀ b, v.ownBlock = some b → V.heap.size ≤ b
          obtain ⟨h1, h2⟩ := h
          exact ⟨h1.ext hx, h2⟩
        | i + 18, h => trivial
      · intro i hi o ho
        match i, hi, ho with
        | 0, _, ho =>
          obtain rfl := Option.some.inj ho
          intro s W2 hX hd K hK
          rw [if_pos (wanted_plain rfl)]
          clear hd
          replace hK : ∀ (v : Value) (W2' : World), Ext W2 W2' → (OwnB W2' v [] ∧ ∃ b, v = .slice (some b) 0 0) → _ := hK
          simp only [mkOf, List.map_cons, List.map_nil, Act.put, List.setIfInBounds_toArray, List.set_cons_succ, List.set_cons_zero, Nat.reduceAdd, Nat.zero_add] at hK ⊢
          refine wp_bs0 62 rfl 5 Try.underlying62 u8_size1 u8_zero1 ?_
          exact hK _ _ ((Ext.refl _).alloc _) ⟨own_empty rfl, ⟨_, rfl⟩⟩
        | 1, _, ho =>
          obtain rfl := Option.some.inj ho
          intro s W2 hX hd K hK
          rw [if_pos (wanted_plain rfl)]
          clear hd
          replace hK : ∀ (v : Value) (W2' : World), Ext W2 W2' → (v = .pointer (some ⟨g, 0, none⟩)) → _ := hK
          simp only [mkOf, List.map_cons, List.map_nil, Act.put, List.setIfInBounds_toArray, List.set_cons_succ, List.set_cons_zero, Nat.reduceAdd, Nat.zero_add] at hK ⊢
          go_simp
          exact hK _ _ (Ext.refl _) rfl
        | 2, _, ho =>
          obtain rfl := Option.some.inj ho
          intro s W2 hX hd K hK
          rw [if_pos (wanted_plain rfl)]
          have d35 : (s 1) = .pointer (some ⟨g, 0, none⟩) := hd 1 (by decide) (by decide)
          clear hd
          replace hK : ∀ (v : Value) (W2' : World), Ext W2 W2' → (v = .pointer (some ⟨g, 0, none⟩)) → _ := hK
          simp only [mkOf, List.map_cons, List.map_nil, Act.put, List.setIfInBounds_toArray, List.set_cons_succ, List.set_cons_zero, Nat.reduceAdd, Nat.zero_add] at hK ⊢
          simp only [d35] at hK ⊢
          go_simp
          exact hK _ _ (Ext.refl _) rfl
        | 3, _, ho =>
          obtain rfl := Option.some.inj ho
          intro s W2 hX hd K hK
          rw [if_pos (wanted_plain rfl)]
          have d36 : (s 2) = .pointer (some ⟨g, 0, none⟩) := hd 2 (by decide) (by decide)
          clear hd
          replace hK : ∀ (v : Value) (W2' : World), Ext W2 W2' → (v = .pointer (some ⟨g, 0, none⟩)) → _ := hK
          simp only [mkOf, List.map_cons, List.map_nil, Act.put, List.setIfInBounds_toArray, List.set_cons_succ, List.set_cons_zero, Nat.reduceAdd, Nat.zero_add] at hK ⊢
          simp only [d36] at hK ⊢
          go_simp
          exact hK _ _ (Ext.refl _) rfl
        | 4, _, ho =>
          obtain rfl := Option.some.inj ho
          intro s W2 hX hd K hK
          rw [if_pos (wanted_plain rfl)]
          have d37 : (s 3) = .pointer (some ⟨g, 0, none⟩) := hd 3 (by decide) (by decide)
          clear hd
          replace hK : ∀ (v : Value) (W2' : World), Ext W2 W2' → (v = .slice (some ad) B.length c) → _ := hK
          simp only [mkOf, List.map_cons, List.map_nil, Act.put, List.setIfInBounds_toArray, List.set_cons_succ, List.set_cons_zero, Nat.reduceAdd, Nat.zero_add] at hK ⊢
          simp only [d37] at hK ⊢
          have c0 := (HBV.out.keep hX (by simp)).cell 0
          replace c0 : W2.cell? ⟨g, 0, none⟩ = some (.slice (some ad) B.length c) := c0
          go_simp
          exact hK _ _ (Ext.refl _) rfl
        | 5, _, ho =>
          obtain rfl := Option.some.inj ho
          intro s W2 hX hd K hK
          rw [if_pos (wanted_plain rfl)]
          clear hd
          replace hK : ∀ (v : Value) (W2' : World), Ext W2 W2' → (v = .pointer (some ⟨g, 0, none⟩)) → _ := hK
          simp only [mkOf, List.map_cons, List.map_nil, Act.put, List.setIfInBounds_toArray, List.set_cons_succ, List.set_cons_zero, Nat.reduceAdd, Nat.zero_add] at hK ⊢
          go_simp
          exact hK _ _ (Ext.refl _) rfl
        | 6, _, ho =>
          obtain rfl := Option.some.inj ho
          intro s W2 hX hd K hK
          rw [if_pos (wanted_plain rfl)]
          have d39 : (s 5) = .pointer (some ⟨g, 0, none⟩) := hd 5 (by decide) (by decide)
          clear hd
          replace hK : ∀ (v : Value) (W2' : World), Ext W2 W2' → (v = .pointer (some ⟨g, 0, none⟩)) → _ := hK
          simp only [mkOf, List.map_cons, List.map_nil, Act.put, List.setIfInBounds_toArray, List.set_cons_succ, List.set_cons_zero, Nat.reduceAdd, Nat.zero_add] at hK ⊢
          simp only [d39] at hK ⊢
          go_simp
          exact hK _ _ (Ext.refl _) rfl
        | 7, _, ho =>
          obtain rfl := Option.some.inj ho
          intro s W2 hX hd K hK
          rw [if_pos (wanted_plain rfl)]
          have d40 : (s 6) = .pointer (some ⟨g, 0, none⟩) := hd 6 (by decide) (by decide)
          clear hd
          replace hK : ∀ (v : Value) (W2' : World), Ext W2 W2' → (v = .pointer (some ⟨g, 1, none⟩)) → _ := hK
          simp only [mkOf, List.map_cons, List.map_nil, Act.put, List.setIfInBounds_toArray, List.set_cons_succ, List.set_cons_zero, Nat.reduceAdd, Nat.zero_add] at hK ⊢
          simp only [d40] at hK ⊢
          go_simp
          exact hK _ _ (Ext.refl _) rfl
        | 8, _, ho =>
          obtain rfl := Option.some.inj ho
          intro s W2 hX hd K hK
          rw [if_pos (wanted_plain rfl)]
          have d41 : (s 7) = .pointer (some ⟨g, 1, none⟩) := hd 7 (by decide) (by decide)
          clear hd
          replace hK : ∀ (v : Value) (W2' : World), Ext W2 W2' → (v = .int .i64 ((at_ + n : Nat) : Int)) → _ := hK
          simp only [mkOf, List.map_cons, List.map_nil, Act.put, List.setIfInBounds_toArray, List.set_cons_succ, List.set_cons_zero, Nat.reduceAdd, Nat.zero_add] at hK ⊢
          simp only [d41] at hK ⊢
          have c1 := (HBV.out.keep hX (by simp)).cell 1
          replace c1 : W2.cell? ⟨g, 1, none⟩ = some (.int .i64 ((at_ + n : Nat) : Int)) := c1
          go_simp
          exact hK _ _ (Ext.refl _) rfl
        | 9, _, ho =>
          obtain rfl := Option.some.inj ho
          intro s W2 hX hd K hK
          rw [if_pos (wanted_plain rfl)]
          clear hd
          replace hK : ∀ (v : Value) (W2' : World), Ext W2 W2' → (v = .int .i64 (n : Int)) → _ := hK
          simp only [mkOf, List.map_cons, List.map_nil, Act.put, List.setIfInBounds_toArray, List.set_cons_succ, List.set_cons_zero, Nat.reduceAdd, Nat.zero_add] at hK ⊢
          go_simp
          exact hK _ _ (Ext.refl _) rfl
        | 10, _, ho =>
          obtain rfl := Option.some.inj ho
          intro s W2 hX hd K hK
          rw [if_pos (wanted_plain rfl)]
          have d42 : (s 8) = .int .i64 ((at_ + n : Nat) : Int) := hd 8 (by decide) (by decide)
          have d43 : (s 9) = .int .i64 (n : Int) := hd 9 (by decide) (by decide)
          clear hd
          replace hK : ∀ (v : Value) (W2' : World), Ext W2 W2' → (v = .int .i64 (at_ : Int)) → _ := hK
          simp only [mkOf, List.map_cons, List.map_nil, Act.put, List.setIfInBounds_toArray, List.set_cons_succ, List.set_cons_zero, Nat.reduceAdd, Nat.zero_add] at hK ⊢
          simp only [d42, d43] at hK ⊢
          have h1 := HATN.out
          have h2 := HBL.out
          go_simp
          refine hK _ _ (Ext.refl _) ?_
          (first | rfl | (rw [HS2.out]; done) | (rw [HS3.out]; done) | (congr 1; omega))
        | 11, _, ho =>
          obtain rfl := Option.some.inj ho
          intro s W2 hX hd K hK
          rw [if_pos (wanted_plain rfl)]
          clear hd
          replace hK : ∀ (v : Value) (W2' : World), Ext W2 W2' → (v = .pointer (some ⟨g, 0, none⟩)) → _ := hK
          simp only [mkOf, List.map_cons, List.map_nil, Act.put, List.setIfInBounds_toArray, List.set_cons_succ, List.set_cons_zero, Nat.reduceAdd, Nat.zero_add] at hK ⊢
          go_simp
          exact hK _ _ (Ext.refl _) rfl
        | 12, _, ho =>
          obtain rfl := Option.some.inj ho
          intro s W2 hX hd K hK
          rw [if_pos (wanted_plain rfl)]
          have d45 : (s 11) = .pointer (some ⟨g, 0, none⟩) := hd 11 (by decide) (by decide)
          clear hd
          replace hK : ∀ (v : Value) (W2' : World), Ext W2 W2' → (v = .pointer (some ⟨g, 0, none⟩)) → _ := hK
          simp only [mkOf, List.map_cons, List.map_nil, Act.put, List.setIfInBounds_toArray, List.set_cons_succ, List.set_cons_zero, Nat.reduceAdd, Nat.zero_add] at hK ⊢
          simp only [d45] at hK ⊢
          go_simp
          exact hK _ _ (Ext.refl _) rfl
        | 13, _, ho =>
          obtain rfl := Option.some.inj ho
          intro s W2 hX hd K hK
          rw [if_pos (wanted_plain rfl)]
          have d46 : (s 12) = .pointer (some ⟨g, 0, none⟩) := hd 12 (by decide) (by decide)
          clear hd
          replace hK : ∀ (v : Value) (W2' : World), Ext W2 W2' → (v = .pointer (some ⟨g, 1, none⟩)) → _ := hK
          simp only [mkOf, List.map_cons, List.map_nil, Act.put, List.setIfInBounds_toArray, List.set_cons_succ, List.set_cons_zero, Nat.reduceAdd, Nat.zero_add] at hK ⊢
          simp only [d46] at hK ⊢
          go_simp
          exact hK _ _ (Ext.refl _) rfl
        | 14, _, ho =>
          obtain rfl := Option.some.inj ho
          intro s W2 hX hd K hK
          rw [if_pos (wanted_plain rfl)]
          have d47 : (s 13) = .pointer (some ⟨g, 1, none⟩) := hd 13 (by decide) (by decide)
          clear hd
          replace hK : ∀ (v : Value) (W2' : World), Ext W2 W2' → (v = .int .i64 ((at_ + n : Nat) : Int)) → _ := hK
          simp only [mkOf, List.map_cons, List.map_nil, Act.put, List.setIfInBounds_toArray, List.set_cons_succ, List.set_cons_zero, Nat.reduceAdd, Nat.zero_add] at hK ⊢
          simp only [d47] at hK ⊢
          have c1 := (HBV.out.keep hX (by simp)).cell 1
          replace c1 : W2.cell? ⟨g, 1, none⟩ = some (.int .i64 ((at_ + n : Nat) : Int)) := c1
          go_simp
          exact hK _ _ (Ext.refl _) rfl
        | 15, _, ho =>
          obtain rfl := Option.some.inj ho
          intro s W2 hX hd K hK
          rw [if_pos (wanted_plain rfl)]
          have d38 : (s 4) = .slice (some ad) B.length c := hd 4 (by decide) (by decide)
          have d44 : (s 10) = .int .i64 (at_ : Int) := hd 10 (by decide) (by decide)
          have d48 : (s 14) = .int .i64 ((at_ + n : Nat) : Int) := hd 14 (by decide) (by decide)
          clear hd
          replace hK : ∀ (v : Value) (W2' : World), Ext W2 W2' → (∃ c2, v = .slice (some (ad.add at_)) n c2) → _ := hK
          simp only [mkOf, List.map_cons, List.map_nil, Act.put, List.setIfInBounds_toArray, List.set_cons_succ, List.set_cons_zero, Nat.reduceAdd, Nat.zero_add] at hK ⊢
          simp only [d38, d44, d48] at hK ⊢
          have h1 := HATN.out
          have h2 := HBL.out
          have h3 := HCL.out
          have h4 := HN0.out
          go_simp
          rw [if_pos ⟨by omega, by omega⟩, if_pos (by omega), if_neg (by omega), show ((at_ : Int) + (n : Int)).toNat - at_ = n by omega]
          (try go_simp)
          exact hK _ _ (Ext.refl _) ⟨_, rfl⟩
        | 16, _, ho =>
          obtain rfl := Option.some.inj ho
          intro s W2 hX hd K hK
          rw [if_pos (wanted_plain rfl)]
          have d34 : OwnB W2 (s 0) [] ∧ ∃ b, (s 0) = .slice (some b) 0 0 := hd 0 (by decide) (by decide)
          have d49 : ∃ c2, (s 15) = .slice (some (ad.add at_)) n c2 := hd 15 (by decide) (by decide)
          clear hd
          replace hK : ∀ (v : Value) (W2' : World), Ext W2 W2' → (OwnB W2' v ((B.drop at_).take n) ∧ ∀ b, v.ownBlock = some b → V.heap.size ≤ b) → _ := hK
          simp only [mkOf, List.map_cons, List.map_nil, Act.put, List.setIfInBounds_toArray, List.set_cons_succ, List.set_cons_zero, Nat.reduceAdd, Nat.zero_add] at hK ⊢
          obtain ⟨ho, b, hb⟩ := d34
          obtain ⟨c2, h49⟩ := d49
          rw [hb] at ho
          refine wp_app_empty (.tmp 34) (.tmp 49) 62 62 rfl 5 5 i0 _ Try.underlying62 Try.underlying62 hi8 hz0 hz1 hz2 rfl b (by simpa [Act.eval] using hb) ho (some (ad.add at_)) n c2 (bv ((B.drop at_).take n)) (by simpa [Act.eval] using h49) (by rw [bv_length, HLEN.out]; omega) (fun _ => ⟨_, rfl, HSRC.out W2 hX⟩) (bv_one _) HN0.out (by have := HN.out; omega) ?_
          intro v9 w9 ho9 hx9 hn9
          exact hK _ _ hx9 ⟨by unfold OwnB; rw [HLEN.out]; exact ho9, fun b hb => Nat.le_trans hX.size (hn9 b hb)⟩
        | 17, _, ho =>
          obtain rfl := Option.some.inj ho
          intro s W2 hX hd K hK
          rw [if_pos (wanted_plain rfl)]
          have d50 : OwnB W2 (s 16) ((B.drop at_).take n) ∧ ∀ b, (s 16).ownBlock = some b → V.heap.size ≤ b := hd 16 (by decide) (by decide)
          clear hd
          replace hK : ∀ (v : Value) (W2' : World), Ext W2 W2' → (OwnB W2' v ((B.drop at_).take n) ∧ ∀ b, v.ownBlock = some b → V.heap.size ≤ b) → _ := hK
          simp only [mkOf, List.map_cons, List.map_nil, Act.put, List.setIfInBounds_toArray, List.set_cons_succ, List.set_cons_zero, Nat.reduceAdd, Nat.zero_add] at hK ⊢
          go_simp
          exact hK _ _ (Ext.refl _) d50
        | i + 18, hi, _ => exact absurd hi (by simp)
      · intro s W2 hX hd
        have d34 : OwnB W2 (s 0) [] ∧ ∃ b, (s 0) = .slice (some b) 0 0 := hd 0 (by decide)
        have d35 : (s 1) = .pointer (some ⟨g, 0, none⟩) := hd 1 (by decide)
        have d36 : (s 2) = .pointer (some ⟨g, 0, none⟩) := hd 2 (by decide)
        have d37 : (s 3) = .pointer (some ⟨g, 0, none⟩) := hd 3 (by decide)
        have d38 : (s 4) = .slice (some ad) B.length c := hd 4 (by decide)
        have d39 : (s 5) = .pointer (some ⟨g, 0, none⟩) := hd 5 (by decide)
        have d40 : (s 6) = .pointer (some ⟨g, 0, none⟩) := hd 6 (by decide)
        have d41 : (s 7) = .pointer (some ⟨g, 1, none⟩) := hd 7 (by decide)
        have d42 : (s 8) = .int .i64 ((at_ + n : Nat) : Int) := hd 8 (by decide)
        have d43 : (s 9) = .int .i64 (n : Int) := hd 9 (by decide)
        have d44 : (s 10) = .int .i64 (at_ : Int) := hd 10 (by decide)
        have d45 : (s 11) = .pointer (some ⟨g, 0, none⟩) := hd 11 (by decide)
        have d46 : (s 12) = .pointer (some ⟨g, 0, none⟩) := hd 12 (by decide)
        have d47 : (s 13) = .pointer (some ⟨g, 1, none⟩) := hd 13 (by decide)
        have d48 : (s 14) = .int .i64 ((at_ + n : Nat) : Int) := hd 14 (by decide)
        have d49 : ∃ c2, (s 15) = .slice (some (ad.add at_)) n c2 := hd 15 (by decide)
        have d50 : OwnB W2 (s 16) ((B.drop at_).take n) ∧ ∀ b, (s 16).ownBlock = some b → V.heap.size ≤ b := hd 16 (by decide)
        have d4 : OwnB W2 (s 17) ((B.drop at_).take n) ∧ ∀ b, (s 17).ownBlock = some b → V.heap.size ≤ b := hd 17 (by decide)
        clear hd
        simp only [mkOf, List.map_cons, List.map_nil, Act.put, List.setIfInBounds_toArray, List.set_cons_succ, List.set_cons_zero, Nat.reduceAdd, Nat.zero_add]
        have HRI : Hid (RIn W2 g F (B.drop (at_ + n), 0)) := Lib.hid ⟨some ad, c, B, at_ + n, HBV.out.keep hX (by simp), hX.holds (fun b hb => Nat.lt_of_lt_of_le (HF.out b hb).1 HGR.out.size) HHV.out, HATN.out, fun _ => rfl, fun h => absurd rfl h, fun b hb => ⟨Nat.lt_of_lt_of_le (Nat.lt_of_lt_of_le (HF.out b hb).1 HGR.out.size) hX.size, (HF.out b hb).2⟩, HBL.out, (show (Lit.int .i64 0).wf = true by decide)⟩
        have HG9 : Hid (w.grownBy W2 (some g)) := Lib.hid (grown_then HGR.out (hX.any _) (.inl rfl))
        have HSZ : Hid (w.heap.size ≤ V.heap.size) := Lib.hid HGR.out.size
        clear hX
        (try simp only [Exit.then])
        go_wp2_with fail
        go_ret
        rw [HCUT.out]
        exact ⟨_, rfl, d4.1, HRI.out, HG9.out, fun b hb => Nat.le_trans HSZ.out (d4.2 b hb)⟩
end
section
open Go.RowKit

theorem RIn.fp {w : World} {g : Nat} {F : Fp} {s : InS} (h : RIn w g F s) : ∀ b, F b → b < w.heap.size ∧ b ≠ g := by obtain ⟨_, _, _, _, _, _, _, _, _, hF, _⟩ := h; exact hF
theorem cut32 (s : InS) : (cutM 32 s).1 = [] ∨ (cutM 32 s).1.length = 32 := by
  unfold cutM
  split
  · exact .inl rfl
  · split
    · exact .inl rfl
    · exact .inr (by show (s.1.take 32).length = 32; rw [List.length_take]; omega)
set_option maxRecDepth 100000 in
set_option maxHeartbeats 4000000 in
theorem RSum {w : World} {g : Nat} {F : Fp} {s : InS} (h : RIn w g F s) :
    Calls Try.prog 55 #[.pointer (some ⟨g, 0, none⟩)] w fun r w' => r = .returned (.agg (bv (sumM s).1).toArray) ∧ RIn w' g F (sumM s).2 ∧ w.grownBy w' (some g) := by
  obtain ⟨Z, hz, hzl, hze⟩ : ∃ Z : List Value, (Try.prog.info? 31).bind (fun i => i.zero.map (·.cells)) = some Z.toArray ∧ Z.length = 32 ∧ Z = bv (List.replicate 32 0) := ⟨_, arr_zero, by simp, rfl⟩
  have hgl := h.lt
  have HFB : Hid (∀ b, F b → b < w.heap.size) := Lib.hid fun b hb => (h.fp b hb).1
  have hx0 : Ext w ((w.alloc (.cells Z.toArray 31)).alloc (.cells Z.toArray 31)) := ((Ext.refl w).alloc _).alloc _
  have hb0 : Blk ((w.alloc (.cells Z.toArray 31)).alloc (.cells Z.toArray 31)) w.heap.size 31 Z := (Blk.new _ _ _).keep ((Ext.refl _).alloc _) (by simp)
  have hb1 : Blk ((w.alloc (.cells Z.toArray 31)).alloc (.cells Z.toArray 31)) (w.heap.size + 1) 31 Z := Blk.fresh (by simp) _ _
  have hraw := RRaw 32 (by decide) (by decide) (h.keep hx0 (by simp) (fun b _ => by simp))
  have hout : (bv (sumM s).1).length = 32 := by rw [bv_length, sumM_length]
  have hro := bv_one (sumM s).1
  have hsn : (sumM s).2 = (cutM 32 s).2 := rfl
  have hfull : ∀ P : List UInt8, P = (cutM 32 s).1 → mixB P Z P.length = bv (sumM s).1 := by
    rintro P rfl
    show bv ((cutM 32 s).1.take (cutM 32 s).1.length) ++ Z.drop (cutM 32 s).1.length = bv ((cutM 32 s).1 ++ List.replicate (32 - (cutM 32 s).1.length) 0)
    rw [List.take_length, bv_append, hze]
    congr 1
    rw [bv, ← List.map_drop, List.drop_replicate]
    rfl
  have hm0 : ∀ P : List UInt8, mixB P Z 0 = Z := fun P => by simp [mixB, bv]
  have hcut := cut32 s
  rw [hsn]
  generalize (cutM 32 s).1 = P at *
  generalize (cutM 32 s).2 = s2 at *
  have hful := hfull P rfl
  generalize bv (sumM s).1 = R at *
  have HX0 := Lib.hid hx0
  have HB0 := Lib.hid hb0
  have HB1 := Lib.hid hb1
  have HRAW := Lib.hid hraw
  have HOUT := Lib.hid hout
  have HFUL := Lib.hid hful
  have HM0 := Lib.hid (hm0 P)
  have HCUT := Lib.hid hcut
  have HGL := Lib.hid hgl
  have HZL := Lib.hid hzl
  clear hx0 hb0 hb1 hraw hout hful hfull hm0 hcut hgl hzl hze hsn h
  go_enter Try.func55, Try.ntmps55
  go_wp2_with (first
    | (refine wpList_alloc _ rfl 31 rfl _ hz ?_)
    | fail)
  refine (HRAW.out).mono ?_
  rintro e w1 ⟨v, rfl, ho, hri, hg1, hnew⟩
  obtain ⟨A, c, hv⟩ := OwnB.form ho
  subst hv
  have hgl := HGL.out
  have hlt := OwnB.lt ho
  have hne0 : ∀ b, (Value.slice A P.length c).ownBlock = some b → w.heap.size + 1 < b := fun b hb => by have := hnew b hb; have h2 := HB1.out.lt; omega
  have hb0 := HB0.out.keep hg1 (by simp; omega)
  have hb1 := HB1.out.keep hg1 (by simp; omega)
  have hg2 : w.grownBy w1 (some g) := grown_then (HX0.out.any _) hg1 (.inl rfl)
  have HB0' := Lib.hid hb0
  have HB1' := Lib.hid hb1
  have HRI := Lib.hid hri
  have HG2 := Lib.hid hg2
  have HNE := Lib.hid hne0
  have HPL : Hid (P.length = 0 ∨ P.length = 32) := Lib.hid (HCUT.out.imp (fun h => by rw [h]; rfl) id)
  have HOW := Lib.hid ho
  clear hgl hlt hne0 hb0 hb1 hg2 hri ho hg1 hnew HB0 HB1 HX0
  go_wp2_with fail
  go_loopw [5] (fun i wr => ∃ k : Nat, k ≤ P.length ∧ i = .int .i64 k ∧ w.grownBy wr (some g) ∧ RIn wr g F s2 ∧ Blk wr w.heap.size 31 Z ∧ Blk wr (w.heap.size + 1) 31 (mixB P Z k) ∧ OwnB wr (.slice A P.length c) P) (fun i _ => P.length - (intOf i).toNat)
  case atStart => exact ⟨0, by omega, rfl, HG2.out, HRI.out, HB0'.out, by rw [HM0.out]; exact HB1'.out, HOW.out⟩
  case round =>
    clear HG2 HRI HB0' HB1' HOW
    obtain ⟨k, hk, rfl, hg, hri, hb0, hb1, how⟩ := hrel
    have hgl := HGL.out
    by_cases hlt : k < P.length
    · have hp32 : P.length = 32 := by rcases HPL.out with h | h <;> omega
      obtain ⟨ad, rfl, hcs⟩ := OwnB.src how (by omega)
      have hcp := hcs k (.int .u8 ((P.getD k 0).toNat : Int)) (by simp [bv, List.getD, hlt])
      have hf := hb1.free k
      obtain ⟨u0, hu0⟩ : ∃ u, (mixB P Z k)[k]? = some u := ⟨_, List.getElem?_eq_getElem (by rw [mixB_len (n := 32) (by omega) HZL.out (by omega)]; omega)⟩
      have hcz := (hb1.cell k).trans hu0
      have hs := hb1.set k (.int .u8 ((P.getD k 0).toNat : Int))
      rw [mixB_step (n := 32) (by omega) HZL.out (by omega)] at hs
      generalize (P.getD k 0).toNat = x at *
      have hgr := only_set (w := wr) (g := w.heap.size + 1) k (.int .u8 (x : Int))
      have HG9 : Hid (w.grownBy (wr.setCell ⟨w.heap.size + 1, k, none⟩ (.int .u8 (x : Int))) (some g)) := Lib.hid (grown_then hg hgr (.inr (by rintro b ⟨⟩; omega)))
      have HRI9 := Lib.hid (hri.keep hgr (by simp; omega) (fun b hb => by have := HFB.out b hb; simp; omega))
      have HB90 := Lib.hid (hb0.keep hgr (by simp))
      have HS := Lib.hid hs
      have HOW9 := Lib.hid (OwnB.keep how hgr (.inr (fun e => by have := HNE.out _ e; omega)))
      have hc63 : P.length ≤ 9223372036854775807 := by omega
      have HCX := Lib.hid hcs
      clear hg hri hb0 hb1 how hs hgr hcs
      go_wp2
      go_roundw
      case rel => exact ⟨k + 1, by omega, by go_num, HG9.out, HRI9.out, HB90.out, HS.out, HOW9.out⟩
      case measure => simp [intOf]; omega
    · obtain rfl : k = P.length := by omega
      rw [HFUL.out] at hb1
      have hcm := hb1.cells
      have hr2 : wr.heap[w.heap.size]? = some (.cells Z.toArray 31 (0, 0)) := hb0
      have HG := Lib.hid hg
      have HRI := Lib.hid hri
      clear hg hri hb0 hb1 how
      go_wp2_with (first
        | (refine wpList_load_agg _ rfl 31 (.tmp 3) rfl _ rfl R _ Try.underlying31 rfl (arr_size HOUT.out) hcm ?_)
        | (refine wpList_store_row _ rfl 31 (.tmp 2) (.tmp 20) rfl w.heap.size rfl Z R _ rfl hr2 (arr_size HOUT.out) (by rw [HOUT.out, HZL.out]) hro ?_)
        | fail)
      have hc9 := Blk.cells (t := 31) (setRow_at (cs' := R.toArray) hr2)
      (try simp only [Exit.inBlock, Exit.then])
      refine bodyPost_ret (results_agg rfl _ _ _ _ _ rfl Try.underlying31 rfl (arr_size HOUT.out) hc9) rfl ?_
      exact ⟨rfl, HRI.out.keep (setRow_only _) (by simp; omega) (fun b hb => by have := HFB.out b hb; simp; omega), grown_then HG.out (setRow_only _) (.inr (by rintro b ⟨⟩; omega))⟩
end
section
open Go.RowKit

set_option maxRecDepth 100000 in
set_option maxHeartbeats 4000000 in
theorem RLeft {w : World} {g : Nat} {F : Fp} {s : InS} (h : RIn w g F s) :
    Calls Try.prog 33 #[.pointer (some ⟨g, 0, none⟩)] w fun r w' => r = .returned (.int .i64 (s.1.length : Int)) ∧ Ext w w' := by
  obtain ⟨l, bad⟩ := s
  obtain ⟨A, c, B, at_, hb, hh, hat, e1, e2, hF, hbl, hwf⟩ := h
  by_cases hbad : bad = 0
  case neg =>
    have hc2 : w.cell? ⟨g, 2, none⟩ = some (.int .i64 bad) := hb.cell 2
    have el : l = [] := e2 hbad
    subst el
    have hbb : (bad != 0) = true := by simpa using hbad
    clear hb hh e1 e2 hF hwf
    go_enter Try.func33, Try.ntmps33
    go_wp2
    go_ret
    exact ⟨rfl, Ext.refl _⟩
  subst hbad
  have hc2 : w.cell? ⟨g, 2, none⟩ = some (.int .i64 0) := hb.cell 2
  have el : l = B.drop at_ := e1 rfl
  have hlen : l.length = B.length - at_ := by rw [el, List.length_drop]
  have HLEN := Lib.hid hlen
  have HB : Hid (Blk w.drew g 77 [.slice A B.length c, .int .i64 ((at_ : Nat) : Int), .int .i64 0]) := Lib.hid hb
  have HAT := Lib.hid hat
  have HBL := Lib.hid hbl
  have HSUB : Hid (IntKind.i64.wrap ((B.length : Int) - (at_ : Int)) = ((B.length - at_ : Nat) : Int)) := Lib.hid (by simp [IntKind.wrap, IntKind.bits, IntKind.signed]; omega)
  clear hb hh e1 e2 hF hwf hat hbl el hlen
  go_enter Try.func33, Try.ntmps33
  go_wp2_with fail
  refine stab_plain Ext ext_refl ext_trans [[0], [0, 1], [0, 1, 2], [0, 1, 2, 3], [0, 1, 2, 3, 4], [5], [5, 6], [5, 6, 7], [5, 6, 7, 8], [0, 1, 2, 3, 4, 5, 6, 7, 8, 9], [0, 1, 2, 3, 4, 5, 6, 7, 8, 9, 10]] (fun i v wv => match i with | 0 => v = .pointer (some ⟨g, 0, none⟩) | 1 => v = .pointer (some ⟨g, 0, none⟩) | 2 => v = .pointer (some ⟨g, 0, none⟩) | 3 => v = .slice A B.length c | 4 => v = .int .i64 (B.length : Int) | 5 => v = .pointer (some ⟨g, 0, none⟩) | 6 => v = .pointer (some ⟨g, 0, none⟩) | 7 => v = .pointer (some ⟨g, 1, none⟩) | 8 => v = .int .i64 (at_ : Int) | 9 => v = .int .i64 ((B.length - at_ : Nat) : Int) | 10 => v = .int .i64 ((B.length - at_ : Nat) : Int) | _ => True) (by kernel_rfl) (by kernel_rfl) (by kernel_rfl) ?_ ?_ ?_
  · intro i v w1 w2 h hx
    match i, h with
    | 0, h => exact h
    | 1, h => exact h
    | 2, h => exact h
    | 3, h => exact h
    | 4, h => exact h
    | 5, h => exact h
    | 6, h => exact h
    | 7, h => exact h
    | 8, h => exact h
    | 9, h => exact h
    | 10, h => exact h
    | i + 11, h => trivial
  · intro i hi o ho
    match i, hi, ho with
    | 0, _, ho =>
      obtain rfl := Option.some.inj ho
      intro s W hX hd K hK
      rw [if_pos (wanted_plain rfl)]
      clear hd
      replace hK : ∀ (v : Value) (W' : World), Ext W W' → (v = .pointer (some ⟨g, 0, none⟩)) → _ := hK
      simp only [mkOf, List.map_cons, List.map_nil, Act.put, List.setIfInBounds_toArray, List.set_cons_succ, List.set_cons_zero, Nat.reduceAdd, Nat.zero_add] at hK ⊢
      go_simp
      exact hK _ _ (Ext.refl _) rfl
    | 1, _, ho =>
      obtain rfl := Option.some.inj ho
      intro s W hX hd K hK
      rw [if_pos (wanted_plain rfl)]
      have d8 : (s 0) = .pointer (some ⟨g, 0, none⟩) := hd 0 (by decide) (by decide)
      clear hd
      replace hK : ∀ (v : Value) (W' : World), Ext W W' → (v = .pointer (some ⟨g, 0, none⟩)) → _ := hK
      simp only [mkOf, List.map_cons, List.map_nil, Act.put, List.setIfInBounds_toArray, List.set_cons_succ, List.set_cons_zero, Nat.reduceAdd, Nat.zero_add] at hK ⊢
      simp only [d8] at hK ⊢
      go_simp
      exact hK _ _ (Ext.refl _) rfl
    | 2, _, ho =>
      obtain rfl := Option.some.inj ho
      intro s W hX hd K hK
      rw [if_pos (wanted_plain rfl)]
      have d9 : (s 1) = .pointer (some ⟨g, 0, none⟩) := hd 1 (by decide) (by decide)
      clear hd
      replace hK : ∀ (v : Value) (W' : World), Ext W W' → (v = .pointer (some ⟨g, 0, none⟩)) → _ := hK
      simp only [mkOf, List.map_cons, List.map_nil, Act.put, List.setIfInBounds_toArray, List.set_cons_succ, List.set_cons_zero, Nat.reduceAdd, Nat.zero_add] at hK ⊢
      simp only [d9] at hK ⊢
      go_simp
      exact hK _ _ (Ext.refl _) rfl
    | 3, _, ho =>
      obtain rfl := Option.some.inj ho
      intro s W hX hd K hK
      rw [if_pos (wanted_plain rfl)]
      have d10 : (s 2) = .pointer (some ⟨g, 0, none⟩) := hd 2 (by decide) (by decide)
      clear hd
      replace hK : ∀ (v : Value) (W' : World), Ext W W' → (v = .slice A B.length c) → _ := hK
      simp only [mkOf, List.map_cons, List.map_nil, Act.put, List.setIfInBounds_toArray, List.set_cons_succ, List.set_cons_zero, Nat.reduceAdd, Nat.zero_add] at hK ⊢
      simp only [d10] at hK ⊢
      have c0 := (HB.out.keep hX (by simp)).cell 0
      replace c0 : W.cell? ⟨g, 0, none⟩ = some (.slice A B.length c) := c0
      go_simp
      exact hK _ _ (Ext.refl _) rfl
    | 4, _, ho =>
      obtain rfl := Option.some.inj ho
      intro s W hX hd K hK
      rw [if_pos (wanted_plain rfl)]
      have d11 : (s 3) = .slice A B.length c := hd 3 (by decide) (by decide)
      clear hd
      replace hK : ∀ (v : Value) (W' : World), Ext W W' → (v = .int .i64 (B.length : Int)) → _ := hK
      simp only [mkOf, List.map_cons, List.map_nil, Act.put, List.setIfInBounds_toArray, List.set_cons_succ, List.set_cons_zero, Nat.reduceAdd, Nat.zero_add] at hK ⊢
      simp only [d11] at hK ⊢
      go_simp
      exact hK _ _ (Ext.refl _) rfl
    | 5, _, ho =>
      obtain rfl := Option.some.inj ho
      intro s W hX hd K hK
      rw [if_pos (wanted_plain rfl)]
      clear hd
      replace hK : ∀ (v : Value) (W' : World), Ext W W' → (v = .pointer (some ⟨g, 0, none⟩)) → _ := hK
      simp only [mkOf, List.map_cons, List.map_nil, Act.put, List.setIfInBounds_toArray, List.set_cons_succ, List.set_cons_zero, Nat.reduceAdd, Nat.zero_add] at hK ⊢
      go_simp
      exact hK _ _ (Ext.refl _) rfl
    | 6, _, ho =>
      obtain rfl := Option.some.inj ho
      intro s W hX hd K hK
      rw [if_pos (wanted_plain rfl)]
      have d13 : (s 5) = .pointer (some ⟨g, 0, none⟩) := hd 5 (by decide) (by decide)
      clear hd
      replace hK : ∀ (v : Value) (W' : World), Ext W W' → (v = .pointer (some ⟨g, 0, none⟩)) → _ := hK
      simp only [mkOf, List.map_cons, List.map_nil, Act.put, List.setIfInBounds_toArray, List.set_cons_succ, List.set_cons_zero, Nat.reduceAdd, Nat.zero_add] at hK ⊢
      simp only [d13] at hK ⊢
      go_simp
      exact hK _ _ (Ext.refl _) rfl
    | 7, _, ho =>
      obtain rfl := Option.some.inj ho
      intro s W hX hd K hK
      rw [if_pos (wanted_plain rfl)]
      have d14 : (s 6) = .pointer (some ⟨g, 0, none⟩) := hd 6 (by decide) (by decide)
      clear hd
      replace hK : ∀ (v : Value) (W' : World), Ext W W' → (v = .pointer (some ⟨g, 1, none⟩)) → _ := hK
      simp only [mkOf, List.map_cons, List.map_nil, Act.put, List.setIfInBounds_toArray, List.set_cons_succ, List.set_cons_zero, Nat.reduceAdd, Nat.zero_add] at hK ⊢
      simp only [d14] at hK ⊢
      go_simp
      exact hK _ _ (Ext.refl _) rfl
    | 8, _, ho =>
      obtain rfl := Option.some.inj ho
      intro s W hX hd K hK
      rw [if_pos (wanted_plain rfl)]
      have d15 : (s 7) = .pointer (some ⟨g, 1, none⟩) := hd 7 (by decide) (by decide)
      clear hd
      replace hK : ∀ (v : Value) (W' : World), Ext W W' → (v = .int .i64 (at_ : Int)) → _ := hK
      simp only [mkOf, List.map_cons, List.map_nil, Act.put, List.setIfInBounds_toArray, List.set_cons_succ, List.set_cons_zero, Nat.reduceAdd, Nat.zero_add] at hK ⊢
      simp only [d15] at hK ⊢
      have c1 := (HB.out.keep hX (by simp)).cell 1
      replace c1 : W.cell? ⟨g, 1, none⟩ = some (.int .i64 (at_ : Int)) := c1
      go_simp
      exact hK _ _ (Ext.refl _) rfl
    | 9, _, ho =>
      obtain rfl := Option.some.inj ho
      intro s W hX hd K hK
      rw [if_pos (wanted_plain rfl)]
      have d12 : (s 4) = .int .i64 (B.length : Int) := hd 4 (by decide) (by decide)
      have d16 : (s 8) = .int .i64 (at_ : Int) := hd 8 (by decide) (by decide)
      clear hd
      replace hK : ∀ (v : Value) (W' : World), Ext W W' → (v = .int .i64 ((B.length - at_ : Nat) : Int)) → _ := hK
      simp only [mkOf, List.map_cons, List.map_nil, Act.put, List.setIfInBounds_toArray, List.set_cons_succ, List.set_cons_zero, Nat.reduceAdd, Nat.zero_add] at hK ⊢
      simp only [d12, d16] at hK ⊢
      have h1 := HAT.out
      have h2 := HBL.out
      go_simp
      exact hK _ _ (Ext.refl _) (by first | rw [HSUB.out] | (congr 1; omega))
    | 10, _, ho =>
      obtain rfl := Option.some.inj ho
      intro s W hX hd K hK
      rw [if_pos (wanted_plain rfl)]
      have d17 : (s 9) = .int .i64 ((B.length - at_ : Nat) : Int) := hd 9 (by decide) (by decide)
      clear hd
      replace hK : ∀ (v : Value) (W' : World), Ext W W' → (v = .int .i64 ((B.length - at_ : Nat) : Int)) → _ := hK
      simp only [mkOf, List.map_cons, List.map_nil, Act.put, List.setIfInBounds_toArray, List.set_cons_succ, List.set_cons_zero, Nat.reduceAdd, Nat.zero_add] at hK ⊢
      simp only [d17] at hK ⊢
      go_simp
      exact hK _ _ (Ext.refl _) rfl
    | i + 11, hi, _ => exact absurd hi (by simp)
  · intro s W hX hd
    have d8 : (s 0) = .pointer (some ⟨g, 0, none⟩) := hd 0 (by decide)
    have d9 : (s 1) = .pointer (some ⟨g, 0, none⟩) := hd 1 (by decide)
    have d10 : (s 2) = .pointer (some ⟨g, 0, none⟩) := hd 2 (by decide)
    have d11 : (s 3) = .slice A B.length c := hd 3 (by decide)
    have d12 : (s 4) = .int .i64 (B.length : Int) := hd 4 (by decide)
    have d13 : (s 5) = .pointer (some ⟨g, 0, none⟩) := hd 5 (by decide)
    have d14 : (s 6) = .pointer (some ⟨g, 0, none⟩) := hd 6 (by decide)
    have d15 : (s 7) = .pointer (some ⟨g, 1, none⟩) := hd 7 (by decide)
    have d16 : (s 8) = .int .i64 (at_ : Int) := hd 8 (by decide)
    have d17 : (s 9) = .int .i64 ((B.length - at_ : Nat) : Int) := hd 9 (by decide)
    have d2 : (s 10) = .int .i64 ((B.length - at_ : Nat) : Int) := hd 10 (by decide)
    clear hd
    simp only [mkOf, List.map_cons, List.map_nil, Act.put, List.setIfInBounds_toArray, List.set_cons_succ, List.set_cons_zero, Nat.reduceAdd, Nat.zero_add]
    (try simp only [Exit.then])
    go_wp2_with fail
    go_ret
    exact ⟨by simp [d2, HLEN.out], (Ext.refl w).drew.trans hX⟩
end
section
open Go.RowKit

theorem rsig_zero : (Try.prog.info? 26).bind (fun i => i.zero.map (·.cells)) = some (List.replicate 1024 (Value.int .u8 0)).toArray := by kernel_rfl
set_option maxRecDepth 100000 in
set_option maxHeartbeats 4000000 in
theorem RSign (seed : List UInt8) (hs : seed.length = 32) (n : Nat) (hn : n < 4294967296) (d : List UInt8) (hd : d.length = 32) (w : World) :
    Calls Try.prog 47 #[.agg tabsC.toArray, .agg (bv seed).toArray, .int .u32 (n : Int), .agg (bv d).toArray] w fun e w' => e = .returned (.agg (bv (signM seed n d)).toArray) ∧ Ext w w' := by
  obtain ⟨Z, hz, hzl, hzo⟩ : ∃ Z : List Value, (Try.prog.info? 26).bind (fun i => i.zero.map (·.cells)) = some Z.toArray ∧ Z.length = 1024 ∧ ∀ u ∈ Z, u.oneCell' = true := ⟨_, rsig_zero, List.length_replicate, fun u hu => by rw [List.eq_of_mem_replicate hu]; rfl⟩
  have hC : (bv (signM seed n d)).length = 1024 := by rw [bv_length, signM_length]
  have hone := bv_one (signM seed n d)
  have hop := fun k (h : k < 32) => sign_open seed n d h
  have hot := fun k (h : k < 32) => sign_other seed n d h
  have hdl : (bv d).length = 32 := by rw [bv_length]; exact hd
  have hsl : (bv seed).length = 32 := by rw [bv_length]; exact hs
  have hsec := fun (k : Nat) (hk : k < 32) (bt : Nat) (hbt : bt < 2) W => RSecret seed hs n hn k hk bt hbt W
  have hcov := fun (p : List UInt8) (hp : p.length = 16) W => RCover p hp W
  have hbit := fun (k : Nat) (hk : k < 32) W => RBit d hd k hk W
  have hts : (Try.prog.info? 44).map (·.size) = some tabsC.length := tabs_size rfl
  generalize tabsC = TB at *
  generalize bv (signM seed n d) = C at *
  have hb0 : Blk (((((w.alloc (.cells TB.toArray 44)).alloc (.cells (bv seed).toArray 31)).alloc (.cells (bv d).toArray 31)).alloc (.cells Z.toArray 26)).alloc (.cells Z.toArray 26)) w.heap.size 44 TB := ((((Blk.new _ _ _).keep ((Ext.refl _).alloc _) (by simp)).keep ((Ext.refl _).alloc _) (by simp)).keep ((Ext.refl _).alloc _) (by simp)).keep ((Ext.refl _).alloc _) (by simp)
  have hb1 : Blk (((((w.alloc (.cells TB.toArray 44)).alloc (.cells (bv seed).toArray 31)).alloc (.cells (bv d).toArray 31)).alloc (.cells Z.toArray 26)).alloc (.cells Z.toArray 26)) (w.heap.size + 1) 31 (bv seed) := (((Blk.fresh (by simp) _ _).keep ((Ext.refl _).alloc _) (by simp)).keep ((Ext.refl _).alloc _) (by simp)).keep ((Ext.refl _).alloc _) (by simp)
  have hb2 : Blk (((((w.alloc (.cells TB.toArray 44)).alloc (.cells (bv seed).toArray 31)).alloc (.cells (bv d).toArray 31)).alloc (.cells Z.toArray 26)).alloc (.cells Z.toArray 26)) (w.heap.size + 1 + 1) 31 (bv d) := ((Blk.fresh (by simp) _ _).keep ((Ext.refl _).alloc _) (by simp)).keep ((Ext.refl _).alloc _) (by simp)
  have hb3 : Blk (((((w.alloc (.cells TB.toArray 44)).alloc (.cells (bv seed).toArray 31)).alloc (.cells (bv d).toArray 31)).alloc (.cells Z.toArray 26)).alloc (.cells Z.toArray 26)) (w.heap.size + 1 + 1 + 1) 26 Z := (Blk.fresh (by simp) _ _).keep ((Ext.refl _).alloc _) (by simp)
  have hb4 : Blk (((((w.alloc (.cells TB.toArray 44)).alloc (.cells (bv seed).toArray 31)).alloc (.cells (bv d).toArray 31)).alloc (.cells Z.toArray 26)).alloc (.cells Z.toArray 26)) (w.heap.size + 1 + 1 + 1 + 1) 26 Z := Blk.fresh (by simp) _ _
  have hx0 : Ext w (((((w.alloc (.cells TB.toArray 44)).alloc (.cells (bv seed).toArray 31)).alloc (.cells (bv d).toArray 31)).alloc (.cells Z.toArray 26)).alloc (.cells Z.toArray 26)) := (((((Ext.refl w).alloc _).alloc _).alloc _).alloc _).alloc _
  generalize bv d = DC at *
  generalize bv seed = SC at *
  have HB0 := Lib.hid hb0
  have HB1 := Lib.hid hb1
  have HB2 := Lib.hid hb2
  have HB3 := Lib.hid hb3
  have HB4 := Lib.hid hb4
  have HX0 := Lib.hid hx0
  have HCL := Lib.hid hC
  have HZL := Lib.hid hzl
  have HDL := Lib.hid hdl
  have HSL := Lib.hid hsl
  have HOP := Lib.hid hop
  have HOT := Lib.hid hot
  have HSEC := Lib.hid hsec
  have HCOV := Lib.hid hcov
  have HBIT := Lib.hid hbit
  have HTS := Lib.hid hts
  clear hb0 hb1 hb2 hb3 hb4 hx0 hC hzl hdl hsl hop hot hsec hcov hbit hts
  go_enter Try.func47, Try.ntmps47
  go_wp2_with (first
    | (refine wpList_alloc _ rfl 26 rfl _ hz ?_)
    | fail)
  go_loopw [10, 11] (fun i q wr => ∃ k : Nat, k ≤ 32 ∧ i = .int .i64 k ∧ Ext w wr ∧ Blk wr w.heap.size 44 TB ∧ Blk wr (w.heap.size + 1) 31 SC ∧ Blk wr (w.heap.size + 1 + 1) 31 DC ∧ Blk wr (w.heap.size + 1 + 1 + 1) 26 Z ∧ Blk wr (w.heap.size + 1 + 1 + 1 + 1) 26 (mixAt C Z k)) (fun i _ _ => 32 - (intOf i).toNat)
  case atStart => exact ⟨0, by omega, rfl, HX0.out, HB0.out, HB1.out, HB2.out, HB3.out, by rw [mixAt_zero C Z HCL.out HZL.out]; exact HB4.out⟩
  case round =>
    clear HX0 HB0 HB1 HB2 HB3 HB4
    obtain ⟨k, hk, rfl, hx, hb0, hb1, hb2, hb3, hb4⟩ := hrel
    by_cases hlt : k < 32
    · have hcd := hb2.cells
      have hbl := bitM_lt d k
      have hp1 : (bv (openM seed n d k)).length = 16 := by rw [bv_length]; exact secretM_length _ _ _ _
      have hp2 : (bv (otherM seed n d k)).length = 16 := by rw [bv_length]; exact coverM_length _
      have ho1 := bv_one (openM seed n d k)
      have ho2 := bv_one (otherM seed n d k)
      have hst := mixAt_step C Z HCL.out HZL.out k hlt
      rw [HOP.out k hlt, HOT.out k hlt] at hst
      have hsc := fun W => HSEC.out k hlt (bitM d k) hbl W
      have hsc2 := fun W => HSEC.out k hlt (1 - bitM d k) (by omega) W
      have hcv := fun W => HCOV.out (secretM seed n k (1 - bitM d k)) (secretM_length _ _ _ _) W
      have e1 : secretM seed n k (bitM d k) = openM seed n d k := rfl
      have e2 : coverM (secretM seed n k (1 - bitM d k)) = otherM seed n d k := rfl
      rw [e1] at hsc
      rw [e2] at hcv
      have hbt := fun W => HBIT.out k hlt W
      have hbc : bitM d k + (1 - bitM d k) = 1 := by omega
      generalize bv (secretM seed n k (1 - bitM d k)) = S2 at *
      generalize 1 - bitM d k = c at *
      generalize bitM d k = b at *
      generalize bv (openM seed n d k) = P1 at *
      generalize bv (otherM seed n d k) = P2 at *
      have HX := Lib.hid hx
      have HB0r := Lib.hid hb0
      have HB1r := Lib.hid hb1
      have HB2r := Lib.hid hb2
      have HB3r := Lib.hid hb3
      have HB4r := Lib.hid hb4
      have HP1 := Lib.hid hp1
      have HP2 := Lib.hid hp2
      have HST := Lib.hid hst
      have HSC := Lib.hid hsc
      have HSC2 := Lib.hid hsc2
      have HCV := Lib.hid hcv
      have HBT := Lib.hid hbt
      have HBC := Lib.hid hbc
      have HWR : Hid (IntKind.i64.wrap (1 - (b : Int)) = (c : Int)) := Lib.hid (by simp [IntKind.wrap, IntKind.bits, IntKind.signed]; omega)
      clear hx hb0 hb1 hb2 hb3 hb4 hp1 hp2 hst hsc hsc2 hcv hbt hbl hbc e1 e2
      go_wp2_with (first
        | (refine wpList_load_agg _ rfl 31 (.tmp 7) rfl _ rfl DC _ Try.underlying31 rfl (arr_size HDL.out) hcd ?_)
        | (go_at_call 68; refine (HBT.out _).mono ?_; rintro e w1 ⟨rfl, hx1⟩; have hk0 := (HB0r.out.keep hx1 (by simp)).cells; have hk1 := (HB1r.out.keep hx1 (by simp)).cells)
        | (refine wpList_load_agg _ rfl 44 (.tmp 4) rfl _ rfl TB _ Try.underlying44 rfl HTS.out hk0 ?_)
        | (refine wpList_load_agg _ rfl 31 (.tmp 5) rfl _ rfl SC _ Try.underlying31 rfl (arr_size HSL.out) hk1 ?_)
        | fail)
      refine (HSC.out _).mono ?_
      rintro e w2 ⟨rfl, hx2⟩
      have hx12 := hx1.trans hx2
      have hm2 : w2.heap[w.heap.size + 1 + 1 + 1 + 1]? = some (.cells (mixAt C Z k).toArray 26 (0, 0)) := HB4r.out.keep hx12 (by simp)
      have kk : ∀ {g : Nat} {t : TypeId} {cs : List Value}, Blk wr g t cs → g < w.heap.size + 1 + 1 + 1 + 1 → Blk (w2.setRow (w.heap.size + 1 + 1 + 1 + 1) (putAt (mixAt C Z k) (k * 16) P1).toArray).drew g t cs := fun h hg => ((h.keep hx12 (by simp)).keep (setRow_only _) (by simp; omega)).keep (Ext.refl _).drew (by simp)
      have HB0 := Lib.hid (kk HB0r.out (by omega))
      have HB1 := Lib.hid (kk HB1r.out (by omega))
      have HB2 := Lib.hid (kk HB2r.out (by omega))
      have HB3 := Lib.hid (kk HB3r.out (by omega))
      have HB4 : Hid (Blk (w2.setRow (w.heap.size + 1 + 1 + 1 + 1) (putAt (mixAt C Z k) (k * 16) P1).toArray).drew (w.heap.size + 1 + 1 + 1 + 1) 26 (putAt (mixAt C Z k) (k * 16) P1)) := Lib.hid (Blk.keep (t := 26) (setRow_at hm2) (Ext.refl _).drew (by simp))
      have HX3 : Hid (Ext w (w2.setRow (w.heap.size + 1 + 1 + 1 + 1) (putAt (mixAt C Z k) (k * 16) P1).toArray).drew) := Lib.hid ((setRow_grown (HX.out.trans hx12) _ _ (by omega)).trans (Ext.refl _).drew)
      clear hx1 hx2 hx12 hcd hk0 hk1 kk HB0r HB1r HB2r HB3r HB4r
      go_wp2_with (first
        | (refine wpList_store_part _ rfl 23 (.tmp 27) (.tmp 25) rfl (w.heap.size + 1 + 1 + 1 + 1) (k * 16) rfl (mixAt C Z k) P1 _ rfl hm2 (rpiece_size HP1.out) (by rw [mixAt_len, HP1.out]; omega) ho1 ?_)
        | fail)
      clear hm2
      generalize (w2.setRow (w.heap.size + 1 + 1 + 1 + 1) (putAt (mixAt C Z k) (k * 16) P1).toArray) = V at *
      generalize hg : w.heap.size + 1 + 1 + 1 + 1 = g at *
      have HG := Lib.hid hg
      have hdk : decide ((k : Int) < 32) = true := by rw [decide_eq_true_iff]; omega
      (try simp only [hdk])
      clear hg hdk
      refine stab_store Ext ext_refl ext_trans [[0], [1], [2], [3], [4], [5], [6], [6, 7], [2, 3, 4, 5, 6, 7, 8], [1, 2, 3, 4, 5, 6, 7, 8, 9], [10], [0, 1, 2, 3, 4, 5, 6, 7, 8, 9, 10, 11], [0, 1, 2, 3, 4, 5, 6, 7, 8, 9, 10, 11, 12]] (fun i v wv => match i with | 0 => v = .int .i64 (k : Int) | 1 => v = .agg TB.toArray | 2 => v = .agg TB.toArray | 3 => v = .agg SC.toArray | 4 => v = .int .u32 (n : Int) | 5 => v = .int .i64 (k : Int) | 6 => v = .int .i64 (b : Int) | 7 => v = .int .i64 (c : Int) | 8 => v = .agg S2.toArray | 9 => v = .agg P2.toArray | 10 => v = .pointer (some ⟨g, 512, none⟩) | 11 => v = .pointer (some ⟨g, 512 + k * 16, none⟩) | _ => True) (by kernel_rfl) (by kernel_rfl) (by kernel_rfl) (by kernel_rfl) (by simp) ?_ ?_ ?_
      · intro i v w1 w2 h hx
        match i, h with
        | 0, h => exact h
        | 1, h => exact h
        | 2, h => exact h
        | 3, h => exact h
        | 4, h => exact h
        | 5, h => exact h
        | 6, h => exact h
        | 7, h => exact h
        | 8, h => exact h
        | 9, h => exact h
        | 10, h => exact h
        | 11, h => exact h
        | i + 12, h => trivial
      · intro i hi o ho
        match i, hi, ho with
        | 0, _, ho =>
          obtain rfl := Option.some.inj ho
          intro s W hX hd K hK
          rw [if_pos (wanted_plain rfl)]
          clear hd
          replace hK : ∀ (v : Value) (W' : World), Ext W W' → (v = .int .i64 (k : Int)) → _ := hK
          simp only [mkOf, List.map_cons, List.map_nil, Act.put, List.setIfInBounds_toArray, List.set_cons_succ, List.set_cons_zero, Nat.reduceAdd, Nat.zero_add] at hK ⊢
          go_simp
          exact hK _ _ (Ext.refl _) rfl
        | 1, _, ho =>
          obtain rfl := Option.some.inj ho
          intro s W hX hd K hK
          rw [if_pos (wanted_plain rfl)]
          clear hd
          replace hK : ∀ (v : Value) (W' : World), Ext W W' → (v = .agg TB.toArray) → _ := hK
          simp only [mkOf, List.map_cons, List.map_nil, Act.put, List.setIfInBounds_toArray, List.set_cons_succ, List.set_cons_zero, Nat.reduceAdd, Nat.zero_add] at hK ⊢
          refine wp_load_agg 44 (.tmp 4) rfl _ rfl TB _ Try.underlying44 rfl (HTS.out) (HB0.out.keep hX (by simp)).cells ?_
          exact hK _ _ (Ext.refl _) rfl
        | 2, _, ho =>
          obtain rfl := Option.some.inj ho
          intro s W hX hd K hK
          rw [if_pos (wanted_plain rfl)]
          clear hd
          replace hK : ∀ (v : Value) (W' : World), Ext W W' → (v = .agg TB.toArray) → _ := hK
          simp only [mkOf, List.map_cons, List.map_nil, Act.put, List.setIfInBounds_toArray, List.set_cons_succ, List.set_cons_zero, Nat.reduceAdd, Nat.zero_add] at hK ⊢
          refine wp_load_agg 44 (.tmp 4) rfl _ rfl TB _ Try.underlying44 rfl (HTS.out) (HB0.out.keep hX (by simp)).cells ?_
          exact hK _ _ (Ext.refl _) rfl
        | 3, _, ho =>
          obtain rfl := Option.some.inj ho
          intro s W hX hd K hK
          rw [if_pos (wanted_plain rfl)]
          clear hd
          replace hK : ∀ (v : Value) (W' : World), Ext W W' → (v = .agg SC.toArray) → _ := hK
          simp only [mkOf, List.map_cons, List.map_nil, Act.put, List.setIfInBounds_toArray, List.set_cons_succ, List.set_cons_zero, Nat.reduceAdd, Nat.zero_add] at hK ⊢
          refine wp_load_agg 31 (.tmp 5) rfl _ rfl SC _ Try.underlying31 rfl (arr_size HSL.out) (HB1.out.keep hX (by simp)).cells ?_
          exact hK _ _ (Ext.refl _) rfl
        | 4, _, ho =>
          obtain rfl := Option.some.inj ho
          intro s W hX hd K hK
          rw [if_pos (wanted_plain rfl)]
          clear hd
          replace hK : ∀ (v : Value) (W' : World), Ext W W' → (v = .int .u32 (n : Int)) → _ := hK
          simp only [mkOf, List.map_cons, List.map_nil, Act.put, List.setIfInBounds_toArray, List.set_cons_succ, List.set_cons_zero, Nat.reduceAdd, Nat.zero_add] at hK ⊢
          go_simp
          exact hK _ _ (Ext.refl _) rfl
        | 5, _, ho =>
          obtain rfl := Option.some.inj ho
          intro s W hX hd K hK
          rw [if_pos (wanted_plain rfl)]
          clear hd
          replace hK : ∀ (v : Value) (W' : World), Ext W W' → (v = .int .i64 (k : Int)) → _ := hK
          simp only [mkOf, List.map_cons, List.map_nil, Act.put, List.setIfInBounds_toArray, List.set_cons_succ, List.set_cons_zero, Nat.reduceAdd, Nat.zero_add] at hK ⊢
          go_simp
          exact hK _ _ (Ext.refl _) rfl
        | 6, _, ho =>
          obtain rfl := Option.some.inj ho
          intro s W hX hd K hK
          rw [if_pos (wanted_plain rfl)]
          clear hd
          replace hK : ∀ (v : Value) (W' : World), Ext W W' → (v = .int .i64 (b : Int)) → _ := hK
          simp only [mkOf, List.map_cons, List.map_nil, Act.put, List.setIfInBounds_toArray, List.set_cons_succ, List.set_cons_zero, Nat.reduceAdd, Nat.zero_add] at hK ⊢
          go_simp
          exact hK _ _ (Ext.refl _) rfl
        | 7, _, ho =>
          obtain rfl := Option.some.inj ho
          intro s W hX hd K hK
          rw [if_pos (wanted_plain rfl)]
          have d34 : (s 6) = .int .i64 (b : Int) := hd 6 (by decide) (by decide)
          clear hd
          replace hK : ∀ (v : Value) (W' : World), Ext W W' → (v = .int .i64 (c : Int)) → _ := hK
          simp only [mkOf, List.map_cons, List.map_nil, Act.put, List.setIfInBounds_toArray, List.set_cons_succ, List.set_cons_zero, Nat.reduceAdd, Nat.zero_add] at hK ⊢
          simp only [d34] at hK ⊢
          go_simp
          exact hK _ _ (Ext.refl _) (by rw [HWR.out])
        | 8, _, ho =>
          obtain rfl := Option.some.inj ho
          intro s W hX hd K hK
          rw [if_pos (wanted_plain rfl)]
          have d30 : (s 2) = .agg TB.toArray := hd 2 (by decide) (by decide)
          have d31 : (s 3) = .agg SC.toArray := hd 3 (by decide) (by decide)
          have d32 : (s 4) = .int .u32 (n : Int) := hd 4 (by decide) (by decide)
          have d33 : (s 5) = .int .i64 (k : Int) := hd 5 (by decide) (by decide)
          have d35 : (s 7) = .int .i64 (c : Int) := hd 7 (by decide) (by decide)
          clear hd
          replace hK : ∀ (v : Value) (W' : World), Ext W W' → (v = .agg S2.toArray) → _ := hK
          simp only [mkOf, List.map_cons, List.map_nil, Act.put, List.setIfInBounds_toArray, List.set_cons_succ, List.set_cons_zero, Nat.reduceAdd, Nat.zero_add] at hK ⊢
          simp only [d30, d31, d32, d33, d35] at hK ⊢
          go_simp
          refine (HSC2.out W).mono ?_
          rintro e w' ⟨rfl, hx⟩
          exact hK _ _ hx rfl
        | 9, _, ho =>
          obtain rfl := Option.some.inj ho
          intro s W hX hd K hK
          rw [if_pos (wanted_plain rfl)]
          have d29 : (s 1) = .agg TB.toArray := hd 1 (by decide) (by decide)
          have d36 : (s 8) = .agg S2.toArray := hd 8 (by decide) (by decide)
          clear hd
          replace hK : ∀ (v : Value) (W' : World), Ext W W' → (v = .agg P2.toArray) → _ := hK
          simp only [mkOf, List.map_cons, List.map_nil, Act.put, List.setIfInBounds_toArray, List.set_cons_succ, List.set_cons_zero, Nat.reduceAdd, Nat.zero_add] at hK ⊢
          simp only [d29, d36] at hK ⊢
          go_simp
          refine (HCV.out W).mono ?_
          rintro e w' ⟨rfl, hx⟩
          exact hK _ _ hx rfl
        | 10, _, ho =>
          obtain rfl := Option.some.inj ho
          intro s W hX hd K hK
          rw [if_pos (wanted_plain rfl)]
          clear hd
          replace hK : ∀ (v : Value) (W' : World), Ext W W' → (v = .pointer (some ⟨g, 512, none⟩)) → _ := hK
          simp only [mkOf, List.map_cons, List.map_nil, Act.put, List.setIfInBounds_toArray, List.set_cons_succ, List.set_cons_zero, Nat.reduceAdd, Nat.zero_add] at hK ⊢
          go_simp
          exact hK _ _ (Ext.refl _) rfl
        | 11, _, ho =>
          obtain rfl := Option.some.inj ho
          intro s W hX hd K hK
          rw [if_pos (wanted_plain rfl)]
          have d28 : (s 0) = .int .i64 (k : Int) := hd 0 (by decide) (by decide)
          have d38 : (s 10) = .pointer (some ⟨g, 512, none⟩) := hd 10 (by decide) (by decide)
          clear hd
          replace hK : ∀ (v : Value) (W' : World), Ext W W' → (v = .pointer (some ⟨g, 512 + k * 16, none⟩)) → _ := hK
          simp only [mkOf, List.map_cons, List.map_nil, Act.put, List.setIfInBounds_toArray, List.set_cons_succ, List.set_cons_zero, Nat.reduceAdd, Nat.zero_add] at hK ⊢
          simp only [d28, d38] at hK ⊢
          go_simp
          exact hK _ _ (Ext.refl _) rfl
        | i + 12, hi, _ => exact absurd hi (by simp)
      · intro o ho
        obtain rfl := Option.some.inj ho
        intro s W hX hd K hK
        rw [if_pos (wanted_plain rfl)]
        have d28 : (s 0) = .int .i64 (k : Int) := hd 0 (by decide)
        have d29 : (s 1) = .agg TB.toArray := hd 1 (by decide)
        have d30 : (s 2) = .agg TB.toArray := hd 2 (by decide)
        have d31 : (s 3) = .agg SC.toArray := hd 3 (by decide)
        have d32 : (s 4) = .int .u32 (n : Int) := hd 4 (by decide)
        have d33 : (s 5) = .int .i64 (k : Int) := hd 5 (by decide)
        have d34 : (s 6) = .int .i64 (b : Int) := hd 6 (by decide)
        have d35 : (s 7) = .int .i64 (c : Int) := hd 7 (by decide)
        have d36 : (s 8) = .agg S2.toArray := hd 8 (by decide)
        have d37 : (s 9) = .agg P2.toArray := hd 9 (by decide)
        have d38 : (s 10) = .pointer (some ⟨g, 512, none⟩) := hd 10 (by decide)
        have d39 : (s 11) = .pointer (some ⟨g, 512 + k * 16, none⟩) := hd 11 (by decide)
        clear hd
        simp only [mkOf, List.map_cons, List.map_nil, Act.put, List.setIfInBounds_toArray, List.set_cons_succ, List.set_cons_zero, Nat.reduceAdd, Nat.zero_add]
        refine wp_store_part W 23 (.tmp 39) (.tmp 37) rfl g (512 + k * 16) (by simpa [Act.eval] using d39) (putAt (mixAt C Z k) (k * 16) P1) P2 _ (by simpa [Act.eval] using d37) (HB4.out.keep hX (by simp)) (rpiece_size HP2.out) (by rw [putAt_len (by rw [mixAt_len, HP1.out]; omega), mixAt_len, HP2.out]; omega) ho2 ?_
        refine hK _ _ ?_
        have kk : ∀ {h : Nat} {t : TypeId} {cs : List Value}, Blk V.drew h t cs → h < g → Blk (W.setRow g (putAt (putAt (mixAt C Z k) (k * 16) P1) (512 + k * 16) P2).toArray) h t cs := fun h hg => (h.keep hX (by simp)).keep (setRow_only _) (by simp; omega)
        have hge := HG.out
        have HB90 := Lib.hid (kk HB0.out (by omega))
        have HB91 := Lib.hid (kk HB1.out (by omega))
        have HB92 := Lib.hid (kk HB2.out (by omega))
        have HB93 := Lib.hid (kk HB3.out (by omega))
        have HB94 : Hid (Blk (W.setRow g (putAt (putAt (mixAt C Z k) (k * 16) P1) (512 + k * 16) P2).toArray) g 26 (mixAt C Z (k + 1))) := Lib.hid (by rw [← HST.out]; exact setRow_at (HB4.out.keep hX (by simp)))
        have HX9 : Hid (Ext w (W.setRow g (putAt (putAt (mixAt C Z k) (k * 16) P1) (512 + k * 16) P2).toArray)) := Lib.hid (setRow_grown (HX3.out.trans hX) _ _ (by omega))
        generalize W.setRow g (putAt (putAt (mixAt C Z k) (k * 16) P1) (512 + k * 16) P2).toArray = V2 at *
        subst hge
        clear hX hK kk
        (try simp only [Exit.then])
        go_wp2_with fail
        go_roundw
        case rel => exact ⟨k + 1, by omega, by go_num, HX9.out, HB90.out, HB91.out, HB92.out, HB93.out, HB94.out⟩
        case measure => simp [intOf]; omega
    · obtain rfl : k = 32 := by omega
      rw [mixAt_all C Z HCL.out HZL.out] at hb4
      have hcm := hb4.cells
      have hr2 : wr.heap[w.heap.size + 1 + 1 + 1]? = some (.cells Z.toArray 26 (0, 0)) := hb3
      have HX := Lib.hid hx
      clear hx hb0 hb1 hb2 hb3 hb4
      go_wp2_with (first
        | (refine wpList_load_agg _ rfl 26 (.tmp 9) rfl _ rfl C _ Try.underlying26 rfl (rsig_size HCL.out) hcm ?_)
        | (refine wpList_store_row _ rfl 26 (.tmp 8) (.tmp 40) rfl (w.heap.size + 1 + 1 + 1) rfl Z C _ rfl hr2 (rsig_size HCL.out) (by rw [HCL.out, HZL.out]) hone ?_)
        | fail)
      have hc9 := Blk.cells (t := 26) (setRow_at (cs' := C.toArray) hr2)
      (try simp only [Exit.inBlock, Exit.then])
      refine bodyPost_ret (results_agg rfl _ _ _ _ _ rfl Try.underlying26 rfl (rsig_size HCL.out) hc9) rfl ?_
      exact ⟨rfl, setRow_grown HX.out _ _ (by omega)⟩
end
end Go.Proofs.Ytpdkmapogncgmaa
