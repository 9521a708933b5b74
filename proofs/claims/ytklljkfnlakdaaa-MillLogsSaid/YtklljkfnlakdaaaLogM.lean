/- What a log of texts holds, against a list of keys and a list of last texts. No program's run; no condition but what each names. -/
import Derived.Test.YtklljkfnlakdaaaLog
set_option linter.unusedVariables false
set_option linter.unusedSimpArgs false
set_option linter.unnecessarySimpa false
namespace Go.Proofs.Ytklljkfnlakdaaa
open Go.RowKit
open Go.Maps (Keyed IsMap Tidy)

theorem byte_split {a b : Nat} {x y : UInt8} (h : a * 256 + x.toNat = b * 256 + y.toNat) : a = b ∧ x = y := by
  have h1 := x.toNat_lt
  have h2 := y.toNat_lt
  exact ⟨by omega, UInt8.toNat_inj.1 (by omega)⟩
theorem beNum_inj4 (x y : List UInt8) (hx : x.length = 4) (hy : y.length = 4) (h : beNum x = beNum y) : x = y := by
  match x, hx with
  | [a, b, c, d], _ =>
    match y, hy with
    | [a', b', c', d'], _ =>
      simp only [beNum, List.foldl_cons, List.foldl_nil] at h
      obtain ⟨h, e4⟩ := byte_split h
      obtain ⟨h, e3⟩ := byte_split h
      obtain ⟨h, e2⟩ := byte_split h
      obtain ⟨_, e1⟩ := byte_split h
      rw [e1, e2, e3, e4]
theorem klit_inj {c d : List UInt8} (hc : 4 ≤ c.length) (hd : 4 ≤ d.length) (h : klit c = klit d) : c.take 4 = d.take 4 := by
  unfold klit at h
  simp only [Lit.int.injEq, true_and] at h
  exact beNum_inj4 _ _ (by simp; omega) (by simp; omega) (by omega)
theorem klit_key (d : List UInt8) : WideAt.IsKeyLit (klit d) := trivial
theorem slit_inj {s t : List UInt8} (h : slit s = slit t) : s = t := by unfold slit at h; simpa using h
/-- The map holds, for each key, its last text. -/
structure LogRel (D : DU) (ks ls : List (List UInt8)) : Prop where
  len : ks.length = ls.length
  four : ∀ x ∈ ks, x.length = 4
  tidy : Tidy D
  size : Maps.size D = ks.length
  has : ∀ d : List UInt8, 4 ≤ d.length → Maps.has D (klit d) = ks.contains (d.take 4)
  at_ : ∀ (i : Nat) (h : i < ks.length) (h2 : i < ls.length) (d : List UInt8), 4 ≤ d.length → d.take 4 = ks[i] → D.atKey (klit d) (slit []) = slit ls[i]
  nodup : ks.Nodup
theorem LogRel.nil : LogRel (.map []) [] [] :=
  ⟨rfl, by simp, Maps.tidy_empty, rfl, fun d _ => by simp [Maps.has], by simp, List.nodup_nil⟩
theorem LogRel.new {D : DU} {ks ls : List (List UInt8)} (h : LogRel D ks ls) (d t : List UInt8) (hd : 4 ≤ d.length) (hn : d.take 4 ∉ ks) : LogRel (D.put (klit d) (slit t)) (ks ++ [d.take 4]) (ls ++ [t]) := by
  have hh : Maps.has D (klit d) = false := by rw [h.has d hd]; simpa using hn
  refine ⟨by simp [h.len], ?_, h.tidy.put (klit_key d) _, ?_, ?_, ?_, ?_⟩
  · intro x hx
    rcases List.mem_append.1 hx with hx | hx
    · exact h.four x hx
    · obtain rfl : x = d.take 4 := by simpa using hx
      simp; omega
  · rw [Maps.size_put h.tidy, hh, h.size]; simp
  · intro c hc
    by_cases e : klit c = klit d
    · rw [e, Maps.has_put_same h.tidy.isMap (klit_key d), klit_inj hc hd e]
      simp
    · rw [Maps.has_put_other e, h.has c hc]
      have : c.take 4 ≠ d.take 4 := fun e2 => e (by unfold klit; rw [e2])
      simp [this]
  · intro i hi h2 c hc he
    by_cases hlt : i < ks.length
    · rw [List.getElem_append_left hlt] at he
      have hne : klit c ≠ klit d := fun e => hn (by rw [← klit_inj hc hd e, he]; exact List.getElem_mem _)
      rw [Maps.atKey_put_other hne, List.getElem_append_left (by rw [← h.len]; exact hlt)]
      exact h.at_ i hlt (by rw [← h.len]; exact hlt) c hc he
    · have hi' : i = ks.length := by simp at hi; omega
      subst hi'
      rw [List.getElem_append_right (by omega)] at he
      simp only [Nat.sub_self, List.getElem_cons_zero] at he
      have e : klit c = klit d := by unfold klit; rw [he]
      rw [e, Maps.atKey_put_same h.tidy.isMap (klit_key d), List.getElem_append_right (by rw [h.len]; omega)]
      simp [h.len]
  · rw [List.nodup_append]
    exact ⟨h.nodup, by simp, by intro a ha b hb; obtain rfl : b = d.take 4 := by simpa using hb
                                rintro rfl; exact hn ha⟩
theorem LogRel.old {D : DU} {ks ls : List (List UInt8)} (h : LogRel D ks ls) (d t : List UInt8) (hd : 4 ≤ d.length) (i : Nat) (hi : i < ks.length) (he : ks[i] = d.take 4) : LogRel (D.put (klit d) (slit t)) ks (ls.set i t) := by
  have hh : Maps.has D (klit d) = true := by rw [h.has d hd, ← he]; simp
  refine ⟨by simp [h.len], h.four, h.tidy.put (klit_key d) _, ?_, ?_, ?_, h.nodup⟩
  · rw [Maps.size_put h.tidy, hh, h.size]; simp
  · intro c hc
    by_cases e : klit c = klit d
    · rw [e, Maps.has_put_same h.tidy.isMap (klit_key d), klit_inj hc hd e, ← he]
      simp
    · rw [Maps.has_put_other e, h.has c hc]
  · intro j hj h2 c hc hce
    by_cases e : klit c = klit d
    · have : j = i := by
        have h1 : ks[j] = ks[i] := by rw [← hce, he, klit_inj hc hd e]
        exact (List.getElem_inj h.nodup).1 h1
      subst this
      rw [e, Maps.atKey_put_same h.tidy.isMap (klit_key d)]
      simp
    · have hne : j ≠ i := by
        rintro rfl
        exact e (by unfold klit; rw [hce, he])
      rw [Maps.atKey_put_other e, List.getElem_set_ne (Ne.symm hne)]
      exact h.at_ j hj (by simpa using h2) c hc hce
theorem LogRel.met_new {D : DU} {ks ls : List (List UInt8)} (h : LogRel D ks ls) (d t s : List UInt8) (met : Bool) (hd : 4 ≤ d.length) (hn : d.take 4 ∉ ks) : metN D d t met s = met := by
  have hh : Maps.has D (klit d) = false := by rw [h.has d hd]; simpa using hn
  simp [metN, hh]
theorem LogRel.met_old {D : DU} {ks ls : List (List UInt8)} (h : LogRel D ks ls) (d t s : List UInt8) (met : Bool) (hd : 4 ≤ d.length) (i : Nat) (hi : i < ks.length) (hi2 : i < ls.length) (he : ks[i] = d.take 4) (hs : D.atKey (klit d) (slit []) = slit s) : metN D d t met s = (met || !(ls[i] == t)) := by
  have hh : Maps.has D (klit d) = true := by rw [h.has d hd, ← he]; simp
  have e := h.at_ i hi hi2 d hd he.symm
  rw [hs] at e
  simp [metN, hh, slit_inj e]
/-- Where the key stands among the first ones. -/
def AtRel (ks : List (List UInt8)) (key : List UInt8) (q : Nat) (v : Value) : Prop := (v = .int .i64 (-1) ∧ ∀ i, i < q → ks[i]? ≠ some key) ∨ ∃ i, i < q ∧ v = .int .i64 (i : Int) ∧ ks[i]? = some key
theorem AtRel.zero (ks : List (List UInt8)) (key : List UInt8) : AtRel ks key 0 (.int .i64 (-1)) := .inl ⟨rfl, fun i hi => by omega⟩
theorem AtRel.hit {ks : List (List UInt8)} {key : List UInt8} {q : Nat} (h : ks[q]? = some key) : AtRel ks key (q + 1) (.int .i64 (q : Int)) := .inr ⟨q, by omega, rfl, h⟩
theorem AtRel.miss {ks : List (List UInt8)} {key : List UInt8} {q : Nat} {v : Value} (h : AtRel ks key q v) (hn : ks[q]? ≠ some key) : AtRel ks key (q + 1) v := by
  rcases h with ⟨rfl, h⟩ | ⟨i, hi, rfl, h⟩
  · refine .inl ⟨rfl, fun i hi => ?_⟩
    rcases Nat.lt_or_ge i q with h' | h'
    · exact h i h'
    · obtain rfl : i = q := by omega
      exact hn
  · exact .inr ⟨i, by omega, rfl, h⟩
end Go.Proofs.Ytklljkfnlakdaaa
