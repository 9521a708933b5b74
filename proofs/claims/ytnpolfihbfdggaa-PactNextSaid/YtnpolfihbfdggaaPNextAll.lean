/- The law PactNext holds. Conditions: the numbers are in their bounds. -/
import Derived.Test.YtnpolfihbfdggaaPRNextE
import Derived.Test.YtnpolfihbfdggaaPTurns2
import Derived.Laws.OwnMore
import Derived.Laws.Bits64
import Derived.Test.YtnpolfihbfdggaaPTells2
import Derived.Test.YtnpolfihbfdggaaPArgs
set_option linter.unusedVariables false
set_option linter.unusedSimpArgs false
set_option linter.unnecessarySimpa false
namespace Go.Proofs.Ytnpolfihbfdggaa
section
open Go.RowKit

theorem tail_fin (s : St) (p0 p1 : Nat) (side : Int) (o : Wish) : tailM s p0 p1 side o = if (actM s p0 p1 side o).2 ≠ 0 then (.zero, (actM s p0 p1 side o).2) else finM { (actM s p0 p1 side o).1 with round := s.round + 1 } p0 p1 := rfl
theorem zstFrom_one : ∀ u ∈ zst, u.oneCell' = true := by
  intro u hu
  simp only [zst, List.mem_cons, List.not_mem_nil, or_false] at hu
  rcases hu with rfl | rfl | rfl | rfl | rfl | rfl | rfl <;> rfl
theorem sumM_small : ∀ (l : List Nat) (n : Nat), n < M64 → (sumM n l).1 < M64 := fun l n h => by
  rcases sumM_cases l n h with ⟨m, hm, e⟩ | e
  · rw [e]; exact hm
  · rw [e]; show 0 < M64; decide
theorem freeM_small (s : St) (p0 p1 : Nat) (side : Int) : (freeM s p0 p1 side).1 < M64 := by
  unfold freeM
  split
  · split
    · split
      · rcases subL_cases [pick2 s.m0 s.m1 side, pick2 s.t0 s.t1 side, (heldM s.cs side).1] (sumM 0 [pick2 p0 p1 side, pick2 s.m1 s.m0 side]).1 (sumM_small _ _ (by decide)) with ⟨m, hm, e⟩ | e
        · rw [e]; exact hm
        · rw [e]; show 0 < M64; decide
      · show 0 < M64; decide
    · show 0 < M64; decide
  · show 0 < M64; decide
theorem rnext_in (s : St) (v : Value) (p0 p1 : Nat) (side : Int) (o : Wish) (r1 : Nat) (w : World) (F : Fp) (hs : StOk s) (hp0 : p0 < M64) (hp1 : p1 < M64) (hok : CondOk o.c) (hc : Conds w F v s.cs) (hF : ∀ b, F b → b < w.heap.size)
    (hw : IntKind.u64.wrap ((s.round : Int) + 1) = (r1 : Int)) (hr : r1 < M64) :
    RNextIn w (stc s v) (ptc p0 p1) (wishCells o) zst side s.cs s.round r1 o.am o.c.1 o.c.2.2.1 o.id o.kind o.c.2.1 (soundM s p0 p1) (findM s.cs) (spendM s p0 p1 side) (turnM r1) where
  sl := rfl
  pl := rfl
  ol := wishCells_len hok
  zl := rfl
  zE := rfl
  zi := zSFrom
  zo := zstFrom_one
  s1 := rfl
  o0 := rfl
  o1 := rfl
  o2 := rfl
  o3 := rfl
  o4 := rfl
  o38 := by
    have h := condCells_len hok
    simp [wishCells, List.getElem?_append, h]
  sn := fun W h => RSoundC s v p0 p1 W F hs hp0 hp1 (h.holds hF hc) (fun b hb => Nat.lt_of_lt_of_le (hF b hb) h.size)
  fn := fun W h id => RFind s v id W F (h.holds hF hc) (fun b hb => Nat.lt_of_lt_of_le (hF b hb) h.size)
  room := fun W h a ha => RRoom1 W (stc s v) (ptc p0 p1) side a (freeM s p0 p1 side).1 (freeM s p0 p1 side).2 _ rfl rfl (freeM_small s p0 p1 side) ha rfl
    (fun W' h' => RFree s v p0 p1 side W' F hs hp0 hp1 ((h.trans h').holds hF hc) (fun b hb => Nat.lt_of_lt_of_le (hF b hb) (h.trans h').size))
  turn := fun W => (RTurn r1 W hr).mono fun e w' h => h
  w1 := hw
theorem wish_drop {o : Wish} (hok : CondOk o.c) : ((wishCells o).drop 2).take 36 = condCells o.c := by
  show (condCells o.c ++ [Value.int .u64 (o.id : Int)]).take 36 = condCells o.c
  exact List.take_left' (condCells_len hok)
theorem zero_rnext (w w' : World) (z : Int) (e : Ending) (hx : Ext w w') (he : e = .returned (.tuple #[.agg zst.toArray, .int .i64 z])) :
    ∃ v', e = .returned (.tuple #[stv St.zero v', .int .i64 z]) ∧ OwnFrom w' v' St.zero.cs ∧ Ext w w' :=
  ⟨.slice none 0 0, by rw [he]; rfl, ⟨by simp [St.zero], Own.nil _ _ _⟩, hx⟩
theorem find_at {cs : List Cd} {id : Nat} (h : ¬ findM cs id < 0) : ∃ a : Nat, findM cs id = (a : Int) ∧ ∃ (hl : a < List.length (α := Cd) cs), cs[(findM cs id).toNat]? = some cs[a] ∧ (findM cs id).toNat = a := by
  unfold findM at h ⊢
  by_cases ha : cs.any (fun c => c.1 == id) = true
  · rw [if_pos ha] at h ⊢
    refine ⟨_, rfl, ?_, ?_⟩
    · rw [List.findIdx_lt_length]
      obtain ⟨c, hc, e⟩ := List.any_eq_true.1 ha
      exact ⟨c, hc, e⟩
    · simp
  · rw [if_neg ha] at h
    omega
theorem add_ok {a b : Nat} (h : a + b < M64) : ¬ (addM a b).2 ≠ 0 := by unfold addM; rw [if_pos h]; simp
theorem add_no {a b : Nat} (h : ¬ a + b < M64) : (addM a b).2 ≠ 0 := by unfold addM; rw [if_neg h]; simp
theorem pick_ok0 {a b c : Nat} (h : a + c < M64) : ¬ (addM (pick2 a b 0) c).2 ≠ 0 := add_ok h
theorem pick_no0 {a b c : Nat} (h : ¬ a + c < M64) : (addM (pick2 a b 0) c).2 ≠ 0 := add_no h
theorem pick_ok1 {a b c : Nat} (h : b + c < M64) : ¬ (addM (pick2 a b 1) c).2 ≠ 0 := add_ok h
theorem pick_no1 {a b c : Nat} (h : ¬ b + c < M64) : (addM (pick2 a b 1) c).2 ≠ 0 := add_no h
theorem tail_ok {s m : St} {p0 p1 : Nat} {side : Int} {o : Wish} (h : actM s p0 p1 side o = (m, 0)) : tailM s p0 p1 side o = finM { m with round := s.round + 1 } p0 p1 := by
  rw [tail_fin, h]; rfl
theorem tail_err {s m : St} {p0 p1 : Nat} {side z : Int} {o : Wish} (h : actM s p0 p1 side o = (m, z)) (hz : z ≠ 0) : tailM s p0 p1 side o = (.zero, z) := by
  rw [tail_fin, h]; exact if_pos hz
theorem RNext (s : St) (v : Value) (p0 p1 : Nat) (side : Int) (o : Wish) (w : World) (F : Fp) (hs : StOk s) (hp0 : p0 < M64) (hp1 : p1 < M64) (hok : CondOk o.c) (ham : o.am < M64) (hc : Conds w F v s.cs) (hF : ∀ b, F b → b < w.heap.size) :
    Calls Try.prog 13 #[stv s v, .agg #[.int .u64 (p0 : Int), .int .u64 (p1 : Int)], .int .i64 side, .agg (wishCells o).toArray] w fun e w' => ∃ v', e = .returned (.tuple #[stv (nextM s p0 p1 side o).1 v', .int .i64 (nextM s p0 p1 side o).2]) ∧ OwnFrom w' v' (nextM s p0 p1 side o).1.cs ∧ Ext w w' := by
  show Calls Try.prog 13 #[.agg (stc s v).toArray, .agg (ptc p0 p1).toArray, .int .i64 side, .agg (wishCells o).toArray] w _
  rw [next_tail]
  have hr0 := hs.round
  by_cases hz : soundM s p0 p1 ≠ 0
  · rw [if_pos hz]
    have hr1 : (s.round + 1) % M64 < M64 := Nat.mod_lt _ (by decide)
    refine (RNextA w _ _ _ _ side s.cs s.round _ _ _ _ _ _ _ _ _ _ _ (rnext_in s v p0 p1 side o ((s.round + 1) % M64) w F hs hp0 hp1 hok hc hF (by
      show ((s.round : Int) + 1) % 18446744073709551616 = _
      unfold M64; omega) hr1) hz).mono ?_
    rintro e w' ⟨he, hx⟩
    exact zero_rnext w w' _ e hx he
  rw [if_neg hz]
  have hz : soundM s p0 p1 = 0 := by omega
  obtain ⟨h1, h2, h3, _⟩ := sound_zero hz
  have hin := rnext_in s v p0 p1 side o (s.round + 1) w F hs hp0 hp1 hok hc hF (by
      show ((s.round : Int) + 1) % 18446744073709551616 = _
      omega) (by unfold M64; omega)
  rw [hz] at hin
  by_cases hr : 200 ≤ s.round
  · rw [if_pos hr]
    refine (RNextB w _ _ _ _ side s.cs s.round _ _ _ _ _ _ _ _ _ _ _ hin rfl (by omega)).mono ?_
    rintro e w' ⟨he, hx⟩
    exact zero_rnext w w' _ e hx he
  rw [if_neg hr]
  by_cases ht : side ≠ turnM (s.round + 1)
  · rw [if_pos ht]
    refine (RNextC w _ _ _ _ side s.cs s.round _ _ _ _ _ _ _ _ _ _ _ hin rfl (by omega) ht).mono ?_
    rintro e w' ⟨he, hx⟩
    exact zero_rnext w w' _ e hx he
  rw [if_neg ht]
  have ht : turnM (s.round + 1) = side := by omega
  rw [ht] at hin
  have hsd : side = 0 ∨ side = 1 := ht ▸ turn_side _
  obtain ⟨kind, am, c, id⟩ := o
  simp only at hin ham hok
  have hrd : s.round < 200 := by omega
  have hh : ∀ (k : Int), k = kind → RNextIn w (stc s v) (ptc p0 p1) (wishCells ⟨kind, am, c, id⟩) zst side s.cs s.round (s.round + 1) am c.1 c.2.2.1 id k c.2.1 0 (findM s.cs) (spendM s p0 p1 side) side := fun k e => e ▸ hin
  have fin : ∀ (T : St × Int), T = tailM s p0 p1 side ⟨kind, am, c, id⟩ → ∀ {e : Ending} {w' : World}, (∃ v', e = .returned (.tuple #[.agg (stc T.1 v').toArray, .int .i64 T.2]) ∧ OwnFrom w' v' T.1.cs ∧ Ext w w') →
      ∃ v', e = .returned (.tuple #[stv (tailM s p0 p1 side ⟨kind, am, c, id⟩).1 v', .int .i64 (tailM s p0 p1 side ⟨kind, am, c, id⟩).2]) ∧ OwnFrom w' v' (tailM s p0 p1 side ⟨kind, am, c, id⟩).1.cs ∧ Ext w w' := by
    rintro T rfl e w' h
    exact h
  by_cases k0 : kind = 0
  · have ea : actM s p0 p1 side ⟨kind, am, c, id⟩ = (s, 0) := by unfold actM; rw [if_pos k0]
    refine (RNext0 w F s p0 p1 v _ _ _ _ side _ _ _ _ _ _ _ _ (hh 0 k0.symm) rfl rfl rfl hs hc hF hrd h2 hp0 hp1).mono fun e w' h => fin _ ?_ h
    first | exact tail_ok (by rw [ea]) | exact tail_err (by rw [ea]) (by decide) | exact (tail_ok (by rw [ea])).symm | exact (tail_err (by rw [ea]) (by decide)).symm
  by_cases k1 : kind = 1
  · have ea : actM s p0 p1 side ⟨kind, am, c, id⟩ = if spendM s p0 p1 side am ≠ 0 then (.zero, spendM s p0 p1 side am)
      else if (addM (pick2 s.m0 s.m1 side) am).2 ≠ 0 then (.zero, 11) else (if side = 0 then { s with m0 := s.m0 + am } else { s with m1 := s.m1 + am }, 0) := by unfold actM; rw [if_neg k0, if_pos k1]
    rcases hsd with rfl | rfl
    · refine (RNext1s0 w F s p0 p1 v _ _ _ _ 0 _ _ _ _ _ _ _ _ (hh 1 k1.symm) rfl (tailM s p0 p1 0 ⟨kind, am, c, id⟩) ham (fun h1 h2 => ?_) (fun h1 h2 => ?_) (fun h1 => ?_) rfl rfl rfl hs hc hF hrd h2 hp0 hp1).mono fun e w' h => fin _ rfl h
      · first | exact tail_ok (by rw [ea, if_neg (fun h => h h1), if_neg (pick_ok0 h2), if_pos rfl]) | exact tail_err (by rw [ea, if_neg (fun h => h h1), if_neg (pick_ok0 h2), if_pos rfl]) (by decide) | exact (tail_ok (by rw [ea, if_neg (fun h => h h1), if_neg (pick_ok0 h2), if_pos rfl])).symm | exact (tail_err (by rw [ea, if_neg (fun h => h h1), if_neg (pick_ok0 h2), if_pos rfl]) (by decide)).symm
      · first | exact tail_ok (by rw [ea, if_neg (fun h => h h1), if_pos (pick_no0 h2)]) | exact tail_err (by rw [ea, if_neg (fun h => h h1), if_pos (pick_no0 h2)]) (by decide) | exact (tail_ok (by rw [ea, if_neg (fun h => h h1), if_pos (pick_no0 h2)])).symm | exact (tail_err (by rw [ea, if_neg (fun h => h h1), if_pos (pick_no0 h2)]) (by decide)).symm
      · exact tail_err (by rw [ea, if_pos h1]) h1
    · refine (RNext1s1 w F s p0 p1 v _ _ _ _ 1 _ _ _ _ _ _ _ _ (hh 1 k1.symm) rfl (tailM s p0 p1 1 ⟨kind, am, c, id⟩) ham (fun h1 h2 => ?_) (fun h1 h2 => ?_) (fun h1 => ?_) rfl rfl rfl hs hc hF hrd h2 hp0 hp1).mono fun e w' h => fin _ rfl h
      · first | exact tail_ok (by rw [ea, if_neg (fun h => h h1), if_neg (pick_ok1 h2), if_neg (by decide)]) | exact tail_err (by rw [ea, if_neg (fun h => h h1), if_neg (pick_ok1 h2), if_neg (by decide)]) (by decide) | exact (tail_ok (by rw [ea, if_neg (fun h => h h1), if_neg (pick_ok1 h2), if_neg (by decide)])).symm | exact (tail_err (by rw [ea, if_neg (fun h => h h1), if_neg (pick_ok1 h2), if_neg (by decide)]) (by decide)).symm
      · first | exact tail_ok (by rw [ea, if_neg (fun h => h h1), if_pos (pick_no1 h2)]) | exact tail_err (by rw [ea, if_neg (fun h => h h1), if_pos (pick_no1 h2)]) (by decide) | exact (tail_ok (by rw [ea, if_neg (fun h => h h1), if_pos (pick_no1 h2)])).symm | exact (tail_err (by rw [ea, if_neg (fun h => h h1), if_pos (pick_no1 h2)]) (by decide)).symm
      · exact tail_err (by rw [ea, if_pos h1]) h1
  by_cases k5 : kind = 5
  · have ea : actM s p0 p1 side ⟨kind, am, c, id⟩ = if spendM s p0 p1 side am ≠ 0 then (.zero, spendM s p0 p1 side am)
      else if (addM (pick2 s.t0 s.t1 side) am).2 ≠ 0 then (.zero, 11) else (if side = 0 then { s with t0 := s.t0 + am } else { s with t1 := s.t1 + am }, 0) := by unfold actM; rw [if_neg k0, if_neg k1, if_pos k5]
    rcases hsd with rfl | rfl
    · refine (RNext5s0 w F s p0 p1 v _ _ _ _ 0 _ _ _ _ _ _ _ _ (hh 5 k5.symm) rfl (tailM s p0 p1 0 ⟨kind, am, c, id⟩) ham (fun h1 h2 => ?_) (fun h1 h2 => ?_) (fun h1 => ?_) rfl rfl rfl hs hc hF hrd h2 hp0 hp1).mono fun e w' h => fin _ rfl h
      · first | exact tail_ok (by rw [ea, if_neg (fun h => h h1), if_neg (pick_ok0 h2), if_pos rfl]) | exact tail_err (by rw [ea, if_neg (fun h => h h1), if_neg (pick_ok0 h2), if_pos rfl]) (by decide) | exact (tail_ok (by rw [ea, if_neg (fun h => h h1), if_neg (pick_ok0 h2), if_pos rfl])).symm | exact (tail_err (by rw [ea, if_neg (fun h => h h1), if_neg (pick_ok0 h2), if_pos rfl]) (by decide)).symm
      · first | exact tail_ok (by rw [ea, if_neg (fun h => h h1), if_pos (pick_no0 h2)]) | exact tail_err (by rw [ea, if_neg (fun h => h h1), if_pos (pick_no0 h2)]) (by decide) | exact (tail_ok (by rw [ea, if_neg (fun h => h h1), if_pos (pick_no0 h2)])).symm | exact (tail_err (by rw [ea, if_neg (fun h => h h1), if_pos (pick_no0 h2)]) (by decide)).symm
      · exact tail_err (by rw [ea, if_pos h1]) h1
    · refine (RNext5s1 w F s p0 p1 v _ _ _ _ 1 _ _ _ _ _ _ _ _ (hh 5 k5.symm) rfl (tailM s p0 p1 1 ⟨kind, am, c, id⟩) ham (fun h1 h2 => ?_) (fun h1 h2 => ?_) (fun h1 => ?_) rfl rfl rfl hs hc hF hrd h2 hp0 hp1).mono fun e w' h => fin _ rfl h
      · first | exact tail_ok (by rw [ea, if_neg (fun h => h h1), if_neg (pick_ok1 h2), if_neg (by decide)]) | exact tail_err (by rw [ea, if_neg (fun h => h h1), if_neg (pick_ok1 h2), if_neg (by decide)]) (by decide) | exact (tail_ok (by rw [ea, if_neg (fun h => h h1), if_neg (pick_ok1 h2), if_neg (by decide)])).symm | exact (tail_err (by rw [ea, if_neg (fun h => h h1), if_neg (pick_ok1 h2), if_neg (by decide)]) (by decide)).symm
      · first | exact tail_ok (by rw [ea, if_neg (fun h => h h1), if_pos (pick_no1 h2)]) | exact tail_err (by rw [ea, if_neg (fun h => h h1), if_pos (pick_no1 h2)]) (by decide) | exact (tail_ok (by rw [ea, if_neg (fun h => h h1), if_pos (pick_no1 h2)])).symm | exact (tail_err (by rw [ea, if_neg (fun h => h h1), if_pos (pick_no1 h2)]) (by decide)).symm
      · exact tail_err (by rw [ea, if_pos h1]) h1
  by_cases k2 : kind = 2
  · have ea : actM s p0 p1 side ⟨kind, am, c, id⟩ = if c.2.1 ≠ side then (.zero, 1) else if 0 ≤ findM s.cs c.1 then (.zero, 7) else if 8 ≤ s.cs.length then (.zero, 4)
      else if spendM s p0 p1 side c.2.2.1 ≠ 0 then (.zero, spendM s p0 p1 side c.2.2.1) else ({ s with cs := s.cs ++ [c] }, 0) := by unfold actM; rw [if_neg k0, if_neg k1, if_neg k5, if_pos k2]
    refine (RNext2 w F s p0 p1 v _ _ _ _ side _ _ _ _ _ _ _ _ (hh 2 k2.symm) c (tailM s p0 p1 side ⟨kind, am, c, id⟩) hok (wish_drop hok) (cond_am_lt hok) (fun h => ?_) (fun h h' => ?_) (fun h h' h'' => ?_) (fun h h' h'' h3 => ?_) (fun h h' h'' h3 => ?_) rfl rfl rfl hs hc hF hrd h2 hp0 hp1).mono fun e w' h => fin _ rfl h
    · first | exact tail_ok (by rw [ea, if_pos h]) | exact tail_err (by rw [ea, if_pos h]) (by decide) | exact (tail_ok (by rw [ea, if_pos h])).symm | exact (tail_err (by rw [ea, if_pos h]) (by decide)).symm
    · first | exact tail_ok (by rw [ea, if_neg (by omega), if_pos h']) | exact tail_err (by rw [ea, if_neg (by omega), if_pos h']) (by decide) | exact (tail_ok (by rw [ea, if_neg (by omega), if_pos h'])).symm | exact (tail_err (by rw [ea, if_neg (by omega), if_pos h']) (by decide)).symm
    · first | exact tail_ok (by rw [ea, if_neg (by omega), if_neg (by omega), if_pos (Nat.le_of_eq h''.symm)]) | exact tail_err (by rw [ea, if_neg (by omega), if_neg (by omega), if_pos (Nat.le_of_eq h''.symm)]) (by decide) | exact (tail_ok (by rw [ea, if_neg (by omega), if_neg (by omega), if_pos (Nat.le_of_eq h''.symm)])).symm | exact (tail_err (by rw [ea, if_neg (by omega), if_neg (by omega), if_pos (Nat.le_of_eq h''.symm)]) (by decide)).symm
    · exact tail_err (by rw [ea, if_neg (by omega), if_neg (by omega), if_neg (by have h2' : List.length (α := Cd) s.cs ≤ 8 := h2; intro hh; exact h'' (Nat.le_antisymm h2' hh)), if_pos h3]) h3
    · first | exact tail_ok (by rw [ea, if_neg (by omega), if_neg (by omega), if_neg (by have h2' : List.length (α := Cd) s.cs ≤ 8 := h2; intro hh; exact h'' (Nat.le_antisymm h2' hh)), if_neg (by omega)]) | exact tail_err (by rw [ea, if_neg (by omega), if_neg (by omega), if_neg (by have h2' : List.length (α := Cd) s.cs ≤ 8 := h2; intro hh; exact h'' (Nat.le_antisymm h2' hh)), if_neg (by omega)]) (by decide) | exact (tail_ok (by rw [ea, if_neg (by omega), if_neg (by omega), if_neg (by have h2' : List.length (α := Cd) s.cs ≤ 8 := h2; intro hh; exact h'' (Nat.le_antisymm h2' hh)), if_neg (by omega)])).symm | exact (tail_err (by rw [ea, if_neg (by omega), if_neg (by omega), if_neg (by have h2' : List.length (α := Cd) s.cs ≤ 8 := h2; intro hh; exact h'' (Nat.le_antisymm h2' hh)), if_neg (by omega)]) (by decide)).symm
  by_cases k34 : kind = 3 ∨ kind = 4
  · have ea : actM s p0 p1 side ⟨kind, am, c, id⟩ = if findM s.cs id < 0 then (.zero, (6 : Int)) else match s.cs[(findM s.cs id).toNat]? with
        | none => (.zero, (6 : Int))
        | some c => if kind = 4 then ({ s with cs := s.cs.eraseIdx (findM s.cs id).toNat }, (0 : Int))
          else if (addM (pick2 s.m0 s.m1 c.2.1) c.2.2.1).2 ≠ 0 then (.zero, (11 : Int))
          else (if c.2.1 = 0 then { s with m0 := s.m0 + c.2.2.1, cs := s.cs.eraseIdx (findM s.cs id).toNat } else { s with m1 := s.m1 + c.2.2.1, cs := s.cs.eraseIdx (findM s.cs id).toNat }, (0 : Int)) := by unfold actM; rw [if_neg k0, if_neg k1, if_neg k5, if_neg k2, if_pos k34]; rfl
    by_cases hf : findM s.cs id < 0
    · rw [if_pos hf] at ea
      rcases k34 with k3 | k4
      · refine (RNext3e w F s p0 p1 v _ _ _ _ side _ _ _ _ _ _ _ _ (hh 3 k3.symm) hf rfl rfl rfl hs hc hF hrd h2 hp0 hp1).mono fun e w' h => fin _ ?_ h
        first | exact tail_ok (by rw [ea]) | exact tail_err (by rw [ea]) (by decide) | exact (tail_ok (by rw [ea])).symm | exact (tail_err (by rw [ea]) (by decide)).symm
      · refine (RNext4e w F s p0 p1 v _ _ _ _ side _ _ _ _ _ _ _ _ (hh 4 k4.symm) hf rfl rfl rfl hs hc hF hrd h2 hp0 hp1).mono fun e w' h => fin _ ?_ h
        first | exact tail_ok (by rw [ea]) | exact tail_err (by rw [ea]) (by decide) | exact (tail_ok (by rw [ea])).symm | exact (tail_err (by rw [ea]) (by decide)).symm
    · obtain ⟨a, hfa, hl, hcs, hta⟩ := find_at hf
      rw [if_neg hf, hcs] at ea
      simp only [hta] at ea
      rcases k34 with k3 | k4
      · rw [if_neg (by omega)] at ea
        have hck := h3 s.cs[a] (List.getElem_mem hl)
        rcases hck.1 with hc0 | hc1
        · refine (RNext3s0 w F s p0 p1 v _ _ _ _ side _ _ _ _ _ _ _ _ (hh 3 k3.symm) (tailM s p0 p1 side ⟨kind, am, c, id⟩) a hfa hl _ rfl hc0 (fun h => ?_) (fun h => ?_) rfl rfl rfl hs hc hF hrd h2 hp0 hp1).mono fun e w' h => fin _ rfl h
          · first | exact tail_ok (by rw [ea, if_neg (by rw [show pick2 s.m0 s.m1 s.cs[a].2.1 = s.m0 from if_pos hc0]; exact add_ok h), if_pos hc0]) | exact tail_err (by rw [ea, if_neg (by rw [show pick2 s.m0 s.m1 s.cs[a].2.1 = s.m0 from if_pos hc0]; exact add_ok h), if_pos hc0]) (by decide) | exact (tail_ok (by rw [ea, if_neg (by rw [show pick2 s.m0 s.m1 s.cs[a].2.1 = s.m0 from if_pos hc0]; exact add_ok h), if_pos hc0])).symm | exact (tail_err (by rw [ea, if_neg (by rw [show pick2 s.m0 s.m1 s.cs[a].2.1 = s.m0 from if_pos hc0]; exact add_ok h), if_pos hc0]) (by decide)).symm
          · first | exact tail_ok (by rw [ea, if_pos (by rw [show pick2 s.m0 s.m1 s.cs[a].2.1 = s.m0 from if_pos hc0]; exact add_no h)]) | exact tail_err (by rw [ea, if_pos (by rw [show pick2 s.m0 s.m1 s.cs[a].2.1 = s.m0 from if_pos hc0]; exact add_no h)]) (by decide) | exact (tail_ok (by rw [ea, if_pos (by rw [show pick2 s.m0 s.m1 s.cs[a].2.1 = s.m0 from if_pos hc0]; exact add_no h)])).symm | exact (tail_err (by rw [ea, if_pos (by rw [show pick2 s.m0 s.m1 s.cs[a].2.1 = s.m0 from if_pos hc0]; exact add_no h)]) (by decide)).symm
        · have hn : ¬ s.cs[a].2.1 = 0 := by rw [hc1]; decide
          refine (RNext3s1 w F s p0 p1 v _ _ _ _ side _ _ _ _ _ _ _ _ (hh 3 k3.symm) (tailM s p0 p1 side ⟨kind, am, c, id⟩) a hfa hl _ rfl hc1 (fun h => ?_) (fun h => ?_) rfl rfl rfl hs hc hF hrd h2 hp0 hp1).mono fun e w' h => fin _ rfl h
          · first | exact tail_ok (by rw [ea, if_neg (by rw [show pick2 s.m0 s.m1 s.cs[a].2.1 = s.m1 from if_neg hn]; exact add_ok h), if_neg hn]) | exact tail_err (by rw [ea, if_neg (by rw [show pick2 s.m0 s.m1 s.cs[a].2.1 = s.m1 from if_neg hn]; exact add_ok h), if_neg hn]) (by decide) | exact (tail_ok (by rw [ea, if_neg (by rw [show pick2 s.m0 s.m1 s.cs[a].2.1 = s.m1 from if_neg hn]; exact add_ok h), if_neg hn])).symm | exact (tail_err (by rw [ea, if_neg (by rw [show pick2 s.m0 s.m1 s.cs[a].2.1 = s.m1 from if_neg hn]; exact add_ok h), if_neg hn]) (by decide)).symm
          · first | exact tail_ok (by rw [ea, if_pos (by rw [show pick2 s.m0 s.m1 s.cs[a].2.1 = s.m1 from if_neg hn]; exact add_no h)]) | exact tail_err (by rw [ea, if_pos (by rw [show pick2 s.m0 s.m1 s.cs[a].2.1 = s.m1 from if_neg hn]; exact add_no h)]) (by decide) | exact (tail_ok (by rw [ea, if_pos (by rw [show pick2 s.m0 s.m1 s.cs[a].2.1 = s.m1 from if_neg hn]; exact add_no h)])).symm | exact (tail_err (by rw [ea, if_pos (by rw [show pick2 s.m0 s.m1 s.cs[a].2.1 = s.m1 from if_neg hn]; exact add_no h)]) (by decide)).symm
      · rw [if_pos k4] at ea
        refine (RNext4 w F s p0 p1 v _ _ _ _ side _ _ _ _ _ _ _ _ (hh 4 k4.symm) a hfa hl rfl rfl rfl hs hc hF hrd h2 hp0 hp1).mono fun e w' h => fin _ ?_ h
        first | exact tail_ok (by rw [ea]) | exact tail_err (by rw [ea]) (by decide) | exact (tail_ok (by rw [ea])).symm | exact (tail_err (by rw [ea]) (by decide)).symm
  have k3 : kind ≠ 3 := fun e => k34 (.inl e)
  have k4 : kind ≠ 4 := fun e => k34 (.inr e)
  have ea : actM s p0 p1 side ⟨kind, am, c, id⟩ = (.zero, 33) := by unfold actM; rw [if_neg k0, if_neg k1, if_neg k5, if_neg k2, if_neg k34]
  refine (RNextX kind w F s p0 p1 v _ _ _ _ side _ _ _ _ _ _ _ _ hin k0 k1 k2 k3 k4 k5 rfl rfl rfl hs hc hF hrd h2 hp0 hp1).mono fun e w' h => fin _ ?_ h
  first | exact tail_ok (by rw [ea]) | exact tail_err (by rw [ea]) (by decide) | exact (tail_ok (by rw [ea])).symm | exact (tail_err (by rw [ea]) (by decide)).symm
end
section
open Go.RowKit

def flipC (c : Cd) : Cd := (c.1, c.2.1, c.2.2.1 ^^^ 1, c.2.2.2)
theorem flip_back (c : Cd) : flipC (flipC c) = c := by
  show (c.1, c.2.1, (c.2.2.1 ^^^ 1) ^^^ 1, c.2.2.2) = c
  rw [Nat.xor_assoc, Nat.xor_self, Nat.xor_zero]
theorem xor1_lt {n : Nat} (h : n < 18446744073709551616) : n ^^^ 1 < 18446744073709551616 := Nat.xor_lt_two_pow (n := 64) h (by decide)
theorem flip_ok {c : Cd} (h : CondOk c) : CondOk (flipC c) := by
  refine ⟨h.id, h.side, ?_, h.hash, h.exp⟩
  have h1 := bounds_u64 h.am
  have h2 := xor1_lt (n := c.2.2.1) (by omega)
  show (Lit.int .u64 ((c.2.2.1 ^^^ 1 : Nat) : Int)).wf = true
  exact Go.WalkArith.wf_u64 (by omega)
/-- The first j are turned. -/
def flipM (cs : List Cd) (j : Nat) : List Cd := (cs.take j).map flipC ++ cs.drop j
theorem flipM_zero (cs : List Cd) : flipM cs 0 = cs := by simp [flipM]
theorem flipM_all (cs : List Cd) : flipM cs (List.length (α := Cd) cs) = cs.map flipC := by
  show (cs.take cs.length).map flipC ++ cs.drop cs.length = _
  rw [List.take_length, List.drop_length, List.append_nil]
theorem flip_flip (cs : List Cd) : (cs.map flipC).map flipC = cs := by
  rw [List.map_map]
  have e : flipC ∘ flipC = id := funext flip_back
  rw [e, List.map_id]
theorem flipM_len (cs : List Cd) (j : Nat) : List.length (α := Cd) (flipM cs j) = List.length (α := Cd) cs := by
  show ((cs.take j).map flipC ++ cs.drop j).length = cs.length
  rw [List.length_append, List.length_map, ← List.length_append, List.take_append_drop]
theorem flipM_ok {cs : List Cd} (h : ∀ c ∈ cs, CondOk c) (j : Nat) : ∀ c ∈ flipM cs j, CondOk c := by
  intro c hc
  rcases List.mem_append.1 hc with hc | hc
  · obtain ⟨d, hd, rfl⟩ := List.mem_map.1 hc
    exact flip_ok (h d (List.mem_of_mem_take hd))
  · exact h c (List.mem_of_mem_drop hc)
theorem flipM_at (cs : List Cd) (j : Nat) (h : j < List.length (α := Cd) (flipM cs j)) (h' : j < List.length (α := Cd) cs) : (flipM cs j)[j] = cs[j] := by
  have e : (flipM cs j)[j]? = some cs[j] := by
    unfold flipM
    have h' : j < cs.length := h'
    have hl : ((cs.take j).map flipC).length = j := by rw [List.length_map, List.length_take]; omega
    rw [List.getElem?_append_right (by omega), hl, Nat.sub_self, List.getElem?_drop]
    exact List.getElem?_eq_getElem h'
  exact (List.getElem?_eq_some_iff.1 e).2
theorem flipM_step (cs : List Cd) (j : Nat) (h : j < List.length (α := Cd) cs) : flipM cs (j + 1) = (flipM cs j).set j (flipC cs[j]) := by
  have h' : j < cs.length := h
  show (cs.take (j + 1)).map flipC ++ cs.drop (j + 1) = ((cs.take j).map flipC ++ cs.drop j).set j (flipC cs[j])
  have hl : ((cs.take j).map flipC).length = j := by rw [List.length_map, List.length_take]; omega
  rw [List.take_succ_eq_append_getElem h', List.map_append, List.set_append_right _ _ (by omega), hl, Nat.sub_self, List.drop_eq_getElem_cons h', List.set_cons_zero, List.append_assoc]
  rfl
theorem flat_set (f : Cd → List Value) : ∀ (l : List Cd) (j : Nat) (hj : j < List.length (α := Cd) l) (c' : Cd) (k : Nat) (u : Value), (∀ c ∈ l, (f c).length = 36) → k < 36 → f c' = (f l[j]).set k u → (l.flatMap f).set (j * 36 + k) u = (l.set j c').flatMap f
  | [], j, hj, _, _, _, _, _, _ => absurd hj (Nat.not_lt_zero _)
  | a :: l, 0, _, c', k, u, hf, hk, e => by
    have ha := hf a (List.mem_cons_self ..)
    show (f a ++ l.flatMap f).set (0 * 36 + k) u = f c' ++ l.flatMap f
    rw [List.set_append_left _ _ (by omega), e]
    simp
  | a :: l, j + 1, hj, c', k, u, hf, hk, e => by
    have ha := hf a (List.mem_cons_self ..)
    show (f a ++ l.flatMap f).set ((j + 1) * 36 + k) u = f a ++ (l.set j c').flatMap f
    rw [List.set_append_right _ _ (by omega), ha, show (j + 1) * 36 + k - 36 = j * 36 + k by omega]
    rw [flat_set f l j (Nat.lt_of_succ_lt_succ hj) c' k u (fun c hc => hf c (List.mem_cons_of_mem _ hc)) hk e]
theorem flat_at (f : Cd → List Value) : ∀ (l : List Cd) (j : Nat) (hj : j < List.length (α := Cd) l) (k : Nat), (∀ c ∈ l, (f c).length = 36) → k < 36 → (l.flatMap f)[j * 36 + k]? = (f l[j])[k]?
  | [], j, hj, _, _, _ => absurd hj (Nat.not_lt_zero _)
  | a :: l, 0, _, k, hf, hk => by
    have ha := hf a (List.mem_cons_self ..)
    show (f a ++ l.flatMap f)[0 * 36 + k]? = (f a)[k]?
    rw [List.getElem?_append_left (by omega)]
    simp
  | a :: l, j + 1, hj, k, hf, hk => by
    have ha := hf a (List.mem_cons_self ..)
    show (f a ++ l.flatMap f)[(j + 1) * 36 + k]? = _
    rw [List.getElem?_append_right (by omega), ha, show (j + 1) * 36 + k - 36 = j * 36 + k by omega]
    exact flat_at f l j (Nat.lt_of_succ_lt_succ hj) k (fun c hc => hf c (List.mem_cons_of_mem _ hc)) hk
theorem turn_read {W : World} {g cap : Nat} {cs : List Cd} {j : Nat} (h : OwnC W (.slice (some ⟨g, 0, none⟩) (List.length (α := Cd) cs) cap) (flipM cs j)) (hj : j < List.length (α := Cd) cs) :
    W.cell? ⟨g, j * 36 + 2, none⟩ = some (.int .u64 (((cs[j]).2.2.1 : Nat) : Int)) ∧ W.frozen? ⟨g, j * 36 + 2, none⟩ = false := by
  obtain ⟨hok, ho⟩ := h
  rw [flipM_len] at ho
  have hj' : j < List.length (α := Cd) (flipM cs j) := by rw [flipM_len]; exact hj
  refine ⟨?_, World.ownsRow.frozenAt ho _⟩
  rw [World.ownsRow.cellAt ho (j * 36 + 2) (by omega), flat_at condCells _ j hj' 2 (fun c hc => condCells_len (hok c hc)) (by omega), flipM_at cs j hj' hj]
  rfl
theorem turn_write {W : World} {g cap : Nat} {cs : List Cd} {j : Nat} (h : OwnC W (.slice (some ⟨g, 0, none⟩) (List.length (α := Cd) cs) cap) (flipM cs j)) (hj : j < List.length (α := Cd) cs) (hok : ∀ c ∈ cs, CondOk c) :
    OwnC (W.setCell ⟨g, j * 36 + 2, none⟩ (.int .u64 (((cs[j]).2.2.1 ^^^ 1 : Nat) : Int))) (.slice (some ⟨g, 0, none⟩) (List.length (α := Cd) cs) cap) (flipM cs (j + 1)) ∧ W.grownBy (W.setCell ⟨g, j * 36 + 2, none⟩ (.int .u64 (((cs[j]).2.2.1 ^^^ 1 : Nat) : Int))) (some g) := by
  obtain ⟨hok', ho⟩ := h
  rw [flipM_len] at ho
  have hj' : j < List.length (α := Cd) (flipM cs j) := by rw [flipM_len]; exact hj
  have hs := World.ownsRow.stored ho (j * 36 + 2) (.int .u64 (((cs[j]).2.2.1 ^^^ 1 : Nat) : Int))
  rw [flat_set condCells _ j hj' (flipC cs[j]) 2 _ (fun c hc => condCells_len (hok' c hc)) (by omega) (by rw [flipM_at cs j hj' hj]; rfl), ← flipM_step cs j hj] at hs
  refine ⟨⟨flipM_ok hok (j + 1), ?_⟩, hs.2⟩
  rw [flipM_len]
  exact hs.1
theorem xor_amount {x : Nat} (h : x < 18446744073709551616) : bits .xor .u64 (x : Int) 1 = ((x ^^^ 1 : Nat) : Int) := bits_xor_u64_nat x 1 h (by decide)
end
section
open Go.RowKit

structure PNIn (PC OC Z ZR : List Value) : Prop where
  z : (Try.prog.info? 36).bind (fun i => i.zero.map (·.cells)) = some Z.toArray
  zr : (Try.prog.info? 27).bind (fun i => i.zero.map (·.cells)) = some ZR.toArray
  pl : PC.length = 2
  dl : OC.length = 39
  zl : Z.length = 7
  zrl : ZR.length = 7
  op : ∀ W, Calls Try.prog 12 #[.agg OC.toArray] W fun e w' => e = .returned (.agg OC.toArray) ∧ Ext W w'
/-- What lies behind both Nexts: the states, their payments; those of the first are turned one by one. -/
structure LInv (w wr : World) (SC XC R R2 : List Value) (g7 g g12 : Nat) (v vy v3 : Value) (s n : St) (l : List Cd) : Prop where
  ext : Ext w wr
  sc : Blk wr w.heap.size 27 SC
  xb : Blk wr g7 36 XC
  yb : Blk wr g 36 R
  zb : Blk wr g12 27 R2
  ox : OwnC wr v s.cs
  oy : OwnC wr vy l
  oz : OwnFrom wr v3 n.cs
  far : ∀ b, vy.ownBlock = some b → w.heap.size < b ∧ b ≠ g7 ∧ b ≠ g ∧ b ≠ g12 ∧ v.ownBlock ≠ some b ∧ v3.ownBlock ≠ some b
theorem LInv.ext' {w wr W : World} {SC XC R R2 : List Value} {g7 g g12 : Nat} {v vy v3 : Value} {s n : St} {l : List Cd} (h : LInv w wr SC XC R R2 g7 g g12 v vy v3 s n l) (hx : Ext wr W) : LInv w W SC XC R R2 g7 g g12 v vy v3 s n l :=
  ⟨h.ext.trans hx, h.sc.keep hx (by simp), h.xb.keep hx (by simp), h.yb.keep hx (by simp), h.zb.keep hx (by simp), h.ox.ext hx, h.oy.ext hx, ⟨h.oz.1, h.oz.2.ext hx⟩, h.far⟩
theorem LInv.turn {w wr : World} {SC XC R R2 : List Value} {g7 g g12 gy ln cap j : Nat} {v v3 : Value} {s n : St} {ds : List Cd} (h : LInv w wr SC XC R R2 g7 g g12 v (.slice (some ⟨gy, 0, none⟩) ln cap) v3 s n (flipM ds j)) (hl : ln = List.length (α := Cd) ds) (hj : j < List.length (α := Cd) ds) (hok : ∀ c ∈ ds, CondOk c) :
    LInv w (wr.setCell ⟨gy, j * 36 + 2, none⟩ (.int .u64 (((ds[j]).2.2.1 ^^^ 1 : Nat) : Int))) SC XC R R2 g7 g g12 v (.slice (some ⟨gy, 0, none⟩) ln cap) v3 s n (flipM ds (j + 1)) := by
  subst hl
  obtain ⟨h1, h2⟩ := turn_write h.oy hj hok
  obtain ⟨f1, f2, f3, f4, f5, f6⟩ := h.far gy rfl
  exact ⟨grown_then h.ext h2 (.inr (by rintro b ⟨⟩; omega)), h.sc.keep h2 (by simp; omega), h.xb.keep h2 (by simp; omega), h.yb.keep h2 (by simp; omega), h.zb.keep h2 (by simp; omega),
    h.ox.keep h2 (fun b hb e => f5 (by cases e; exact hb)), h1, ⟨h.oz.1, h.oz.2.keep h2 (.inr f6)⟩, h.far⟩
/-- Rows of unlike kinds aren't one. -/
theorem rows_apart {w : World} {v u : Value} {cs ds : List Cd} (h : OwnC w v cs) (h' : OwnFrom w u ds) : ∀ b, v.ownBlock = some b → u.ownBlock ≠ some b := by
  intro b hb e
  rcases h.2.2 with ⟨rfl, _⟩ | ⟨g, cap, cur, rfl, _, hg, _⟩
  · cases hb
  rcases h'.2.2 with ⟨rfl, _⟩ | ⟨g', cap', cur', rfl, _, hg', _⟩
  · cases e
  cases hb
  cases e
  rw [hg] at hg'
  injection hg' with hg'
  injection hg' with _ h2
  exact absurd h2 (by decide)
set_option maxRecDepth 100000 in
set_option maxHeartbeats 2000000 in
theorem PNextLong (w : World) (SC PC OC : List Value) (side : Int) (A : Option Addr) (n c : Nat) (h40 : 40 < n) (s4 : SC[6]? = some (.slice A n c)) :
    Calls Try.prog 3 #[.agg SC.toArray, .agg PC.toArray, .int .i64 side, .agg OC.toArray] w fun e w' => e = .returned (.bool true) ∧ Ext w w' := by
  have hb0 : Blk (((w.alloc (.cells SC.toArray 27)).alloc (.cells PC.toArray 24)).alloc (.cells OC.toArray 32)) w.heap.size 27 SC := (Blk.new _ _ _).keep (((Ext.refl _).alloc _).alloc _) (by simp)
  have c6 := (hb0.cell 6).trans s4
  clear hb0
  go_enter Try.func3, Try.ntmps3
  go_wp2_with (first
    | (go_at_call 9; refine (Awake _).mono ?_; rintro e w9 ⟨rfl, hx9⟩)
    | fail)
  go_ret
  exact ⟨rfl, (((((Ext.refl w).alloc _).alloc _).alloc _)).trans hx9⟩
set_option maxRecDepth 100000 in
set_option maxHeartbeats 8000000 in
theorem PNext1 (w : World) (SC PC OC Z ZR : List Value) (side : Int) (A : Option Addr) (len c : Nat) (s n : St) (z : Int) (h40 : len ≤ 40) (s4 : SC[6]? = some (.slice A len c)) (hin : PNIn PC OC Z ZR)
    (hsl : SC.length = 7) (hn8 : List.length (α := Cd) n.cs ≤ 100)
    (hto : ∀ W, Ext w W → Calls Try.prog 10 #[.agg SC.toArray] W fun e w' => ∃ v', e = .returned (.agg (stc s v').toArray) ∧ OwnC w' v' s.cs ∧ Ext W w' ∧ ∀ b, v'.ownBlock = some b → W.heap.size ≤ b)
    (hnx : ∀ v, NextJ Z (stc s v) PC OC v s.cs side n z)
    (hrn : ∀ W, Ext w W → Calls Try.prog 13 #[.agg SC.toArray, .agg PC.toArray, .int .i64 side, .agg OC.toArray] W fun e w' => ∃ (R2 : List Value) (v3 : Value), e = .returned (.tuple #[.agg R2.toArray, .int .i64 z]) ∧ R2 = stc n v3 ∧ OwnFrom w' v3 n.cs ∧ Ext W w')
    (hfx : ∀ v W, OwnC W v s.cs → Calls Try.prog 15 #[.agg (stc s v).toArray] W fun e w' => ∃ u, e = .returned (.agg (stc s u).toArray) ∧ OwnFrom w' u s.cs ∧ Ext W w')
    (hfy : ∀ v W, OwnC W v n.cs → Calls Try.prog 15 #[.agg (stc n v).toArray] W fun e w' => ∃ u, e = .returned (.agg (stc n u).toArray) ∧ OwnFrom w' u n.cs ∧ Ext W w')
    (hsx : ∀ u W, OwnFrom W u s.cs → Ext w W → Calls Try.prog 14 #[.agg (stc s u).toArray, .agg SC.toArray] W fun e w' => e = .returned (.bool true) ∧ Ext W w')
    (hsy : ∀ u v W, OwnFrom W u n.cs → OwnFrom W v n.cs → Calls Try.prog 14 #[.agg (stc n u).toArray, .agg (stc n v).toArray] W fun e w' => e = .returned (.bool true) ∧ Ext W w') :
    Calls Try.prog 3 #[.agg SC.toArray, .agg PC.toArray, .int .i64 side, .agg OC.toArray] w fun e w' => e = .returned (.bool true) ∧ Ext w w' := by
  have hz := hin.z
  have hzr := hin.zr
  have HPL := Lib.hid hin.pl
  have HDL := Lib.hid hin.dl
  have HZL := Lib.hid hin.zl
  have HZRL := Lib.hid hin.zrl
  have HSL := Lib.hid hsl
  have HOP := Lib.hid hin.op
  have HNX := Lib.hid hnx
  have HTO := Lib.hid hto
  have HRN := Lib.hid hrn
  have HF1 := Lib.hid hfx
  have HF2 := Lib.hid hfy
  have HS1 := Lib.hid hsx
  have HS2 := Lib.hid hsy
  have HN8 := Lib.hid hn8
  have hb0 : Blk (((w.alloc (.cells SC.toArray 27)).alloc (.cells PC.toArray 24)).alloc (.cells OC.toArray 32)) w.heap.size 27 SC := (Blk.new _ _ _).keep (((Ext.refl _).alloc _).alloc _) (by simp)
  have hb1 : Blk (((w.alloc (.cells SC.toArray 27)).alloc (.cells PC.toArray 24)).alloc (.cells OC.toArray 32)) (w.heap.size + 1) 24 PC := (Blk.new_at (by simp) _ _).keep ((Ext.refl _).alloc _) (by simp)
  have hb2 : Blk (((w.alloc (.cells SC.toArray 27)).alloc (.cells PC.toArray 24)).alloc (.cells OC.toArray 32)) (w.heap.size + 2) 32 OC := Blk.new_at (by simp) _ _
  have hx0 : Ext w (((w.alloc (.cells SC.toArray 27)).alloc (.cells PC.toArray 24)).alloc (.cells OC.toArray 32)) := (((Ext.refl w).alloc _).alloc _).alloc _
  have c6 := (hb0.cell 6).trans s4
  have hcs := hb0.cells
  have HB0 := Lib.hid hb0
  have HB1 := Lib.hid hb1
  have HB2 := Lib.hid hb2
  have HX0 := Lib.hid hx0
  clear hin hnx hto hrn hfx hfy hsx hsy hb0 hb1 hb2 hx0 hsl hn8
  go_enter Try.func3, Try.ntmps3
  go_wp2_with (first
    | (refine wpList_load_agg _ rfl 27 (.tmp 4) rfl _ rfl SC _ Try.underlying27 rfl (szSFrom HSL.out) hcs ?_)
    | fail)
  refine (HTO.out _ HX0.out).mono ?_
  rintro e w1 ⟨v, rfl, hov, hx1, hvo⟩
  have hxl : (stc s v).length = 7 := rfl
  have hxo : ∀ u ∈ stc s v, u.oneCell' = true := by obtain ⟨A2, c2, h⟩ := hov.form; rw [h]; exact stc_one _ _ _ _
  have hnx := HNX.out v
  have hfx := HF1.out v
  generalize stc s v = XC at *
  have HXL := Lib.hid hxl
  have hbx : Blk (w1.alloc (.cells XC.toArray 36)) w1.heap.size 36 XC := Blk.new _ _ _
  have hb0 : Blk (w1.alloc (.cells XC.toArray 36)) w.heap.size 27 SC := (HB0.out.keep hx1 (by simp)).keep ((Ext.refl _).alloc _) (by simp)
  have hb1 : Blk (w1.alloc (.cells XC.toArray 36)) (w.heap.size + 1) 24 PC := (HB1.out.keep hx1 (by simp)).keep ((Ext.refl _).alloc _) (by simp)
  have hb2 : Blk (w1.alloc (.cells XC.toArray 36)) (w.heap.size + 2) 32 OC := (HB2.out.keep hx1 (by simp)).keep ((Ext.refl _).alloc _) (by simp)
  have hx2 : Ext w (w1.alloc (.cells XC.toArray 36)) := (HX0.out.trans hx1).alloc _
  have hov2 : OwnC (w1.alloc (.cells XC.toArray 36)) v s.cs := hov.ext ((Ext.refl _).alloc _)
  have hg7 : w.heap.size + 3 ≤ w1.heap.size := by have h1 := HB2.out.lt; have h2 := hx1.size; omega
  have hvn : ∀ b, v.ownBlock = some b → b < w1.heap.size := hov.lt
  have HBX := Lib.hid hbx
  have HBS := Lib.hid hb0
  have HBP := Lib.hid hb1
  have HBO := Lib.hid hb2
  have HX2 := Lib.hid hx2
  have HOV := Lib.hid hov2
  have HVN := Lib.hid hvn
  have HN1 := Lib.hid hnx
  have HFX1 := Lib.hid hfx
  clear hxl hbx hb0 hb1 hb2 hx2 hov2 hov hx1 hvn hvo hnx hfx hcs c6
  go_wp2_with (first
    | (refine wpList_alloc _ rfl 36 rfl _ hz ?_)
    | (refine wpList_store_new _ rfl 36 (.tmp 9) (.tmp 23) rfl rfl Z XC _ rfl (state_size HXL.out) (by rw [HXL.out, HZL.out]) hxo ?_)
    | fail)
  have hbx : Blk (w1.alloc (.cells XC.toArray 36)).drew w1.heap.size 36 XC := HBX.out
  have hb0 : Blk (w1.alloc (.cells XC.toArray 36)).drew w.heap.size 27 SC := HBS.out
  have hb1 : Blk (w1.alloc (.cells XC.toArray 36)).drew (w.heap.size + 1) 24 PC := HBP.out
  have hb2 : Blk (w1.alloc (.cells XC.toArray 36)).drew (w.heap.size + 2) 32 OC := HBO.out
  have hx2 : Ext w (w1.alloc (.cells XC.toArray 36)).drew := HX2.out.drew
  have hov2 : OwnC (w1.alloc (.cells XC.toArray 36)).drew v s.cs := HOV.out.ext (Ext.refl _).drew
  refine startM (KeepB fun b => b < (w1.alloc (.cells XC.toArray 36)).drew.heap.size) (by kernel_rfl) ?_
  (try simp only [Act.put, List.setIfInBounds_toArray, List.set_cons_succ, List.set_cons_zero])
  generalize (w1.alloc (.cells XC.toArray 36)).drew = w0 at *
  generalize w1.heap.size = g7 at *
  have hcx := hbx.cells
  have hcp := hb1.cells
  have hco := hb2.cells
  have HBX := Lib.hid hbx
  have HBS := Lib.hid hb0
  have HBP := Lib.hid hb1
  have HBO := Lib.hid hb2
  have HCX := Lib.hid hcx
  have HCP := Lib.hid hcp
  have HCO := Lib.hid hco
  have HOX := Lib.hid hov2
  have HX3 := Lib.hid hx2
  have hJ := NJ.start w0 Z
  have HJ := Lib.hid hJ
  clear hbx hb0 hb1 hb2 hcx hcp hco hov2 hx2 hJ HB0 HB1 HB2 HX2 HOV
  apply sharedL (fun g R W => ∃ v2, R = stc n v2 ∧ NJ w0 Z (some g) W v2 n.cs)
  · intro hM
    refine takeK 0 rfl (by kernel_rfl) (by kernel_rfl) (by kernel_rfl) rfl (fun _ _ _ _ h => h) rfl (fun K hK => ?_)
    refine quiet_agg 36 (.tmp 9) rfl _ rfl XC _ Try.underlying36 rfl (state_size HXL.out) (fun W' h => KeepB.cells h HCX.out (HBX.out.lt)) ?_
    refine hK _ ?_
    simp only [Act.put, List.setIfInBounds_toArray, List.set_cons_succ, List.set_cons_zero]
    clear hK K
    refine takeK 1 rfl (by kernel_rfl) (by kernel_rfl) (by kernel_rfl) rfl (fun _ _ _ _ h => h) rfl (fun K hK => ?_)
    refine quiet_agg 24 (.tmp 5) rfl _ rfl PC _ Try.underlying24 rfl (by rw [HPL.out]; kernel_rfl) (fun W' h => KeepB.cells h HCP.out (HBP.out.lt)) ?_
    refine hK _ ?_
    simp only [Act.put, List.setIfInBounds_toArray, List.set_cons_succ, List.set_cons_zero]
    clear hK K
    refine takeK 2 rfl (by kernel_rfl) (by kernel_rfl) (by kernel_rfl) rfl (fun _ _ _ _ h => h) rfl (fun K hK => ?_)
    go_big_quiet_op
    first | refine hK _ ?_ | refine ⟨_, fun _ _ => rfl, hK _ ?_⟩
    clear hK K
    refine takeK 3 rfl (by kernel_rfl) (by kernel_rfl) (by kernel_rfl) rfl (fun _ _ _ _ h => h) rfl (fun K hK => ?_)
    refine quiet_agg 32 (.tmp 7) rfl _ rfl OC _ Try.underlying32 rfl (rop_size HDL.out) (fun W' h => KeepB.cells h HCO.out (HBO.out.lt)) ?_
    refine hK _ ?_
    simp only [Act.put, List.setIfInBounds_toArray, List.set_cons_succ, List.set_cons_zero]
    clear hK K
    refine bothM 4 9 rfl rfl (by kernel_rfl) rfl rfl (fun K hK => ?_) (fun K hK => ?_)
    · go_simp
      refine (HOP.out _).mono ?_
      rintro e w6 ⟨rfl, hx6⟩
      have HJ := Lib.hid (HJ.out.step hx6)
      have hkb := HJ.out.2
      have HJ := Lib.hid HJ.out.1
      refine hK _ _ (hkb) ?_
      clear hK K
      refine bothM 5 9 rfl rfl (by kernel_rfl) rfl rfl (fun K hK => ?_) (fun K hK => ?_)
      · go_simp
        refine (HN1.out w0 _ _ HOX.out HJ.out).mono ?_
        rintro e w7 ⟨R, v2, rfl, hR, hJ, hkb2⟩
        have HJ := Lib.hid hJ
        clear hJ
        have HRR := Lib.hid hR
        clear hR
        refine hK _ _ (hkb2) ?_
        clear hK K
        refine takeK 6 rfl (by kernel_rfl) (by kernel_rfl) (by kernel_rfl) rfl (fun _ _ _ _ h => h) rfl (fun K hK => ?_)
        go_big_quiet_op
        first | refine hK _ ?_ | refine ⟨_, fun _ _ => rfl, hK _ ?_⟩
        clear hK K
        refine takeK 7 rfl (by kernel_rfl) (by kernel_rfl) (by kernel_rfl) rfl (fun _ _ _ _ h => h) rfl (fun K hK => ?_)
        go_big_quiet_op
        first | refine hK _ ?_ | refine ⟨_, fun _ _ => rfl, hK _ ?_⟩
        clear hK K
        refine takeK 8 rfl (by kernel_rfl) (by kernel_rfl) (by kernel_rfl) rfl (fun _ _ _ _ h => h) rfl (fun K hK => ?_)
        go_big_quiet_op
        first | refine hK _ ?_ | refine ⟨_, fun _ _ => rfl, hK _ ?_⟩
        clear hK K
        refine stepM 9 rfl (by kernel_rfl) rfl (fun K hK => ?_)
        refine wp_alloc_agg 36 rfl Z hz ?_
        refine hK _ _ (HJ.out.keepAlloc _) ?_
        clear hK K
        (try simp only [Act.put, List.setIfInBounds_toArray, List.set_cons_succ, List.set_cons_zero])
        have HJ := Lib.hid HJ.out.alloc
        have hJf := HJ.out
        revert hJf
        generalize w7.alloc (.cells Z.toArray 36) = W9
        generalize w7.heap.size = g9
        intro hJf
        exact hM g9 R W9 ⟨v2, HRR.out, hJf⟩
      · refine wp_alloc_agg 36 rfl Z hz ?_
        refine hK _ _ (HJ.out.keepAlloc _) ?_
        clear hK K
        (try simp only [Act.put, List.setIfInBounds_toArray, List.set_cons_succ, List.set_cons_zero])
        have HJ := Lib.hid HJ.out.alloc
        refine stepM 5 rfl (by kernel_rfl) rfl (fun K hK => ?_)
        go_simp
        refine (HN1.out w0 _ _ HOX.out HJ.out).mono ?_
        rintro e w7 ⟨R, v2, rfl, hR, hJ, hkb2⟩
        have HJ := Lib.hid hJ
        clear hJ
        have HRR := Lib.hid hR
        clear hR
        refine hK _ _ (hkb2) ?_
        clear hK K
        refine takeK 6 rfl (by kernel_rfl) (by kernel_rfl) (by kernel_rfl) rfl (fun _ _ _ _ h => h) rfl (fun K hK => ?_)
        go_big_quiet_op
        first | refine hK _ ?_ | refine ⟨_, fun _ _ => rfl, hK _ ?_⟩
        clear hK K
        refine takeK 7 rfl (by kernel_rfl) (by kernel_rfl) (by kernel_rfl) rfl (fun _ _ _ _ h => h) rfl (fun K hK => ?_)
        go_big_quiet_op
        first | refine hK _ ?_ | refine ⟨_, fun _ _ => rfl, hK _ ?_⟩
        clear hK K
        refine takeK 8 rfl (by kernel_rfl) (by kernel_rfl) (by kernel_rfl) rfl (fun _ _ _ _ h => h) rfl (fun K hK => ?_)
        go_big_quiet_op
        first | refine hK _ ?_ | refine ⟨_, fun _ _ => rfl, hK _ ?_⟩
        clear hK K
        refine relist (by kernel_rfl) (hM _ R _ ⟨v2, HRR.out, HJ.out⟩)
    · refine wp_alloc_agg 36 rfl Z hz ?_
      refine hK _ _ (HJ.out.keepAlloc _) ?_
      clear hK K
      (try simp only [Act.put, List.setIfInBounds_toArray, List.set_cons_succ, List.set_cons_zero])
      have HJ := Lib.hid HJ.out.alloc
      refine stepM 4 rfl (by kernel_rfl) rfl (fun K hK => ?_)
      go_simp
      refine (HOP.out _).mono ?_
      rintro e w6 ⟨rfl, hx6⟩
      have HJ := Lib.hid (HJ.out.step hx6)
      have hkb := HJ.out.2
      have HJ := Lib.hid HJ.out.1
      refine hK _ _ (hkb) ?_
      clear hK K
      refine stepM 5 rfl (by kernel_rfl) rfl (fun K hK => ?_)
      go_simp
      refine (HN1.out w0 _ _ HOX.out HJ.out).mono ?_
      rintro e w7 ⟨R, v2, rfl, hR, hJ, hkb2⟩
      have HJ := Lib.hid hJ
      clear hJ
      have HRR := Lib.hid hR
      clear hR
      refine hK _ _ (hkb2) ?_
      clear hK K
      refine takeK 6 rfl (by kernel_rfl) (by kernel_rfl) (by kernel_rfl) rfl (fun _ _ _ _ h => h) rfl (fun K hK => ?_)
      go_big_quiet_op
      first | refine hK _ ?_ | refine ⟨_, fun _ _ => rfl, hK _ ?_⟩
      clear hK K
      refine takeK 7 rfl (by kernel_rfl) (by kernel_rfl) (by kernel_rfl) rfl (fun _ _ _ _ h => h) rfl (fun K hK => ?_)
      go_big_quiet_op
      first | refine hK _ ?_ | refine ⟨_, fun _ _ => rfl, hK _ ?_⟩
      clear hK K
      refine takeK 8 rfl (by kernel_rfl) (by kernel_rfl) (by kernel_rfl) rfl (fun _ _ _ _ h => h) rfl (fun K hK => ?_)
      go_big_quiet_op
      first | refine hK _ ?_ | refine ⟨_, fun _ _ => rfl, hK _ ?_⟩
      clear hK K
      refine relist (by kernel_rfl) (hM _ R _ ⟨v2, HRR.out, HJ.out⟩)
  rintro g R W ⟨v2, hR, hJ⟩
  have hgb := hJ.blk g rfl
  have hrl : R.length = 7 := by rw [hR]; rfl
  have hro : ∀ u ∈ R, u.oneCell' = true := by obtain ⟨A2, c2, h⟩ := hJ.own.form; rw [hR, h]; exact stc_one _ _ _ _
  have HRL := Lib.hid hrl
  have HGB := Lib.hid hgb
  have HJ := Lib.hid hJ
  have HRE := Lib.hid hR
  clear hrl hgb hJ hR
  refine stepM 10 rfl (by kernel_rfl) rfl (fun K hK => ?_)
  refine wp_store_row 36 (.tmp 10) (.tmp 31) rfl g rfl Z R _ rfl HGB.out.2 (state_size HRL.out) (by rw [HRL.out, HZL.out]) hro ?_
  refine hK _ _ (fun b hb => (setRow_only _).block _ (Nat.lt_of_lt_of_le hb HJ.out.ext.size) (by have := HGB.out.1; simp; omega)) ?_
  clear hK K
  (try simp only [Act.put, List.setIfInBounds_toArray, List.set_cons_succ, List.set_cons_zero])
  refine takeK 11 rfl (by kernel_rfl) (by kernel_rfl) (by kernel_rfl) rfl (fun _ _ _ _ h => h) rfl (fun K hK => ?_)
  go_big_quiet_op
  first | refine hK _ ?_ | refine ⟨_, fun _ _ => rfl, hK _ ?_⟩
  clear hK K
  refine doneM (by kernel_rfl) ?_ _
  have hg0 := HGB.out.1
  have hx0 := HX3.out.size
  have hbl := HBX.out.lt
  have hX8 : Ext w (W.setRow g R.toArray) := grown_then (HX3.out.trans HJ.out.ext) (setRow_only _) (.inr (by rintro b ⟨⟩; omega))
  have hR8 : Blk (W.setRow g R.toArray) g 36 R := setRow_at HGB.out.2
  have hbx : Blk (W.setRow g R.toArray) g7 36 XC := (HBX.out.keep HJ.out.ext (by simp)).keep (setRow_only _) (by simp; omega)
  have hb0 : Blk (W.setRow g R.toArray) w.heap.size 27 SC := (HBS.out.keep HJ.out.ext (by simp)).keep (setRow_only _) (by simp; omega)
  have hb1 : Blk (W.setRow g R.toArray) (w.heap.size + 1) 24 PC := (HBP.out.keep HJ.out.ext (by simp)).keep (setRow_only _) (by simp; omega)
  have hb2 : Blk (W.setRow g R.toArray) (w.heap.size + 2) 32 OC := (HBO.out.keep HJ.out.ext (by simp)).keep (setRow_only _) (by simp; omega)
  have hov2 : OwnC (W.setRow g R.toArray) v s.cs := (HOX.out.ext HJ.out.ext).keep (setRow_only _) (fun b hb e => by have h1 := HOX.out.lt b hb; cases e; omega)
  have hoy : OwnC (W.setRow g R.toArray) v2 n.cs := HJ.out.own.keep (setRow_only _) (fun b hb e => (HJ.out.far b hb).2 e.symm)
  have hfar : ∀ b, v2.ownBlock = some b → w.heap.size < b ∧ b ≠ g7 ∧ b ≠ g ∧ v.ownBlock ≠ some b := fun b hb => by
    have h1 := HJ.out.far b hb
    refine ⟨by omega, by omega, fun e => h1.2 (by rw [e]), fun e => ?_⟩
    have h2 := HOX.out.lt b e
    omega
  have HX8 := Lib.hid hX8
  have HR8 := Lib.hid hR8
  have HBX := Lib.hid hbx
  have HBS := Lib.hid hb0
  have hcs := hb0.cells
  have hcp := hb1.cells
  have hco := hb2.cells
  have HOX := Lib.hid hov2
  have HOY := Lib.hid hoy
  have HFA := Lib.hid hfar
  clear hX8 hR8 hbx hb0 hb1 hb2 hov2 hoy hfar HX3 HJ HGB HCX HCP HCO hg0 hx0 hbl HBP HBO
  have hw0 := HX8.out.size
  have hgW : g < (W.setRow g R.toArray).heap.size := HR8.out.lt
  generalize W.setRow g R.toArray = V at *
  go_wp2_with (first
    | (refine wpList_load_agg _ rfl 27 (.tmp 4) rfl _ rfl SC _ Try.underlying27 rfl (szSFrom HSL.out) hcs ?_)
    | (refine wpList_load_agg _ rfl 24 (.tmp 5) rfl _ rfl PC _ Try.underlying24 rfl (by rw [HPL.out]; kernel_rfl) hcp ?_)
    | (refine wpList_load_agg _ rfl 32 (.tmp 7) rfl _ rfl OC _ Try.underlying32 rfl (rop_size HDL.out) hco ?_)
    | fail)
  refine (HRN.out V HX8.out).mono ?_
  rintro e w5 ⟨R2, v3, rfl, hR2, ho3, hx5⟩
  have hr2o : ∀ u ∈ R2, u.oneCell' = true := by obtain ⟨A2, c2, h⟩ := ho3.2.form; rw [hR2, h]; exact stc_one _ _ _ _
  have hr2l : R2.length = 7 := by rw [hR2]; rfl
  obtain ⟨A2, c2, hv2⟩ := HOY.out.form
  subst hv2
  obtain ⟨ln, hln⟩ : ∃ ln, ln = List.length (α := Cd) n.cs := ⟨_, rfl⟩
  rw [← hln] at HRE HOY HFA
  have HR2L := Lib.hid hr2l
  have HR2E := Lib.hid hR2
  have hr6 : R[6]? = some (.slice A2 ln c2) := by rw [HRE.out]; rfl
  have HR6 := Lib.hid hr6
  have hxa : Ext V (w5.alloc (.cells R2.toArray 27)) := hx5.alloc _
  have hI : LInv w (w5.alloc (.cells R2.toArray 27)) SC XC R R2 g7 g w5.heap.size v (.slice A2 ln c2) v3 s n n.cs :=
    ⟨HX8.out.trans hxa, HBS.out.keep hxa (by simp), HBX.out.keep hxa (by simp), HR8.out.keep hxa (by simp), Blk.new _ _ _, HOX.out.ext hxa, HOY.out.ext hxa, ⟨ho3.1, ho3.2.ext ((Ext.refl _).alloc _)⟩, fun b hb => by
      obtain ⟨f1, f2, f3, f4⟩ := HFA.out b hb
      have h1 := HOY.out.lt b hb
      have h2 := hx5.size
      exact ⟨f1, f2, f3, by omega, f4, rows_apart (HOY.out.ext hx5) ho3 b hb⟩⟩
  have cy : (w5.alloc (.cells R2.toArray 27)).cell? ⟨g, 6, none⟩ = some (.slice A2 ln c2) := (hI.yb.cell 6).trans hr6
  have hl100 : ln ≤ 100 := by rw [hln]; exact HN8.out
  have HDL44 := Lib.hid hln
  have hokd : ∀ c ∈ n.cs, CondOk c := HOY.out.1
  have HOKD44 := Lib.hid hokd
  have HI := Lib.hid hI
  clear hI hr2l hR2 hr6 ho3 hx5 hxa hcs hcp hco hln hokd HR8 HBX HBS HOX HOY HFA
  go_wp2_with (first
    | (refine wpList_alloc _ rfl 27 rfl _ hzr ?_)
    | (refine wpList_store_new _ rfl 27 (.tmp 12) (.tmp 39) rfl rfl ZR R2 _ rfl (szSFrom HR2L.out) (by rw [HR2L.out, HZRL.out]) hr2o ?_)
    | fail)
  generalize w5.alloc (.cells R2.toArray 27) = w2 at *
  generalize w5.heap.size = g12 at *
  go_loopw [14, 44] (fun p i wr => ∃ j : Nat, j ≤ ln ∧ i = .int .i64 j ∧ LInv w wr SC XC R R2 g7 g g12 v (.slice A2 ln c2) v3 s n (flipM n.cs j) ∧ ∃ q, p = q) (fun _ i _ => ln - (intOf i).toNat)
  case atStart => exact ⟨0, by omega, rfl, by rw [flipM_zero]; exact HI.out, _, rfl⟩
  case round =>
    clear HI cy
    obtain ⟨j, hj, rfl, hI, q, rfl⟩ := hrel
    have HI := Lib.hid hI
    clear hI
    by_cases hlt : j < ln
    · have hlt' : j < List.length (α := Cd) n.cs := by rw [← HDL44.out]; exact hlt
      obtain ⟨gy, cap, hf, _⟩ := World.ownsRow.form HI.out.oy.2 (by rw [flipM_len]; omega)
      obtain ⟨hA2, hc2⟩ : A2 = some ⟨gy, 0, none⟩ ∧ c2 = cap := by injection hf with h1 h2 h3; exact ⟨h1, h3⟩
      subst hA2
      have hoy := HI.out.oy
      rw [HDL44.out] at hoy
      obtain ⟨ca, fa⟩ := turn_read hoy hlt'
      have hT := HI.out.turn HDL44.out hlt' HOKD44.out
      have hxx := xor_amount (x := (n.cs[j]).2.2.1) (by have := bounds_u64 (HOKD44.out _ (List.getElem_mem hlt')).am; omega)
      generalize (n.cs[j]).2.2.1 ^^^ 1 = y at *
      generalize (n.cs[j]).2.2.1 = x at *
      have cy : wr.cell? ⟨g, 6, none⟩ = some (.slice (some ⟨gy, 0, none⟩) ln c2) := (HI.out.yb.cell 6).trans HR6.out
      have HT := Lib.hid hT
      clear hT hoy
      go_wp2
      go_roundw
      case rel => exact ⟨j + 1, by omega, by go_num, HT.out, _, rfl⟩
      case measure => simp [intOf]; omega
    · obtain rfl : j = ln := by omega
      go_wp2
      have hI := HI.out.ext' (Ext.refl wr).drew
      have HI := Lib.hid hI
      clear hI
      refine startM Since (by kernel_rfl) ?_
      (try simp only [Act.put, List.setIfInBounds_toArray, List.set_cons_succ, List.set_cons_zero])
      generalize wr.drew = w0 at *
      have hxx : Ext w0 w0 := Ext.refl w0
      have hfx : ∀ W, Ext w0 W → Calls Try.prog 15 #[.agg XC.toArray] W fun e w' => ∃ u, e = .returned (.agg (stc s u).toArray) ∧ OwnFrom w' u s.cs ∧ Ext W w' := fun W h => HFX1.out W (HI.out.ox.ext h)
      have hsx : ∀ u W, OwnFrom W u s.cs → Ext w0 W → Calls Try.prog 14 #[.agg (stc s u).toArray, .agg SC.toArray] W fun e w' => e = .returned (.bool true) ∧ Ext W w' := fun u W h h' => HS1.out u W h (HI.out.ext.trans h')
      have HFX := Lib.hid hfx
      have HSX := Lib.hid hsx
      clear hfx hsx
      refine takeE 0 rfl (by kernel_rfl) (by kernel_rfl) (by kernel_rfl) rfl (fun _ _ _ _ h => h) rfl (fun K hK => ?_)
      refine quiet_agg 36 (.tmp 9) rfl _ rfl XC _ Try.underlying36 rfl (state_size HXL.out) (fun W' h => (HI.out.xb.keep (hxx.trans h.ext) (by simp)).cells) ?_
      refine hK _ ?_
      simp only [Act.put, List.setIfInBounds_toArray, List.set_cons_succ, List.set_cons_zero]
      clear hK K
      refine takeE 2 rfl (by kernel_rfl) (by kernel_rfl) (by kernel_rfl) rfl (fun _ _ _ _ h => h) rfl (fun K hK => ?_)
      refine quiet_agg 27 (.tmp 4) rfl _ rfl SC _ Try.underlying27 rfl (szSFrom HSL.out) (fun W' h => (HI.out.sc.keep (hxx.trans h.ext) (by simp)).cells) ?_
      refine hK _ ?_
      simp only [Act.put, List.setIfInBounds_toArray, List.set_cons_succ, List.set_cons_zero]
      clear hK K
      refine stepM 1 rfl (by kernel_rfl) rfl (fun K hK => ?_)
      go_simp
      refine (HFX.out _ hxx).mono ?_
      rintro e w' ⟨u, rfl, hou, hx'⟩
      have hk := hx'
      replace hxx := hxx.trans hx'
      clear hx'
      refine hK _ _ (hk) ?_
      clear hK K
      refine stepM 3 rfl (by kernel_rfl) rfl (fun K hK => ?_)
      go_simp
      refine (HSX.out u _ hou hxx).mono ?_
      rintro e w' ⟨rfl, hx'⟩
      have hk := hx'
      replace hxx := hxx.trans hx'
      clear hx'
      refine hK _ _ (hk) ?_
      clear hK K
      refine takeE 4 rfl (by kernel_rfl) (by kernel_rfl) (by kernel_rfl) rfl (fun _ _ _ _ h => h) rfl (fun K hK => ?_)
      go_big_quiet_op
      first | refine hK _ ?_ | refine ⟨_, fun _ _ => rfl, hK _ ?_⟩
      clear hK K
      refine doneM (by kernel_rfl) ?_ _
      have hI := HI.out.ext' hxx
      have HI := Lib.hid hI
      clear hI hxx
      obtain ⟨ds, hds⟩ : ∃ ds, ds = n.cs.map flipC := ⟨_, rfl⟩
      have hdl : j = List.length (α := Cd) ds := by rw [hds]; show j = (n.cs.map flipC).length; rw [List.length_map]; exact HDL44.out
      have hokd : ∀ c ∈ ds, CondOk c := by
        intro c hc
        rw [hds] at hc
        obtain ⟨d, hd, rfl⟩ := List.mem_map.1 hc
        exact flip_ok (HOKD44.out d hd)
      have hfl : flipM n.cs j = ds := by rw [hds, HDL44.out, flipM_all]
      have hbk : flipM ds j = n.cs := by rw [hdl, flipM_all, hds, flip_flip]
      rw [hfl] at HI
      have HDL64 := Lib.hid hdl
      have HOKD64 := Lib.hid hokd
      have HBK := Lib.hid hbk
      clear hds hdl hokd hfl hbk
      have cy : w'.cell? ⟨g, 6, none⟩ = some (.slice A2 j c2) := (HI.out.yb.cell 6).trans HR6.out
      generalize j = ln at *
      go_wp2
      go_loopw [16, 64] (fun p i wr => ∃ j : Nat, j ≤ ln ∧ i = .int .i64 j ∧ LInv w wr SC XC R R2 g7 g g12 v (.slice A2 ln c2) v3 s n (flipM ds j) ∧ ∃ q, p = q) (fun _ i _ => ln - (intOf i).toNat)
      case atStart => exact ⟨0, by omega, rfl, by rw [flipM_zero]; exact HI.out, _, rfl⟩
      case round =>
        clear HI cy
        obtain ⟨j, hj, rfl, hI, q, rfl⟩ := hrel
        have HI := Lib.hid hI
        clear hI
        by_cases hlt : j < ln
        · have hlt' : j < List.length (α := Cd) ds := by rw [← HDL64.out]; exact hlt
          obtain ⟨gy, cap, hf, _⟩ := World.ownsRow.form HI.out.oy.2 (by rw [flipM_len]; omega)
          obtain ⟨hA2, hc2⟩ : A2 = some ⟨gy, 0, none⟩ ∧ c2 = cap := by injection hf with h1 h2 h3; exact ⟨h1, h3⟩
          subst hA2
          have hoy := HI.out.oy
          rw [HDL64.out] at hoy
          obtain ⟨ca, fa⟩ := turn_read hoy hlt'
          have hT := HI.out.turn HDL64.out hlt' HOKD64.out
          have hxx := xor_amount (x := (ds[j]).2.2.1) (by have := bounds_u64 (HOKD64.out _ (List.getElem_mem hlt')).am; omega)
          generalize (ds[j]).2.2.1 ^^^ 1 = y at *
          generalize (ds[j]).2.2.1 = x at *
          have cy : wr.cell? ⟨g, 6, none⟩ = some (.slice (some ⟨gy, 0, none⟩) ln c2) := (HI.out.yb.cell 6).trans HR6.out
          have HT := Lib.hid hT
          clear hT hoy
          go_wp2
          go_roundw
          case rel => exact ⟨j + 1, by omega, by go_num, HT.out, _, rfl⟩
          case measure => simp [intOf]; omega
        · obtain rfl : j = ln := by omega
          go_wp2
          have hI := HI.out.ext' (Ext.refl wr).drew
          rw [HBK.out] at hI
          have HI := Lib.hid hI
          clear hI
          refine startM Since (by kernel_rfl) ?_
          (try simp only [Act.put, List.setIfInBounds_toArray, List.set_cons_succ, List.set_cons_zero])
          generalize wr.drew = w0 at *
          have hxx : Ext w0 w0 := Ext.refl w0
          have hfy : ∀ W, Ext w0 W → Calls Try.prog 15 #[.agg R.toArray] W fun e w' => ∃ u, e = .returned (.agg (stc n u).toArray) ∧ OwnFrom w' u n.cs ∧ Ext W w' := fun W h => by rw [HRE.out]; exact HF2.out _ W (HI.out.oy.ext h)
          have hsy : ∀ u W, OwnFrom W u n.cs → Ext w0 W → Calls Try.prog 14 #[.agg (stc n u).toArray, .agg R2.toArray] W fun e w' => e = .returned (.bool true) ∧ Ext W w' := fun u W h h' => by rw [HR2E.out]; exact HS2.out u _ W h ⟨HI.out.oz.1, HI.out.oz.2.ext h'⟩
          have HFY := Lib.hid hfy
          have HSY := Lib.hid hsy
          clear hfy hsy
          refine stepM 0 rfl (by kernel_rfl) rfl (fun K hK => ?_)
          go_simp
          refine (Awake _).mono ?_
          rintro e w' ⟨rfl, hx'⟩
          have hk := hx'
          replace hxx := hxx.trans hx'
          clear hx'
          refine hK _ _ (hk) ?_
          clear hK K
          refine takeE 1 rfl (by kernel_rfl) (by kernel_rfl) (by kernel_rfl) rfl (fun _ _ _ _ h => h) rfl (fun K hK => ?_)
          go_big_quiet_op
          first | refine hK _ ?_ | refine ⟨_, fun _ _ => rfl, hK _ ?_⟩
          clear hK K
          refine takeE 2 rfl (by kernel_rfl) (by kernel_rfl) (by kernel_rfl) rfl (fun _ _ _ _ h => h) rfl (fun K hK => ?_)
          go_big_quiet_op
          first | refine hK _ ?_ | refine ⟨_, fun _ _ => rfl, hK _ ?_⟩
          clear hK K
          refine takeE 3 rfl (by kernel_rfl) (by kernel_rfl) (by kernel_rfl) rfl (fun _ _ _ _ h => h) rfl (fun K hK => ?_)
          go_big_quiet_op
          first | refine hK _ ?_ | refine ⟨_, fun _ _ => rfl, hK _ ?_⟩
          clear hK K
          refine takeE 4 rfl (by kernel_rfl) (by kernel_rfl) (by kernel_rfl) rfl (fun _ _ _ _ h => h) rfl (fun K hK => ?_)
          go_big_quiet_op
          first | refine hK _ ?_ | refine ⟨_, fun _ _ => rfl, hK _ ?_⟩
          clear hK K
          refine takeE 5 rfl (by kernel_rfl) (by kernel_rfl) (by kernel_rfl) rfl (fun _ _ _ _ h => h) rfl (fun K hK => ?_)
          go_big_quiet_op
          first | refine hK _ ?_ | refine ⟨_, fun _ _ => rfl, hK _ ?_⟩
          clear hK K
          refine takeE 6 rfl (by kernel_rfl) (by kernel_rfl) (by kernel_rfl) rfl (fun _ _ _ _ h => h) rfl (fun K hK => ?_)
          go_big_quiet_op
          first | refine hK _ ?_ | refine ⟨_, fun _ _ => rfl, hK _ ?_⟩
          clear hK K
          refine takeE 7 rfl (by kernel_rfl) (by kernel_rfl) (by kernel_rfl) rfl (fun _ _ _ _ h => h) rfl (fun K hK => ?_)
          go_big_quiet_op
          first | refine hK _ ?_ | refine ⟨_, fun _ _ => rfl, hK _ ?_⟩
          clear hK K
          refine takeE 8 rfl (by kernel_rfl) (by kernel_rfl) (by kernel_rfl) rfl (fun _ _ _ _ h => h) rfl (fun K hK => ?_)
          go_big_quiet_op
          first | refine hK _ ?_ | refine ⟨_, fun _ _ => rfl, hK _ ?_⟩
          clear hK K
          refine takeE 9 rfl (by kernel_rfl) (by kernel_rfl) (by kernel_rfl) rfl (fun _ _ _ _ h => h) rfl (fun K hK => ?_)
          go_big_quiet_op
          first | refine hK _ ?_ | refine ⟨_, fun _ _ => rfl, hK _ ?_⟩
          clear hK K
          refine takeE 10 rfl (by kernel_rfl) (by kernel_rfl) (by kernel_rfl) rfl (fun _ _ _ _ h => h) rfl (fun K hK => ?_)
          refine quiet_agg 36 (.tmp 10) rfl _ rfl R _ Try.underlying36 rfl (state_size HRL.out) (fun W' h => (HI.out.yb.keep (hxx.trans h.ext) (by simp)).cells) ?_
          refine hK _ ?_
          simp only [Act.put, List.setIfInBounds_toArray, List.set_cons_succ, List.set_cons_zero]
          clear hK K
          refine takeE 12 rfl (by kernel_rfl) (by kernel_rfl) (by kernel_rfl) rfl (fun _ _ _ _ h => h) rfl (fun K hK => ?_)
          refine quiet_agg 27 (.tmp 12) rfl _ rfl R2 _ Try.underlying27 rfl (szSFrom HR2L.out) (fun W' h => (HI.out.zb.keep (hxx.trans h.ext) (by simp)).cells) ?_
          refine hK _ ?_
          simp only [Act.put, List.setIfInBounds_toArray, List.set_cons_succ, List.set_cons_zero]
          clear hK K
          refine stepM 11 rfl (by kernel_rfl) rfl (fun K hK => ?_)
          go_simp
          refine (HFY.out _ hxx).mono ?_
          rintro e w' ⟨u, rfl, hou, hx'⟩
          have hk := hx'
          replace hxx := hxx.trans hx'
          clear hx'
          refine hK _ _ (hk) ?_
          clear hK K
          refine stepM 13 rfl (by kernel_rfl) rfl (fun K hK => ?_)
          go_simp
          refine (HSY.out u _ hou hxx).mono ?_
          rintro e w' ⟨rfl, hx'⟩
          have hk := hx'
          replace hxx := hxx.trans hx'
          clear hx'
          refine hK _ _ (hk) ?_
          clear hK K
          refine takeE 14 rfl (by kernel_rfl) (by kernel_rfl) (by kernel_rfl) rfl (fun _ _ _ _ h => h) rfl (fun K hK => ?_)
          go_big_quiet_op
          first | refine hK _ ?_ | refine ⟨_, fun _ _ => rfl, hK _ ?_⟩
          clear hK K
          refine takeE 15 rfl (by kernel_rfl) (by kernel_rfl) (by kernel_rfl) rfl (fun _ _ _ _ h => h) rfl (fun K hK => ?_)
          go_big_quiet_op
          first | refine hK _ ?_ | refine ⟨_, fun _ _ => rfl, hK _ ?_⟩
          clear hK K
          refine doneM (by kernel_rfl) ?_ _
          go_wp2
          go_ret
          exact ⟨rfl, HI.out.ext.trans hxx⟩
end
section
open Go.RowKit

theorem next_err {s : St} {p0 p1 : Nat} {side : Int} {o : Wish} (h : (nextM s p0 p1 side o).2 ≠ 0) : (nextM s p0 p1 side o).1 = .zero := by
  unfold nextM at h ⊢
  split at h
  · rename_i h1; rw [if_pos h1]
  rename_i h1; rw [if_neg h1]
  split at h
  · rename_i h2; rw [if_pos h2]
  rename_i h2; rw [if_neg h2]
  split at h
  · rename_i h3; rw [if_pos h3]
  rename_i h3; rw [if_neg h3]
  split at h
  · rename_i h4; rw [if_pos h4]
  rename_i h4; rw [if_neg h4]
  split at h
  · rename_i h5; rw [if_pos h5]
  exact absurd rfl h
theorem next_ok {s : St} {p0 p1 : Nat} {side : Int} {o : Wish} (hs : StOk s) : StOk (nextM s p0 p1 side o).1 ∧ List.length (α := Cd) (nextM s p0 p1 side o).1.cs ≤ 100 := by
  by_cases hz : (nextM s p0 p1 side o).2 = 0
  · obtain ⟨h1, h2, h3, h4, h5, h6⟩ := next_zero hz
    obtain ⟨k1, k2, k3, k4⟩ := act_ok hs h4 (fun c hc => ((sound_zero h1).2.2.1 c hc).1) (h3 ▸ turn_side _)
    have h7 := (sound_zero h6).2.1
    refine ⟨?_, Nat.le_trans h7 (by omega)⟩
    rw [h5]
    exact ⟨k1.chan, by show s.round + 1 < M64; unfold M64; omega, k1.m0, k1.m1, k1.t0, k1.t1⟩
  · rw [next_err hz]
    exact ⟨⟨by decide, by decide, by decide, by decide, by decide, by decide⟩, by decide⟩
theorem PNextLaw (s : St) (v : Value) (p0 p1 : Nat) (side : Int) (o : Wish) (w : World) (F : Fp) (hs : StOk s) (hc : Conds w F v s.cs) (hF : ∀ b, F b → b < w.heap.size) (hp0 : p0 < M64) (hp1 : p1 < M64) (hok : CondOk o.c) (ham : o.am < M64) :
    Calls Try.prog 3 #[.agg (stc s v).toArray, .agg (ptc p0 p1).toArray, .int .i64 side, .agg (wishCells o).toArray] w fun e w' => e = .returned (.bool true) ∧ Ext w w' := by
  obtain ⟨A, c, xs, hv, hlc, hcm, _, _, _⟩ := conds_open hc
  by_cases h40 : 40 < List.length (α := Cd) s.cs
  · exact PNextLong w _ _ _ side A _ c h40 (by rw [hv]; rfl)
  obtain ⟨hnok, hn8⟩ := next_ok (s := s) (p0 := p0) (p1 := p1) (side := side) (o := o) hs
  have hlt : ∀ {W : World}, Ext w W → ∀ b, F b → b < W.heap.size := fun h b hb => Nat.lt_of_lt_of_le (hF b hb) h.size
  refine PNext1 w (stc s v) (ptc p0 p1) (wishCells o) zst zst side A (List.length (α := Cd) s.cs) c s (nextM s p0 p1 side o).1 (nextM s p0 p1 side o).2 (by omega) (by rw [hv]; rfl)
    ⟨state_zero, zSFrom, rfl, wishCells_len hok, rfl, rfl, fun W => Op12 o W hok⟩ rfl hn8 ?_ ?_ ?_ ?_ ?_ ?_ ?_
  · intro W hx
    refine (To12 s v W F (hx.holds hF hc) (hlt hx) (by omega)).mono ?_
    rintro e w' ⟨v', rfl, ho, hx', hn⟩
    exact ⟨v', rfl, ho, hx', hn⟩
  · intro v' w0 al W ho hJ
    refine (Next s v' p0 p1 side o W _ hs hp0 hp1 hok ham (OwnC.holds (ho.ext hJ.ext)) (OwnC.lt (ho.ext hJ.ext)) (by omega)).mono ?_
    rintro e w' ⟨v2, rfl, ho2, hx, hn⟩
    exact ⟨_, v2, rfl, rfl, hJ.own' hx ho2 hn⟩
  · intro W hx
    refine (RNext s v p0 p1 side o W F hs hp0 hp1 hok ham (hx.holds hF hc) (hlt hx)).mono ?_
    rintro e w' ⟨v3, rfl, ho, hx'⟩
    exact ⟨_, v3, rfl, rfl, ho, hx'⟩
  · intro v' W ho
    refine (From12 s v' W _ (OwnC.holds ho) (OwnC.lt ho) (by omega)).mono ?_
    rintro e w' ⟨u, rfl, hu, hx, _⟩
    exact ⟨u, rfl, hu, hx⟩
  · intro v' W ho
    refine (From12 (nextM s p0 p1 side o).1 v' W _ (OwnC.holds ho) (OwnC.lt ho) (by omega)).mono ?_
    rintro e w' ⟨u, rfl, hu, hx, _⟩
    exact ⟨u, rfl, hu, hx⟩
  · intro u W hu hx
    have h := RSame s s u v W (fun b => u.ownBlock = some b ∨ F b) hs hs (Ty.keep (fun _ _ => rfl) (fun b hb => .inl hb) _ (ownFrom_holds hu)) (Ty.keep (fun _ _ => rfl) (fun b hb => .inr hb) _ (hx.holds hF hc)) (fun b hb => hb.elim (ownFrom_lt hu b) (hlt hx b))
    rw [(sameM_iff s s).2 rfl] at h
    exact h
  · intro u v' W hu hv'
    have h := RSame _ _ u v' W (fun b => u.ownBlock = some b ∨ v'.ownBlock = some b) hnok hnok (Ty.keep (fun _ _ => rfl) (fun b hb => .inl hb) _ (ownFrom_holds hu)) (Ty.keep (fun _ _ => rfl) (fun b hb => .inr hb) _ (ownFrom_holds hv')) (fun b hb => hb.elim (ownFrom_lt hu b) (ownFrom_lt hv' b))
    rw [(sameM_iff _ _).2 rfl] at h
    exact h
end
end Go.Proofs.Ytnpolfihbfdggaa
