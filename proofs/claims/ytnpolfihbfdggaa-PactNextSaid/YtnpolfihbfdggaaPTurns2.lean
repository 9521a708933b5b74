/- The law PactTurns holds. Conditions: the numbers are in their bounds. -/
import Derived.Test.YtnpolfihbfdggaaPTurns
import Derived.Test.YtnpolfihbfdggaaPArgs
set_option linter.unusedVariables false
set_option linter.unusedSimpArgs false
set_option linter.unnecessarySimpa false
namespace Go.Proofs.Ytnpolfihbfdggaa
open Go.RowKit

theorem next_zero {s : St} {p0 p1 : Nat} {side : Int} {o : Wish} (h : (nextM s p0 p1 side o).2 = 0) :
    soundM s p0 p1 = 0 ∧ s.round < 200 ∧ side = turnM (s.round + 1) ∧ (actM s p0 p1 side o).2 = 0 ∧ (nextM s p0 p1 side o).1 = { (actM s p0 p1 side o).1 with round := s.round + 1 } ∧ soundM (nextM s p0 p1 side o).1 p0 p1 = 0 := by
  unfold nextM at h ⊢
  split at h
  · rename_i h1; exact absurd h h1
  rename_i h1; rw [if_neg h1]
  split at h
  · cases h
  rename_i h2; rw [if_neg h2]
  split at h
  · cases h
  rename_i h3; rw [if_neg h3]
  split at h
  · rename_i h4; exact absurd h h4
  rename_i h4; rw [if_neg h4]
  split at h
  · rename_i h5; exact absurd h h5
  rename_i h5; rw [if_neg h5]
  exact ⟨by omega, by omega, by omega, by omega, rfl, Decidable.of_not_not h5⟩
theorem next_other {s : St} {p0 p1 : Nat} {o : Wish} : (nextM s p0 p1 (1 - turnM (s.round + 1)) o).2 ≠ 0 := by
  intro h
  have h1 := (next_zero h).2.2.1
  rcases turn_side (s.round + 1) with e | e <;> rw [e] at h1 <;> omega
theorem next_other26 {s : St} {p0 p1 : Nat} {o : Wish} (h1 : soundM s p0 p1 = 0) (h2 : s.round < 200) : (nextM s p0 p1 (1 - turnM (s.round + 1)) o).2 = 26 := by
  unfold nextM
  rw [if_neg (by omega), if_neg (by omega), if_pos]
  rcases turn_side (s.round + 1) with e | e <;> rw [e] <;> omega
theorem wrap_u64n (a b : Nat) : IntKind.u64.wrap ((a : Int) + (b : Int)) = (((a + b) % 18446744073709551616 : Nat) : Int) := by
  show (((a : Int) + (b : Int)) % (2 ^ 64 : Int)) = _
  omega
theorem turn_mod (r : Nat) : turnM (r % 18446744073709551616) = turnM r := by
  unfold turnM
  have : r % 18446744073709551616 % 2 = r % 2 := Nat.mod_mod_of_dvd _ (by decide)
  rw [this]
theorem turn_flip (r : Nat) : turnM r = 1 - turnM (r + 1) := by
  unfold turnM
  by_cases h : r % 2 = 1
  · rw [if_pos h, if_neg (by omega)]; rfl
  · rw [if_neg h, if_pos (by omega)]; rfl
theorem TurnsLaw (s : St) (v : Value) (o : Wish) (p0 p1 : Nat) (w : World) (F : Fp) (hs : StOk s) (hc : Conds w F v s.cs) (hF : ∀ b, F b → b < w.heap.size) (hp0 : p0 < M64) (hp1 : p1 < M64) (hok : CondOk o.c) (ham : o.am < M64) :
    Calls Try.prog 5 #[.agg (stc s v).toArray, .agg (ptc p0 p1).toArray, .agg (wishCells o).toArray] w fun e w' => e = .returned (.bool true) ∧ Ext w w' := by
  obtain ⟨A, c, xs, hv, hlc, hcm, _, _, _⟩ := conds_open hc
  by_cases h40 : 40 < List.length (α := Cd) s.cs
  · exact TurnsLong w _ _ _ A _ c h40 (by rw [hv]; rfl)
  obtain ⟨b, hb⟩ : ∃ b, b = turnM (s.round + 1) := ⟨_, rfl⟩
  have hb01 : b = 0 ∨ b = 1 := hb ▸ turn_side _
  have hokb : CondOk ((o.c.1, b, o.c.2.2) : Cd) := ⟨hok.id, by rcases hb01 with e | e <;> (show (Lit.int .i64 b).wf = true; rw [e]; decide), hok.am, hok.hash, hok.exp⟩
  have hr := hs.round
  unfold M64 at hr
  have t1 : turnM ((s.round + 1) % 18446744073709551616) = b := by rw [turn_mod, hb]
  have t2 : turnM ((s.round + 2) % 18446744073709551616) = 1 - b := by
    rw [turn_mod]
    have h := turn_flip (s.round + 1)
    have e : s.round + 1 + 1 = s.round + 2 := rfl
    rw [e] at h
    omega
  have t0 : turnM s.round = 1 - b := by rw [turn_flip s.round, hb]
  refine Turns1 b hb01 w (stc s v) (ptc p0 p1) (wishCells o) (wishCells { o with c := (o.c.1, b, o.c.2.2) }) zst A (List.length (α := Cd) s.cs) c s.chan s.round ((s.round + 1) % 18446744073709551616) ((s.round + 2) % 18446744073709551616) s
    (nextM s p0 p1 b { o with c := (o.c.1, b, o.c.2.2) }).1 (nextM s p0 p1 (1 - b) { o with c := (o.c.1, b, o.c.2.2) }).1 (nextM s p0 p1 b { o with c := (o.c.1, b, o.c.2.2) }).2 (nextM s p0 p1 (1 - b) { o with c := (o.c.1, b, o.c.2.2) }).2
    (by omega) (by rw [hv]; rfl) ?_ ?_ rfl rfl rfl ?_ ?_ ?_ ?_
  · refine ⟨state_zero, rfl, wishCells_len hokb, rfl, fun W => Op12 { o with c := (o.c.1, b, o.c.2.2) } W hokb, rfl, ⟨_, rfl⟩, fun W => ?_, fun W => ?_, fun W => ?_, ?_, ?_⟩
    · rw [← t1]; exact Turn _ W (Nat.mod_lt _ (by decide))
    · rw [← t2]; exact Turn _ W (Nat.mod_lt _ (by decide))
    · rw [← t0]; exact Turn _ W hs.round
    · exact wrap_u64n s.round 1
    · exact wrap_u64n s.round 2
  · intro W hx
    refine (To12 s v W F (hx.holds hF hc) (fun b hb => Nat.lt_of_lt_of_le (hF b hb) hx.size) (by omega)).mono ?_
    rintro e w' ⟨v', rfl, ho, hx', hn⟩
    exact ⟨v', rfl, ho, hx', hn⟩
  · intro v' w0 al W ho hJ
    refine (Next s v' p0 p1 b { o with c := (o.c.1, b, o.c.2.2) } W _ hs hp0 hp1 hokb ham (OwnC.holds (ho.ext hJ.ext)) (OwnC.lt (ho.ext hJ.ext)) (by omega)).mono ?_
    rintro e w' ⟨v2, rfl, ho2, hx, hn⟩
    exact ⟨_, v2, rfl, rfl, hJ.own' hx ho2 hn⟩
  · intro v' w0 al W ho hJ
    refine (Next s v' p0 p1 (1 - b) { o with c := (o.c.1, b, o.c.2.2) } W _ hs hp0 hp1 hokb ham (OwnC.holds (ho.ext hJ.ext)) (OwnC.lt (ho.ext hJ.ext)) (by omega)).mono ?_
    rintro e w' ⟨v2, rfl, ho2, hx, hn⟩
    exact ⟨_, v2, rfl, rfl, hJ.own' hx ho2 hn⟩
  · intro hz
    obtain ⟨h1, h2, h3, h4, h5, _⟩ := next_zero hz
    obtain ⟨_, _, hch, _⟩ := act_ok hs h4 (fun c hc => ((sound_zero h1).2.2.1 c hc).1) hb01
    refine ⟨?_, ?_, ?_⟩
    · rw [h5, Nat.mod_eq_of_lt (by omega)]
    · rw [h5]; exact hch
    · rw [hb]; exact next_other26 h1 h2
  · rw [hb]; exact next_other
end Go.Proofs.Ytnpolfihbfdggaa
