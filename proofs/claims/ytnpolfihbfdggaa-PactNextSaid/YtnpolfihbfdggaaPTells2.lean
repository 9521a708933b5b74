/- The law PactTells holds. Conditions: the numbers are in their bounds. -/
import Derived.Test.YtnpolfihbfdggaaPTells
import Derived.Test.YtnpolfihbfdggaaPArgs
set_option linter.unusedVariables false
set_option linter.unusedSimpArgs false
set_option linter.unnecessarySimpa false
namespace Go.Proofs.Ytnpolfihbfdggaa
open Go.RowKit

theorem held_over (cs : List Cd) (sd : Int) (h : (heldM cs sd).2 ≠ 0) : (heldM cs sd).1 = 0 := by
  rcases sumM_cases (ams cs sd) 0 (by decide) with ⟨m, _, e⟩ | e
  · exact absurd (show (sumM 0 (ams cs sd)).2 = 0 by rw [e]) h
  · show (sumM 0 (ams cs sd)).1 = 0
    rw [e]
theorem RSoundC (s : St) (v : Value) (p0 p1 : Nat) (w : World) (F : Fp) (hs : StOk s) (hp0 : p0 < M64) (hp1 : p1 < M64) (hc : Conds w F v s.cs) (hF : ∀ b, F b → b < w.heap.size) :
    Calls Try.prog 26 #[.agg (stc s v).toArray, .agg (ptc p0 p1).toArray] w fun e w' => e = .returned (.int .i64 (soundM s p0 p1)) ∧ Ext w w' := by
  refine RSound1 w (stc s v) (ptc p0 p1) v s.cs (soundM s p0 p1) (freeM s p0 p1 0) (freeM s p0 p1 1) s.round F ?_ rfl hc hF
  refine ⟨fun W h id => RFind s v id W F (h.holds hF hc) (fun b hb => Nat.lt_of_lt_of_le (hF b hb) h.size), fun W h => RFree s v p0 p1 0 W F hs hp0 hp1 (h.holds hF hc) (fun b hb => Nat.lt_of_lt_of_le (hF b hb) h.size),
    fun W h => RFree s v p0 p1 1 W F hs hp0 hp1 (h.holds hF hc) (fun b hb => Nat.lt_of_lt_of_le (hF b hb) h.size), rfl, rfl, rfl, fun h => ?_, fun h1 h2 => ?_, fun h1 h2 => ?_⟩
  · unfold soundM; rw [if_pos h]
  · unfold soundM; rw [if_neg h1, if_pos h2]
  · unfold soundM; rw [if_neg h1, if_neg (by omega)]
theorem TellsLaw (s t : St) (v u : Value) (p0 p1 : Nat) (sd : Int) (id : Nat) (w : World) (F : Fp) (hs : StOk s) (ht : StOk t) (hc : Conds w F v s.cs) (hd : Conds w F u t.cs) (hF : ∀ b, F b → b < w.heap.size) (hp0 : p0 < M64) (hp1 : p1 < M64) :
    Calls Try.prog 6 #[.agg (stc s v).toArray, .agg (stc t u).toArray, .agg (ptc p0 p1).toArray, .int .i64 sd, .int .u64 (id : Int)] w fun e w' => e = .returned (.bool true) ∧ Ext w w' := by
  obtain ⟨A, c, xs, hv, hlc, hcm, _, _, _⟩ := conds_open hc
  obtain ⟨B, d, ys, hu, hld, hdm, _, _, _⟩ := conds_open hd
  by_cases h40 : 40 < List.length (α := Cd) s.cs ∨ 40 < List.length (α := Cd) t.cs
  · exact TellsLong w _ _ _ sd id A B _ c _ d h40 (by rw [hv]; rfl) (by rw [hu]; rfl)
  have h41 : List.length (α := Cd) s.cs ≤ 40 := Nat.le_of_not_lt fun h => h40 (.inl h)
  have h42 : List.length (α := Cd) t.cs ≤ 40 := Nat.le_of_not_lt fun h => h40 (.inr h)
  have hlt : ∀ {W : World}, Ext w W → ∀ b, F b → b < W.heap.size := fun h b hb => Nat.lt_of_lt_of_le (hF b hb) h.size
  refine Tells1 w s t (stc s v) (stc t u) (ptc p0 p1) sd id s.round (heldM s.cs sd).1 (heldM s.cs sd).2 (freeM s p0 p1 sd).1 (freeM s p0 p1 sd).2 (soundM s p0 p1) (findM s.cs id) (sameM s t) (turnM s.round) A B (List.length (α := Cd) s.cs) c (List.length (α := Cd) t.cs) d zst state_zero rfl h41 h42 (by rw [hv]; rfl) (by rw [hu]; rfl) ?_
  refine ⟨rfl, rfl, rfl, ?_, ?_, ?_, ?_, ?_, ?_, ?_, ?_, ?_, ?_, ?_, ?_, ?_, ?_, ?_, ?_, rfl, rfl, held_over _ _⟩
  · intro W h
    refine (To12 s v W F (h.holds hF hc) (hlt h) (by omega)).mono ?_
    rintro e w' ⟨v', rfl, ho, hx, _⟩
    exact ⟨v', rfl, ho, hx⟩
  · intro W h
    refine (To12 t u W F (h.holds hF hd) (hlt h) (by omega)).mono ?_
    rintro e w' ⟨v', rfl, ho, hx, _⟩
    exact ⟨v', rfl, ho, hx⟩
  · exact fun v W ho => Held s v sd W _ (OwnC.holds ho) (OwnC.lt ho) (by omega)
  · exact fun W h => RHeld s v sd W F (h.holds hF hc) (hlt h)
  · exact fun v W ho => Free s v p0 p1 sd W _ hs hp0 hp1 (OwnC.holds ho) (OwnC.lt ho) (by omega)
  · exact fun W h => RFree s v p0 p1 sd W F hs hp0 hp1 (h.holds hF hc) (hlt h)
  · exact fun v W ho => Sound s v p0 p1 W _ hs hp0 hp1 (OwnC.holds ho) (OwnC.lt ho) (by omega)
  · exact fun W h => RSoundC s v p0 p1 W F hs hp0 hp1 (h.holds hF hc) (hlt h)
  · exact fun v W ho => Find s v id W _ (OwnC.holds ho) (OwnC.lt ho)
  · exact fun W h => RFind s v id W F (h.holds hF hc) (hlt h)
  · intro v u W ho hu
    refine Same s t v u W (fun b => v.ownBlock = some b ∨ u.ownBlock = some b) hs ht (Ty.keep (fun _ _ => rfl) (fun b hb => .inl hb) _ (OwnC.holds ho)) (Ty.keep (fun _ _ => rfl) (fun b hb => .inr hb) _ (OwnC.holds hu)) (fun b hb => hb.elim (OwnC.lt ho b) (OwnC.lt hu b))
  · exact fun W h => RSame s t v u W F hs ht (h.holds hF hc) (h.holds hF hd) (hlt h)
  · intro v W ho
    refine (Twin s v W _ (OwnC.holds ho) (OwnC.lt ho) (by omega)).mono ?_
    rintro e w' ⟨v', rfl, ho', hx, _⟩
    exact ⟨v', rfl, ho', hx⟩
  · intro v u W ho hu
    have h := Same s s v u W (fun b => v.ownBlock = some b ∨ u.ownBlock = some b) hs hs (Ty.keep (fun _ _ => rfl) (fun b hb => .inl hb) _ (OwnC.holds ho)) (Ty.keep (fun _ _ => rfl) (fun b hb => .inr hb) _ (OwnC.holds hu)) (fun b hb => hb.elim (OwnC.lt ho b) (OwnC.lt hu b))
    rw [(sameM_iff s s).2 rfl] at h
    exact h
  · exact fun W => Turn s.round W hs.round
  · exact fun W => RTurn s.round W hs.round
end Go.Proofs.Ytnpolfihbfdggaa
