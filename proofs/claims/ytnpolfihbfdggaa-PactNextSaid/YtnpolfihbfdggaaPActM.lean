/- The contract of the pact's act. Conditions: the numbers are in their bounds; the payments lie in a row of their own; each is of a side. -/
import Derived.Test.YtnpolfihbfdggaaPActD
set_option linter.unusedVariables false
set_option linter.unusedSimpArgs false
set_option linter.unnecessarySimpa false
namespace Go.Proofs.Ytnpolfihbfdggaa
open Go.RowKit

theorem act_in (s : St) (A : Option Addr) (n c : Nat) (p0 p1 : Nat) {o : Wish} (hok : CondOk o.c) : ActIn (stc s (.slice A n c)) (ptc p0 p1) (wishCells o) zst :=
  ⟨rfl, rfl, wishCells_len hok, rfl, state_zero, by decide, stc_one s A n c, rfl⟩
theorem zero_out (w w' : World) (v : Value) (z : Int) (e : Ending) (hx : Ext w w') (he : e = .returned (.tuple #[.agg zst.toArray, .int .i64 z])) :
    ∃ v', e = .returned (.tuple #[stv St.zero v', .int .i64 z]) ∧ OwnC w' v' St.zero.cs ∧ Moved w w' v v' :=
  ⟨.slice none 0 0, by rw [he]; rfl, ⟨by simp [St.zero], Own.nil _ _ _⟩, ⟨Ext.any hx _, .inr (by simp [Value.ownBlock])⟩⟩
theorem addM_nz {a b : Nat} (h : (addM a b).2 ≠ 0) : ¬ a + b < M64 := fun h' => h (by unfold addM; rw [if_pos h'])
theorem addM_z {a b : Nat} (h : (addM a b).2 = 0) : a + b < M64 := by
  by_cases h' : a + b < M64
  · exact h'
  · unfold addM at h; rw [if_neg h'] at h; cases h
theorem cond_am_lt {c : Cd} (h : CondOk c) : c.2.2.1 < M64 := by have := bounds_u64 h.am; unfold M64; omega
theorem act_lock (s : St) (p0 p1 : Nat) (side : Int) (o : Wish) (hk : o.kind = 2) : actM s p0 p1 side o = lockM s p0 p1 side o.c := by
  unfold actM lockM
  rw [if_neg (by omega), if_neg (by omega), if_neg (by omega), if_pos hk]
/-- The row of what is left lies elsewhere than the blocks between. -/
theorem own_stay {w W w1 : World} {v v' : Value} {k : Nat} (hlt : ∀ g, v.ownBlock = some g → g < w.heap.size) (hW : w.heap.size + k ≤ W.heap.size) (hm : Moved W w1 v v') : ∀ g, v'.ownBlock = some g → g < w.heap.size ∨ w.heap.size + k ≤ g := fun g hg => by
  rcases hm.at_ with e | h
  · exact .inl (hlt g (e ▸ hg))
  · right; have := h g hg; omega
set_option maxHeartbeats 1000000 in
theorem Act (s : St) (v : Value) (p0 p1 : Nat) (side : Int) (o : Wish) (w : World) (hs : StOk s) (hp0 : p0 < M64) (hp1 : p1 < M64) (hok : CondOk o.c) (ham : o.am < M64) (hsd : side = 0 ∨ side = 1) (ho : OwnC w v s.cs) (hlen : List.length (α := Cd) s.cs ≤ 4398046511104)
    (hside : ∀ c ∈ s.cs, c.2.1 = 0 ∨ c.2.1 = 1) :
    Calls Try.prog 34 #[stv s v, .agg #[.int .u64 (p0 : Int), .int .u64 (p1 : Int)], .int .i64 side, .agg (wishCells o).toArray] w fun e w' => ∃ v', e = .returned (.tuple #[stv (actM s p0 p1 side o).1 v', .int .i64 (actM s p0 p1 side o).2]) ∧ OwnC w' v' (actM s p0 p1 side o).1.cs ∧ Moved w w' v v' := by
  have hlt := ho.lt
  have hcd := ho.holds
  obtain ⟨A, c, hv⟩ := ho.form
  have hin : ActIn (stc s v) (ptc p0 p1) (wishCells o) zst := by rw [hv]; exact act_in s A _ c p0 p1 hok
  have o0 : (wishCells o)[0]? = some (.int .i64 o.kind) := rfl
  have o1 : (wishCells o)[1]? = some (.int .u64 (o.am : Int)) := rfl
  have o38 : (wishCells o)[38]? = some (.int .u64 (o.id : Int)) := by
    have h36 := condCells_len hok
    unfold wishCells
    rw [List.getElem?_cons_succ, List.getElem?_cons_succ, List.getElem?_append_right (by omega), h36]
    rfl
  have hspd : ∀ W, Ext w W → Calls Try.prog 46 #[.agg (stc s v).toArray, .agg (ptc p0 p1).toArray, .int .i64 side, .int .u64 (o.am : Int)] W fun e w' => e = .returned (.int .i64 (spendM s p0 p1 side o.am)) ∧ Ext W w' := fun W h =>
    Spend s v p0 p1 side o.am W _ hs hp0 hp1 ham hsd (h.holds hlt hcd) (fun b hb => Nat.lt_of_lt_of_le (hlt b hb) h.size) hlen
  show Calls Try.prog 34 #[.agg (stc s v).toArray, .agg (ptc p0 p1).toArray, .int .i64 side, .agg (wishCells o).toArray] w _
  by_cases k0 : o.kind = 0
  · rw [show actM s p0 p1 side o = (s, 0) by unfold actM; rw [if_pos k0]]
    refine (Act0 w _ _ _ _ side hin (by rw [o0, k0])).mono ?_
    rintro e w' ⟨hx, he⟩
    exact ⟨v, he, ho.ext hx, ⟨hx.any _, .inl rfl⟩⟩
  by_cases k1 : o.kind = 1
  · have hE : actM s p0 p1 side o = if spendM s p0 p1 side o.am ≠ 0 then (.zero, spendM s p0 p1 side o.am)
        else if (addM (pick2 s.m0 s.m1 side) o.am).2 ≠ 0 then (.zero, 11)
        else (if side = 0 then { s with m0 := s.m0 + o.am } else { s with m1 := s.m1 + o.am }, 0) := by unfold actM; rw [if_neg k0, if_pos k1]
    rw [hE]
    rcases hsd with rfl | rfl
    · refine (Act1_0 o.am s.m0 _ w _ _ _ _ hin (by rw [o0, k1]) o1 rfl hs.m0 ham hspd).mono ?_
      rintro e w' ⟨hx, ⟨hz, he⟩ | ⟨hz, ha, he⟩ | ⟨hz, ha, he⟩⟩
      · rw [if_pos hz]; exact zero_out w w' v _ e hx he
      · rw [if_neg (by simp [hz]), if_pos (by simpa [pick2] using ha)]; exact zero_out w w' v _ e hx he
      · rw [if_neg (by simp [hz]), if_neg (by simpa [pick2] using ha), if_pos rfl]; exact ⟨v, he, ho.ext hx, ⟨hx.any _, .inl rfl⟩⟩
    · refine (Act1_1 o.am s.m1 _ w _ _ _ _ hin (by rw [o0, k1]) o1 rfl hs.m1 ham hspd).mono ?_
      rintro e w' ⟨hx, ⟨hz, he⟩ | ⟨hz, ha, he⟩ | ⟨hz, ha, he⟩⟩
      · rw [if_pos hz]; exact zero_out w w' v _ e hx he
      · rw [if_neg (by simp [hz]), if_pos (by simpa [pick2] using ha)]; exact zero_out w w' v _ e hx he
      · rw [if_neg (by simp [hz]), if_neg (by simpa [pick2] using ha), if_neg (by decide)]; exact ⟨v, he, ho.ext hx, ⟨hx.any _, .inl rfl⟩⟩
  by_cases k5 : o.kind = 5
  · have hE : actM s p0 p1 side o = if spendM s p0 p1 side o.am ≠ 0 then (.zero, spendM s p0 p1 side o.am)
        else if (addM (pick2 s.t0 s.t1 side) o.am).2 ≠ 0 then (.zero, 11)
        else (if side = 0 then { s with t0 := s.t0 + o.am } else { s with t1 := s.t1 + o.am }, 0) := by unfold actM; rw [if_neg k0, if_neg k1, if_pos k5]
    rw [hE]
    rcases hsd with rfl | rfl
    · refine (Act5_0 o.am s.t0 _ w _ _ _ _ hin (by rw [o0, k5]) o1 rfl hs.t0 ham hspd).mono ?_
      rintro e w' ⟨hx, ⟨hz, he⟩ | ⟨hz, ha, he⟩ | ⟨hz, ha, he⟩⟩
      · rw [if_pos hz]; exact zero_out w w' v _ e hx he
      · rw [if_neg (by simp [hz]), if_pos (by simpa [pick2] using ha)]; exact zero_out w w' v _ e hx he
      · rw [if_neg (by simp [hz]), if_neg (by simpa [pick2] using ha), if_pos rfl]; exact ⟨v, he, ho.ext hx, ⟨hx.any _, .inl rfl⟩⟩
    · refine (Act5_1 o.am s.t1 _ w _ _ _ _ hin (by rw [o0, k5]) o1 rfl hs.t1 ham hspd).mono ?_
      rintro e w' ⟨hx, ⟨hz, he⟩ | ⟨hz, ha, he⟩ | ⟨hz, ha, he⟩⟩
      · rw [if_pos hz]; exact zero_out w w' v _ e hx he
      · rw [if_neg (by simp [hz]), if_pos (by simpa [pick2] using ha)]; exact zero_out w w' v _ e hx he
      · rw [if_neg (by simp [hz]), if_neg (by simpa [pick2] using ha), if_neg (by decide)]; exact ⟨v, he, ho.ext hx, ⟨hx.any _, .inl rfl⟩⟩
  by_cases k2 : o.kind = 2
  · rw [act_lock s p0 p1 side o k2]
    refine (Act2 w _ _ _ _ (condCells o.c) [.int .u64 (o.id : Int)] side (fun W w' R z => ∃ v', R = stc (lockM s p0 p1 side o.c).1 v' ∧ z = (lockM s p0 p1 side o.c).2 ∧ OwnC w' v' (lockM s p0 p1 side o.c).1.cs ∧ Moved W w' v v') hin (by rw [o0, k2]) rfl (condCells_len hok) v.ownBlock hlt ?_).mono ?_
    · intro W hW
      refine (Lock s v p0 p1 side o.c W hs hp0 hp1 hok hsd (ho.ext hW) hlen).mono ?_
      rintro e w' ⟨v', rfl, ho', hm⟩
      have ho2 := ho'
      obtain ⟨A2, c2, rfl⟩ := ho'.form
      exact ⟨stc (lockM s p0 p1 side o.c).1 _, _, rfl, rfl, stc_one _ _ _ _, hm.grown, _, rfl, rfl, ho2, hm⟩
    · rintro e w' ⟨W, w1, R, z, hx, hsz, hg, ⟨v', rfl, rfl, ho', hm⟩, hg2, he⟩
      have hst := own_stay hlt hsz hm
      exact ⟨v', he, ho'.keep hg2 (fun g hg => by have := hst g hg; simp; omega), ⟨grown_then (Moved.pre hx hm).grown hg2 (.inr (by rintro g ⟨⟩; omega)), (Moved.pre hx hm).at_⟩⟩
  have hdr : ∀ W, Ext w W → Calls Try.prog 49 #[.agg (stc s v).toArray, .int .u64 (o.id : Int)] W fun e w' => ∃ (R C : List Value) (z cs : Int) (am m : Nat), e = .returned (.tuple #[.agg R.toArray, .agg C.toArray, .int .i64 z]) ∧ R.length = 7 ∧ C.length = 36 ∧ (∀ u ∈ R, u.oneCell' = true) ∧ (∀ u ∈ C, u.oneCell' = true) ∧ W.grownBy w' v.ownBlock ∧
      (z = 0 → (cs = 0 ∨ cs = 1) ∧ C[1]? = some (.int .i64 cs) ∧ C[2]? = some (.int .u64 (am : Int)) ∧ R[2 + cs.toNat]? = some (.int .u64 (m : Int)) ∧ m < M64 ∧ am < M64) ∧
      (∃ (s' : St) (ck : Cd) (v' : Value), R = stc s' v' ∧ OwnC w' v' s'.cs ∧ Moved W w' v v' ∧ cs = ck.2.1 ∧ am = ck.2.2.1 ∧ m = pick2 s.m0 s.m1 ck.2.1 ∧
        ((findM s.cs o.id < 0 ∧ s' = .zero ∧ z = 6) ∨ (0 ≤ findM s.cs o.id ∧ z = 0 ∧ s.cs[(findM s.cs o.id).toNat]? = some ck ∧ s' = { s with cs := s.cs.eraseIdx (findM s.cs o.id).toNat }))) := by
    intro W hW
    refine (Drop s v o.id W (ho.ext hW) hlen).mono ?_
    rintro e w' ⟨s', ck, z, v', rfl, hcl, ho', hm, hcase⟩
    have ho2 := ho'
    obtain ⟨A2, c2, hv2⟩ := ho'.form
    refine ⟨stc s' v', condCells ck, z, ck.2.1, ck.2.2.1, pick2 s.m0 s.m1 ck.2.1, rfl, rfl, hcl, by rw [hv2]; exact stc_one _ _ _ _, condCells_one _, hm.grown, ?_, s', ck, v', rfl, ho2, hm, rfl, rfl, rfl, hcase⟩
    intro hz
    rcases hcase with ⟨_, _, h6⟩ | ⟨_, _, hck, hs'⟩
    · omega
    · have hmem := List.mem_of_getElem? hck
      have hsd' := hside _ hmem
      refine ⟨hsd', rfl, rfl, ?_, ?_, cond_am_lt (ho.1 _ hmem)⟩
      · rw [hs']
        rcases hsd' with h | h <;> rw [h] <;> rfl
      · have h1 := hs.m0
        have h2 := hs.m1
        unfold pick2
        split <;> assumption
  by_cases k4 : o.kind = 4
  · refine (Act4 o.id w _ _ _ _ (condCells zcd) side (fun W w' R _ z cs am m => ∃ s' ck v', R = stc s' v' ∧ OwnC w' v' s'.cs ∧ Moved W w' v v' ∧ cs = ck.2.1 ∧ am = ck.2.2.1 ∧ m = pick2 s.m0 s.m1 ck.2.1 ∧
        ((findM s.cs o.id < 0 ∧ s' = .zero ∧ z = 6) ∨ (0 ≤ findM s.cs o.id ∧ z = 0 ∧ s.cs[(findM s.cs o.id).toNat]? = some ck ∧ s' = { s with cs := s.cs.eraseIdx (findM s.cs o.id).toNat }))) hin cond_zero rfl (by rw [o0, k4]) o38 v.ownBlock hlt hdr).mono ?_
    rintro e w' ⟨W, w1, R, C, z, cs, am, m, hx, hsz, hg, ⟨s', ck, v', rfl, ho', hm, _, _, _, hcase⟩, hp, he⟩
    have hst := own_stay hlt hsz hm
    have h1 : OwnC w' v' s'.cs := hp (fun x => OwnC x v' s'.cs) (fun a b g g1 g2 hab h => h.keep hab (fun g' hg' => by have := hst g' hg'; simp; omega)) ho'
    have h2 : w.grownBy w' v.ownBlock := hp (fun x => w.grownBy x v.ownBlock) (fun a b g g1 g2 hab h => grown_then h hab (.inr (by rintro g' ⟨⟩; omega))) (Moved.pre hx hm).grown
    rcases hcase with ⟨hf, rfl, rfl⟩ | ⟨hf, rfl, hck, rfl⟩
    · rw [show actM s p0 p1 side o = (.zero, 6) by unfold actM; rw [if_neg k0, if_neg k1, if_neg k5, if_neg k2, if_pos (.inr k4), if_pos hf]]
      exact ⟨v', he, h1, h2, (Moved.pre hx hm).at_⟩
    · rw [show actM s p0 p1 side o = ({ s with cs := s.cs.eraseIdx (findM s.cs o.id).toNat }, 0) by unfold actM; rw [if_neg k0, if_neg k1, if_neg k5, if_neg k2, if_pos (.inr k4), if_neg (by omega), hck]; simp only; rw [if_pos k4]]
      exact ⟨v', he, h1, h2, (Moved.pre hx hm).at_⟩
  by_cases k3 : o.kind = 3
  · refine (Act3 o.id w _ _ _ _ (condCells zcd) side (fun W w' R _ z cs am m => ∃ s' ck v', R = stc s' v' ∧ OwnC w' v' s'.cs ∧ Moved W w' v v' ∧ cs = ck.2.1 ∧ am = ck.2.2.1 ∧ m = pick2 s.m0 s.m1 ck.2.1 ∧
        ((findM s.cs o.id < 0 ∧ s' = .zero ∧ z = 6) ∨ (0 ≤ findM s.cs o.id ∧ z = 0 ∧ s.cs[(findM s.cs o.id).toNat]? = some ck ∧ s' = { s with cs := s.cs.eraseIdx (findM s.cs o.id).toNat }))) hin cond_zero rfl (by rw [o0, k3]) o38 v.ownBlock hlt hdr).mono ?_
    rintro e w' ⟨W, w1, R, C, z, cs, am, m, hx, hsz, hg, ⟨s', ck, v', rfl, ho', hm, rfl, rfl, rfl, hcase⟩, hp, he⟩
    have hst := own_stay hlt hsz hm
    have h1 : OwnC w' v' s'.cs := hp (fun x => OwnC x v' s'.cs) (fun a b g g1 g2 hab h => h.keep hab (fun g' hg' => by have := hst g' hg'; simp; omega)) ho'
    have h2 : w.grownBy w' v.ownBlock := hp (fun x => w.grownBy x v.ownBlock) (fun a b g g1 g2 hab h => grown_then h hab (.inr (by rintro g' ⟨⟩; omega))) (Moved.pre hx hm).grown
    have hzo : ∀ z, e = .returned (.tuple #[.agg zst.toArray, .int .i64 z]) → ∃ v', e = .returned (.tuple #[stv St.zero v', .int .i64 z]) ∧ OwnC w' v' St.zero.cs ∧ Moved w w' v v' := fun z he =>
      ⟨.slice none 0 0, by rw [he]; rfl, ⟨by simp [St.zero], Own.nil _ _ _⟩, ⟨h2, .inr (by simp [Value.ownBlock])⟩⟩
    rcases hcase with ⟨hf, rfl, rfl⟩ | ⟨hf, rfl, hck, rfl⟩
    · rw [show actM s p0 p1 side o = (.zero, 6) by unfold actM; rw [if_neg k0, if_neg k1, if_neg k5, if_neg k2, if_pos (.inl k3), if_pos hf]]
      rcases he with ⟨_, he⟩ | ⟨h0, _⟩ | ⟨h0, _⟩
      · exact ⟨v', he, h1, h2, (Moved.pre hx hm).at_⟩
      · omega
      · omega
    · have hE : actM s p0 p1 side o = if (addM (pick2 s.m0 s.m1 ck.2.1) ck.2.2.1).2 ≠ 0 then (.zero, 11)
          else (if ck.2.1 = 0 then { s with m0 := s.m0 + ck.2.2.1, cs := s.cs.eraseIdx (findM s.cs o.id).toNat } else { s with m1 := s.m1 + ck.2.2.1, cs := s.cs.eraseIdx (findM s.cs o.id).toNat }, 0) := by
        unfold actM; rw [if_neg k0, if_neg k1, if_neg k5, if_neg k2, if_pos (.inl k3), if_neg (by omega), hck]; simp only; rw [if_neg k4]
      rw [hE]
      rcases he with ⟨h0, _⟩ | ⟨_, ha, he⟩ | ⟨_, ha, he⟩
      · exact absurd rfl h0
      · rw [if_pos ha]; exact hzo 11 he
      · rw [if_neg (by simp [ha])]
        rcases hside _ (List.mem_of_getElem? hck) with h | h
        · rw [h] at he
          rw [if_pos h]
          exact ⟨v', he, h1, h2, (Moved.pre hx hm).at_⟩
        · rw [h] at he
          rw [if_neg (by omega)]
          exact ⟨v', he, h1, h2, (Moved.pre hx hm).at_⟩
  · rw [show actM s p0 p1 side o = (.zero, 33) by unfold actM; rw [if_neg k0, if_neg k1, if_neg k5, if_neg k2, if_neg (by omega)]]
    refine (ActX o.kind w _ _ _ _ side hin o0 (by simpa using k0) (by simpa using k1) (by simpa using k2) (by simpa using k3) (by simpa using k4) (by simpa using k5)).mono ?_
    rintro e w' ⟨hx, he⟩
    exact zero_out w w' v _ e hx he
end Go.Proofs.Ytnpolfihbfdggaa
