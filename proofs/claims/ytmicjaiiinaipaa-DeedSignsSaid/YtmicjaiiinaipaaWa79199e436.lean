/- Walks and plain laws, put together in build order. Conditions: what each of them names. -/
import Derived.Test.YtmicjaiiinaipaaW949a52abb4
set_option linter.unusedVariables false
set_option linter.unusedSimpArgs false
set_option linter.unnecessarySimpa false
namespace Go.Proofs.Ytmicjaiiinaipaa
section
open Go.RowKit

theorem sl_formD {w : World} {F : Fp} {v : Value} {l : List UInt8} (h : (Ty.sl .u8).holds w F [v] l) : ∃ A c, v = .slice A l.length c := by
  obtain ⟨A, c, xs, hv, _⟩ := h
  exact ⟨A, c, by simpa using hv⟩
theorem two_partsD {w : World} {a b : Value} {p q : List UInt8} {F G : Fp} {T : TypeId} (ha : (Ty.sl .u8).holds w F [a] p) (hF : ∀ x, F x → x < w.heap.size) (hb : (Ty.sl .u8).holds w G [b] q) (hG : ∀ x, G x → x < w.heap.size) :
    ∃ F', (Ty.sl (.sl .u8)).holds (w.alloc (.cells #[a, b] T)) F' [.slice (some ⟨w.heap.size, 0, none⟩) 2 2] [p, q] ∧ ∀ x, F' x → x < (w.alloc (.cells #[a, b] T)).heap.size := by
  refine ⟨_, parts_new (w := w) (vs := [a, b]) (F := fun x => F x ∨ G x) rfl rfl (by simp [maxLen]) ?_ ?_, ?_⟩
  · exact ⟨[a], [b], rfl, Ty.keep (fun _ _ => rfl) (fun _ h => .inl h) _ ha, [b], [], rfl, Ty.keep (fun _ _ => rfl) (fun _ h => .inr h) _ hb, rfl⟩
  · rintro x (h | h)
    · exact hF x h
    · exact hG x h
  · rintro x ((h | h) | rfl)
    · have := hF x h; simp; omega
    · have := hG x h; simp; omega
    · simp
theorem wp_load_aggD {P : Program} {w : World} {o : Oper} {a : Act} {K : Act → World → Prop} {Q : Exit → Act → World → Prop} (ty : TypeId) (x : Operand) (ho : o.op = .load ty x)
    (ad : Addr) (hx : a.eval x = .pointer (some ad)) (cs : List Value) (d : TypeDesc) (hu : P.underlying ty = some d) (hd : isAggD d = true) (hi : (P.info? ty).map (·.size) = some cs.length) (hc : Cells w ad cs)
    (h : K (a.put o.dst (.agg cs.toArray)) w) : o.wp P a w K Q := by
  unfold Oper.wp execOp
  simp only [ho, hx, Instr.loadAt, Instr.sureAddr, Sem.run_bind, Sem.run_pure, Result.andThen_ok, run_load_agg w ty ad cs d hu hd hi hc]
  exact h
theorem nil_holdsD (w : World) : (Ty.sl .u8).holds w (fun _ => False) [.slice none 0 0] [] := ⟨none, 0, [], rfl, Nat.le_refl _, by simp [maxLen], fun _ => rfl, fun h => absurd rfl h, rfl⟩
theorem szRState {n : Nat} (h : n = 7) : (Try.prog.info? 27).map (·.size) = some n := by subst h; kernel_rfl
theorem szR32 {n : Nat} (h : n = 32) : (Try.prog.info? 28).map (·.size) = some n := by subst h; kernel_rfl
theorem zR32 : (Try.prog.info? 28).bind (fun i => i.zero.map (·.cells)) = some (bv (List.replicate 32 0)).toArray := by kernel_rfl
/-- A state's sum. -/
def sumD (s : St) : List UInt8 := sha (textM 4 [be 4 s.chan, stateB s])
theorem parts_lenD (s : St) (h : ∀ c ∈ s.cs, CondOk c) (hn : List.length (α := Cd) s.cs ≤ 1000) : ([be 4 s.chan, stateB s].flatMap blob).length < 100000 := by
  simp [blob, be_length, stateB_len s h]; omega
theorem text_lenD (s : St) (h : ∀ c ∈ s.cs, CondOk c) (hn : List.length (α := Cd) s.cs ≤ 1000) : (textM 4 [be 4 s.chan, stateB s]).length < 100002 := by
  have := parts_lenD s h hn
  simp only [textM, List.length_cons]
  omega
set_option maxRecDepth 100000 in
set_option maxHeartbeats 8000000 in
theorem DSum (s0 : St) (hw : StWf s0) (u : Value) (F : Fp) (w : World) (hc : Conds w F u s0.cs) (hF : ∀ b, F b → b < w.heap.size) (hlen : List.length (α := Cd) s0.cs ≤ 1000) :
    Calls Try.prog 13 #[stv s0 u] w fun e w' => e = .returned (.agg (bv (sumD s0)).toArray) ∧ Ext w w' := by
  have hoks := conds_ok hc
  obtain ⟨A, c, xs, rfl, hlc, hcm, -⟩ := conds_open hc
  obtain ⟨SC, hSC⟩ : ∃ SC, SC = stc s0 (.slice A (List.length (α := Cd) s0.cs) c) := ⟨_, rfl⟩
  have hst : stv s0 (.slice A (List.length (α := Cd) s0.cs) c) = .agg SC.toArray := by rw [hSC]; rfl
  have hscl : SC.length = 7 := by rw [hSC]; rfl
  have hs0 : SC[0]? = some (.int .u32 (s0.chan : Int)) := by rw [hSC]; rfl
  have hlay := fun W (hx : Ext w W) => DLay s0 hw _ F (.slice none 0 0) [] W (hx.holds hF hc) (fun b hb => Nat.lt_of_lt_of_le (hF b hb) hx.size) (by simp [Value.ownBlock]) (Own.nil _ _ _) (by omega) (by simp)
  have hlen2 : ([be 4 s0.chan, stateB s0].flatMap blob).length < 288230376151711744 := by have := parts_lenD s0 hoks hlen; omega
  rw [hst] at hlay ⊢
  have hx0 : Ext w (w.alloc (.cells SC.toArray 40)) := (Ext.refl w).alloc _
  have hlay2 : ∀ W, Ext w W → Calls Try.prog 7 #[.slice none 0 0, .agg SC.toArray] W fun e w' => ∃ v', e = .returned v' ∧ OwnB w' v' (stateB s0) ∧ Ext W w' := fun W hx => (hlay W hx).mono fun e w' ⟨v', h1, h2, h3⟩ => ⟨v', h1, by simpa using h2, h3.grown⟩
  have hzd := digest_zero
  have hdl : (bv (List.replicate 32 0)).length = 32 := by simp
  generalize bv (List.replicate 32 0) = D at hzd hdl
  have hro := bv_one (sumD s0)
  have hrl : (bv (sumD s0)).length = 32 := by rw [bv_length]; exact sha_length _
  obtain ⟨R, hR⟩ : ∃ R, R = bv (sumD s0) := ⟨_, rfl⟩
  rw [← hR] at hro hrl ⊢
  have hxw : Ext w ((w.alloc (.cells SC.toArray 40)).alloc (.cells D.toArray 52)).drew := (((Ext.refl w).alloc _).alloc _).drew
  have hb0 : Blk ((w.alloc (.cells SC.toArray 40)).alloc (.cells D.toArray 52)).drew w.heap.size 40 SC := (Blk.new _ _ _).keep ((Ext.refl _).alloc (.cells D.toArray 52)).drew (by simp)
  have hbd : Blk ((w.alloc (.cells SC.toArray 40)).alloc (.cells D.toArray 52)).drew (w.heap.size + 1) 52 D := Blk.new_at (by simp) _ _
  have HLAY := Lib.hid (fun W (hx : Ext ((w.alloc (.cells SC.toArray 40)).alloc (.cells D.toArray 52)).drew W) => hlay2 W (hxw.trans hx))
  have HX0 := Lib.hid hxw
  have HB := Lib.hid hb0
  have HBD := Lib.hid hbd
  have HDL := Lib.hid hdl
  have HRL := Lib.hid hrl
  have HR : Hid (R = bv (sha (textM 4 [be 4 s0.chan, stateB s0]))) := Lib.hid hR
  have HSCL := Lib.hid hscl
  have HS0 := Lib.hid hs0
  have HW := Lib.hid hw
  have HLEN := Lib.hid hlen2
  clear hlay hlay2 hxw hx0 hb0 hbd hdl hrl hR hscl hs0 hw hlen2 hst hSC hc hF hoks hlen
  go_enter Try.func13, Try.ntmps13
  go_wp2_with (first
    | (refine wpList_alloc _ rfl 52 rfl _ hzd ?_)
    | fail)
  (try simp only [World.size_alloc])
  refine stab_store Ext ext_refl ext_trans [[0], [1], [1, 2], [1, 2, 3], [0, 1, 2, 3, 4], [5], [0, 1, 2, 3, 4, 5, 6], [0, 1, 2, 3, 4, 5, 6, 7], [0, 1, 2, 3, 4, 5, 6, 7, 8], [0, 1, 2, 3, 4, 5, 6, 7, 8, 9]] (fun i v wv => match i with | 0 => OwnB wv v [] ∧ ∃ b, v = .slice (some b) 0 0 | 1 => v = .pointer (some ⟨w.heap.size, 0, none⟩) | 2 => v = .int .u32 (s0.chan : Int) | 3 => (Ty.sl (.nat .u32)).holds wv (fun b => v.ownBlock = some b) [v] [s0.chan] ∧ ∀ b, v.ownBlock = some b → b < wv.heap.size | 4 => (Ty.sl .u8).holds wv (fun b => v.ownBlock = some b) [v] (be 4 s0.chan) ∧ ∀ b, v.ownBlock = some b → b < wv.heap.size | 5 => v = .agg SC.toArray | 6 => (Ty.sl .u8).holds wv (fun b => v.ownBlock = some b) [v] (stateB s0) ∧ ∀ b, v.ownBlock = some b → b < wv.heap.size | 7 => ∃ F, (Ty.sl (.sl .u8)).holds wv F [v] [be 4 s0.chan, stateB s0] ∧ ∀ b, F b → b < wv.heap.size | 8 => v = .agg R.toArray | _ => True) (by kernel_rfl) (by kernel_rfl) (by kernel_rfl) (by kernel_rfl) (by simp) ?_ ?_ ?_
  · intro i v w1 w2 h hx
    match i, h with
    | 0, h =>
      replace h : OwnB w1 v [] ∧ ∃ b, v = .slice (some b) 0 0 := h
      show OwnB w2 v [] ∧ ∃ b, v = .slice (some b) 0 0
      obtain ⟨h1, h2⟩ := h
      exact ⟨h1.ext hx, h2⟩
    | 1, h => exact h
    | 2, h => exact h
    | 3, h =>
      replace h : (Ty.sl (.nat .u32)).holds w1 (fun b => v.ownBlock = some b) [v] [s0.chan] ∧ ∀ b, v.ownBlock = some b → b < w1.heap.size := h
      show (Ty.sl (.nat .u32)).holds w2 (fun b => v.ownBlock = some b) [v] [s0.chan] ∧ ∀ b, v.ownBlock = some b → b < w2.heap.size
      obtain ⟨h1, h2⟩ := h
      exact ⟨hx.holds h2 h1, fun b hb => Nat.lt_of_lt_of_le (h2 b hb) hx.size⟩
    | 4, h =>
      replace h : (Ty.sl .u8).holds w1 (fun b => v.ownBlock = some b) [v] (be 4 s0.chan) ∧ ∀ b, v.ownBlock = some b → b < w1.heap.size := h
      show (Ty.sl .u8).holds w2 (fun b => v.ownBlock = some b) [v] (be 4 s0.chan) ∧ ∀ b, v.ownBlock = some b → b < w2.heap.size
      obtain ⟨h1, h2⟩ := h
      exact ⟨hx.holds h2 h1, fun b hb => Nat.lt_of_lt_of_le (h2 b hb) hx.size⟩
    | 5, h => exact h
    | 6, h =>
      replace h : (Ty.sl .u8).holds w1 (fun b => v.ownBlock = some b) [v] (stateB s0) ∧ ∀ b, v.ownBlock = some b → b < w1.heap.size := h
      show (Ty.sl .u8).holds w2 (fun b => v.ownBlock = some b) [v] (stateB s0) ∧ ∀ b, v.ownBlock = some b → b < w2.heap.size
      obtain ⟨h1, h2⟩ := h
      exact ⟨hx.holds h2 h1, fun b hb => Nat.lt_of_lt_of_le (h2 b hb) hx.size⟩
    | 7, h =>
      replace h : ∃ F, (Ty.sl (.sl .u8)).holds w1 F [v] [be 4 s0.chan, stateB s0] ∧ ∀ b, F b → b < w1.heap.size := h
      show ∃ F, (Ty.sl (.sl .u8)).holds w2 F [v] [be 4 s0.chan, stateB s0] ∧ ∀ b, F b → b < w2.heap.size
      obtain ⟨F, h1, h2⟩ := h
      exact ⟨F, hx.holds h2 h1, fun b hb => Nat.lt_of_lt_of_le (h2 b hb) hx.size⟩
    | 8, h => exact h
    | i + 9, h => trivial
  · intro i hi o ho
    match i, hi, ho with
    | 0, _, ho =>
      obtain rfl := Option.some.inj ho
      intro s W hX hd K hK
      rw [if_pos (wanted_plain rfl)]
      clear hd
      replace hK : ∀ (v : Value) (W' : World), Ext W W' → (OwnB W' v [] ∧ ∃ b, v = .slice (some b) 0 0) → _ := hK
      simp only [mkOf, List.map_cons, List.map_nil, Act.put, List.setIfInBounds_toArray, List.set_cons_succ, List.set_cons_zero, Nat.reduceAdd, Nat.zero_add] at hK ⊢
      refine wp_emptyL W 36 rfl 5 Try.underlying36 u8_sizeU u8_zeroU ?_
      exact hK _ _ ((Ext.refl _).alloc _) ⟨own_empty rfl, ⟨_, rfl⟩⟩
    | 1, _, ho =>
      obtain rfl := Option.some.inj ho
      intro s W hX hd K hK
      rw [if_pos (wanted_plain rfl)]
      clear hd
      replace hK : ∀ (v : Value) (W' : World), Ext W W' → (v = .pointer (some ⟨w.heap.size, 0, none⟩)) → _ := hK
      simp only [mkOf, List.map_cons, List.map_nil, Act.put, List.setIfInBounds_toArray, List.set_cons_succ, List.set_cons_zero, Nat.reduceAdd, Nat.zero_add] at hK ⊢
      go_simp
      exact hK _ _ (Ext.refl _) rfl
    | 2, _, ho =>
      obtain rfl := Option.some.inj ho
      intro s W hX hd K hK
      rw [if_pos (wanted_plain rfl)]
      have d4 : (s 1) = .pointer (some ⟨w.heap.size, 0, none⟩) := hd 1 (by decide) (by decide)
      clear hd
      replace hK : ∀ (v : Value) (W' : World), Ext W W' → (v = .int .u32 (s0.chan : Int)) → _ := hK
      simp only [mkOf, List.map_cons, List.map_nil, Act.put, List.setIfInBounds_toArray, List.set_cons_succ, List.set_cons_zero, Nat.reduceAdd, Nat.zero_add] at hK ⊢
      simp only [d4] at hK ⊢
      have c5 := (HB.out.keep hX (by simp)).cell 0
      rw [HS0.out] at c5
      go_simp
      exact hK _ _ (Ext.refl _) rfl
    | 3, _, ho =>
      obtain rfl := Option.some.inj ho
      intro s W hX hd K hK
      rw [if_pos (wanted_plain rfl)]
      have d5 : (s 2) = .int .u32 (s0.chan : Int) := hd 2 (by decide) (by decide)
      clear hd
      replace hK : ∀ (v : Value) (W' : World), Ext W W' → ((Ty.sl (.nat .u32)).holds W' (fun b => v.ownBlock = some b) [v] [s0.chan] ∧ ∀ b, v.ownBlock = some b → b < W'.heap.size) → _ := hK
      simp only [mkOf, List.map_cons, List.map_nil, Act.put, List.setIfInBounds_toArray, List.set_cons_succ, List.set_cons_zero, Nat.reduceAdd, Nat.zero_add] at hK ⊢
      simp only [d5] at hK ⊢
      go_simp
      exact hK _ _ ((Ext.refl _).alloc _) ⟨sl_made (t := .nat .u32) rfl rfl rfl (by simp [maxLen]) (one_nat HW.out.chan), by rintro b ⟨⟩; simp⟩
    | 4, _, ho =>
      obtain rfl := Option.some.inj ho
      intro s W hX hd K hK
      rw [if_pos (wanted_plain rfl)]
      have d3 : OwnB W (s 0) [] ∧ ∃ b, (s 0) = .slice (some b) 0 0 := hd 0 (by decide) (by decide)
      have d6 : (Ty.sl (.nat .u32)).holds W (fun b => (s 3).ownBlock = some b) [(s 3)] [s0.chan] ∧ ∀ b, (s 3).ownBlock = some b → b < W.heap.size := hd 3 (by decide) (by decide)
      clear hd
      replace hK : ∀ (v : Value) (W' : World), Ext W W' → ((Ty.sl .u8).holds W' (fun b => v.ownBlock = some b) [v] (be 4 s0.chan) ∧ ∀ b, v.ownBlock = some b → b < W'.heap.size) → _ := hK
      simp only [mkOf, List.map_cons, List.map_nil, Act.put, List.setIfInBounds_toArray, List.set_cons_succ, List.set_cons_zero, Nat.reduceAdd, Nat.zero_add] at hK ⊢
      obtain ⟨ho, b, hb⟩ := d3
      rw [hb] at ho
      simp only [hb] at hK ⊢
      go_simp
      refine (four0 b _ s0.chan W _ ho d6.1 d6.2).mono ?_
      rintro e w' ⟨v, rfl, hov, hx, _⟩
      exact hK _ _ hx ⟨hov.holds, hov.lt⟩
    | 5, _, ho =>
      obtain rfl := Option.some.inj ho
      intro s W hX hd K hK
      rw [if_pos (wanted_plain rfl)]
      clear hd
      replace hK : ∀ (v : Value) (W' : World), Ext W W' → (v = .agg SC.toArray) → _ := hK
      simp only [mkOf, List.map_cons, List.map_nil, Act.put, List.setIfInBounds_toArray, List.set_cons_succ, List.set_cons_zero, Nat.reduceAdd, Nat.zero_add] at hK ⊢
      refine wp_load_aggD 40 (.tmp 1) rfl _ rfl SC _ Try.underlying40 rfl (szSTo HSCL.out) (HB.out.keep hX (by simp)).cells ?_
      exact hK _ _ (Ext.refl _) rfl
    | 6, _, ho =>
      obtain rfl := Option.some.inj ho
      intro s W hX hd K hK
      rw [if_pos (wanted_plain rfl)]
      have d8 : (s 5) = .agg SC.toArray := hd 5 (by decide) (by decide)
      clear hd
      replace hK : ∀ (v : Value) (W' : World), Ext W W' → ((Ty.sl .u8).holds W' (fun b => v.ownBlock = some b) [v] (stateB s0) ∧ ∀ b, v.ownBlock = some b → b < W'.heap.size) → _ := hK
      simp only [mkOf, List.map_cons, List.map_nil, Act.put, List.setIfInBounds_toArray, List.set_cons_succ, List.set_cons_zero, Nat.reduceAdd, Nat.zero_add] at hK ⊢
      simp only [d8] at hK ⊢
      go_simp
      refine (HLAY.out W hX).mono ?_
      rintro e w' ⟨v', rfl, ho, hx⟩
      exact hK _ _ hx ⟨OwnB.holds ho, OwnB.lt ho⟩
    | 7, _, ho =>
      obtain rfl := Option.some.inj ho
      intro s W hX hd K hK
      rw [if_pos (wanted_plain rfl)]
      have d7 : (Ty.sl .u8).holds W (fun b => (s 4).ownBlock = some b) [(s 4)] (be 4 s0.chan) ∧ ∀ b, (s 4).ownBlock = some b → b < W.heap.size := hd 4 (by decide) (by decide)
      have d9 : (Ty.sl .u8).holds W (fun b => (s 6).ownBlock = some b) [(s 6)] (stateB s0) ∧ ∀ b, (s 6).ownBlock = some b → b < W.heap.size := hd 6 (by decide) (by decide)
      clear hd
      replace hK : ∀ (v : Value) (W' : World), Ext W W' → (∃ F, (Ty.sl (.sl .u8)).holds W' F [v] [be 4 s0.chan, stateB s0] ∧ ∀ b, F b → b < W'.heap.size) → _ := hK
      simp only [mkOf, List.map_cons, List.map_nil, Act.put, List.setIfInBounds_toArray, List.set_cons_succ, List.set_cons_zero, Nat.reduceAdd, Nat.zero_add] at hK ⊢
      obtain ⟨A1, c1, e1⟩ := sl_formD d7.1
      obtain ⟨A2, c2, e2⟩ := sl_formD d9.1
      rw [e1] at d7
      rw [e2] at d9
      simp only [e1, e2] at hK ⊢
      go_simp
      exact hK _ _ ((Ext.refl _).alloc _) (two_partsD d7.1 d7.2 d9.1 d9.2)
    | 8, _, ho =>
      obtain rfl := Option.some.inj ho
      intro s W hX hd K hK
      rw [if_pos (wanted_plain rfl)]
      have d10 : ∃ F, (Ty.sl (.sl .u8)).holds W F [(s 7)] [be 4 s0.chan, stateB s0] ∧ ∀ b, F b → b < W.heap.size := hd 7 (by decide) (by decide)
      clear hd
      replace hK : ∀ (v : Value) (W' : World), Ext W W' → (v = .agg R.toArray) → _ := hK
      simp only [mkOf, List.map_cons, List.map_nil, Act.put, List.setIfInBounds_toArray, List.set_cons_succ, List.set_cons_zero, Nat.reduceAdd, Nat.zero_add] at hK ⊢
      obtain ⟨F, h1, h2⟩ := d10
      go_simp
      refine (For_i 4 4 rfl _ _ W F h1 h2 HLEN.out).mono ?_
      rintro e w' ⟨rfl, hx⟩
      exact hK _ _ hx (by rw [HR.out])
    | i + 9, hi, _ => exact absurd hi (by simp)
  · intro o ho
    obtain rfl := Option.some.inj ho
    intro s W hX hd K hK
    rw [if_pos (wanted_plain rfl)]
    have d3 : OwnB W (s 0) [] ∧ ∃ b, (s 0) = .slice (some b) 0 0 := hd 0 (by decide)
    have d4 : (s 1) = .pointer (some ⟨w.heap.size, 0, none⟩) := hd 1 (by decide)
    have d5 : (s 2) = .int .u32 (s0.chan : Int) := hd 2 (by decide)
    have d6 : (Ty.sl (.nat .u32)).holds W (fun b => (s 3).ownBlock = some b) [(s 3)] [s0.chan] ∧ ∀ b, (s 3).ownBlock = some b → b < W.heap.size := hd 3 (by decide)
    have d7 : (Ty.sl .u8).holds W (fun b => (s 4).ownBlock = some b) [(s 4)] (be 4 s0.chan) ∧ ∀ b, (s 4).ownBlock = some b → b < W.heap.size := hd 4 (by decide)
    have d8 : (s 5) = .agg SC.toArray := hd 5 (by decide)
    have d9 : (Ty.sl .u8).holds W (fun b => (s 6).ownBlock = some b) [(s 6)] (stateB s0) ∧ ∀ b, (s 6).ownBlock = some b → b < W.heap.size := hd 6 (by decide)
    have d10 : ∃ F, (Ty.sl (.sl .u8)).holds W F [(s 7)] [be 4 s0.chan, stateB s0] ∧ ∀ b, F b → b < W.heap.size := hd 7 (by decide)
    have d11 : (s 8) = .agg R.toArray := hd 8 (by decide)
    clear hd
    simp only [mkOf, List.map_cons, List.map_nil, Act.put, List.setIfInBounds_toArray, List.set_cons_succ, List.set_cons_zero, Nat.reduceAdd, Nat.zero_add]
    have hB := HBD.out.keep hX (by simp)
    refine wp_store_row 52 (.tmp 2) (.tmp 11) rfl (w.heap.size + 1) (by simp [Act.eval]) D R _ (by simpa [Act.eval] using d11) hB (digest_size HRL.out) (by rw [HRL.out, HDL.out]) hro ?_
    refine hK _ _ ?_
    have hc9 := Blk.cells (t := 52) (setRow_at (cs' := R.toArray) hB)
    have hx9 : Ext w (W.setRow (w.heap.size + 1) R.toArray) := setRow_grown (HX0.out.trans hX) _ _ (by omega)
    have HX9 := Lib.hid hx9
    have HC9 := Lib.hid hc9
    clear hc9 hx9 hK hX hB
    generalize W.setRow (w.heap.size + 1) R.toArray = V at *
    (try simp only [Exit.then])
    go_wp2_with fail
    (try simp only [Exit.inBlock, Exit.then])
    refine bodyPost_ret (results_agg rfl _ _ _ _ _ rfl Try.underlying52 rfl (digest_size HRL.out) HC9.out) rfl ?_
    exact ⟨rfl, HX9.out⟩
set_option maxRecDepth 100000 in
set_option maxHeartbeats 8000000 in
theorem DRText (s0 : St) (hw : StWf s0) (u : Value) (F : Fp) (w : World) (hc : Conds w F u s0.cs) (hF : ∀ b, F b → b < w.heap.size) (hlen : List.length (α := Cd) s0.cs ≤ 1000) :
    Calls Try.prog 35 #[stv s0 u] w fun e w' => ∃ v', e = .returned v' ∧ OwnB w' v' (textM 4 [be 4 s0.chan, stateB s0]) ∧ Ext w w' := by
  have hoks := conds_ok hc
  obtain ⟨A, c, xs, rfl, hlc, hcm, -⟩ := conds_open hc
  obtain ⟨SC, hSC⟩ : ∃ SC, SC = stc s0 (.slice A (List.length (α := Cd) s0.cs) c) := ⟨_, rfl⟩
  have hst : stv s0 (.slice A (List.length (α := Cd) s0.cs) c) = .agg SC.toArray := by rw [hSC]; rfl
  have hscl : SC.length = 7 := by rw [hSC]; rfl
  have hs0 : SC[0]? = some (.int .u32 (s0.chan : Int)) := by rw [hSC]; rfl
  have hlay := fun W (hx : Ext w W) => DRState s0 hw _ (fun b => F b ∨ False) (.slice none 0 0) [] W (Ty.keep (t := .sl CondT) (fun _ _ => rfl) (fun _ h => .inl h) (hx.holds hF hc)) (Ty.keep (t := .sl .u8) (fun _ _ => rfl) (fun _ h => .inr h) (nil_holdsD W)) (fun b hb => hb.elim (fun h => Nat.lt_of_lt_of_le (hF b h) hx.size) False.elim) (by omega) (by simp)
  have hlen2 : ([be 4 s0.chan, stateB s0].flatMap blob).length < 1099511627776 := by have := parts_lenD s0 hoks hlen; omega
  rw [hst] at hlay ⊢
  have hlay2 : ∀ W, Ext w W → Calls Try.prog 9 #[.slice none 0 0, .agg SC.toArray] W fun e w' => ∃ v', e = .returned v' ∧ OwnB w' v' (stateB s0) ∧ Ext W w' := fun W hx => (hlay W hx).mono fun e w' ⟨v', h1, h2, h3⟩ => ⟨v', h1, by simpa using h2, Fresh.ext h3⟩
  have hch : s0.chan < 4294967296 := by have := bounds_u32 hw.chan; omega
  have hxw : Ext w (w.alloc (.cells SC.toArray 27)).drew := ((Ext.refl w).alloc _).drew
  have hb0 : Blk (w.alloc (.cells SC.toArray 27)).drew w.heap.size 27 SC := Blk.new _ _ _
  have HLAY := Lib.hid (fun W (hx : Ext (w.alloc (.cells SC.toArray 27)).drew W) => hlay2 W (hxw.trans hx))
  have HX0 := Lib.hid hxw
  have HB := Lib.hid hb0
  have HSCL := Lib.hid hscl
  have HS0 := Lib.hid hs0
  have HLEN := Lib.hid hlen2
  have HCH : Hid (s0.chan < 18446744073709551616) := Lib.hid (by omega)
  have HWK : Hid (IntKind.u64.wrap (s0.chan : Int) = (s0.chan : Int)) := Lib.hid (by simp [IntKind.wrap, IntKind.bits, IntKind.signed]; omega)
  clear hlay hlay2 hxw hb0 hscl hs0 hw hlen2 hst hSC hc hF hoks hlen hch
  go_enter Try.func35, Try.ntmps35
  go_wp2_with fail
  refine stab_plain Ext ext_refl ext_trans [[0], [0, 1], [0, 1, 2], [0, 1, 2, 3], [4], [0, 1, 2, 3, 4, 5], [0, 1, 2, 3, 4, 5, 6], [0, 1, 2, 3, 4, 5, 6, 7], [0, 1, 2, 3, 4, 5, 6, 7, 8]] (fun i v wv => match i with | 0 => v = .pointer (some ⟨w.heap.size, 0, none⟩) | 1 => v = .int .u32 (s0.chan : Int) | 2 => v = .int .u64 (s0.chan : Int) | 3 => (Ty.sl .u8).holds wv (fun b => v.ownBlock = some b) [v] (be 4 s0.chan) ∧ ∀ b, v.ownBlock = some b → b < wv.heap.size | 4 => v = .agg SC.toArray | 5 => (Ty.sl .u8).holds wv (fun b => v.ownBlock = some b) [v] (stateB s0) ∧ ∀ b, v.ownBlock = some b → b < wv.heap.size | 6 => ∃ F, (Ty.sl (.sl .u8)).holds wv F [v] [be 4 s0.chan, stateB s0] ∧ ∀ b, F b → b < wv.heap.size | 7 => OwnB wv v (textM 4 [be 4 s0.chan, stateB s0]) | 8 => OwnB wv v (textM 4 [be 4 s0.chan, stateB s0]) | _ => True) (by kernel_rfl) (by kernel_rfl) (by kernel_rfl) ?_ ?_ ?_
  · intro i v w1 w2 h hx
    match i, h with
    | 0, h => exact h
    | 1, h => exact h
    | 2, h => exact h
    | 3, h =>
      replace h : (Ty.sl .u8).holds w1 (fun b => v.ownBlock = some b) [v] (be 4 s0.chan) ∧ ∀ b, v.ownBlock = some b → b < w1.heap.size := h
      show (Ty.sl .u8).holds w2 (fun b => v.ownBlock = some b) [v] (be 4 s0.chan) ∧ ∀ b, v.ownBlock = some b → b < w2.heap.size
      obtain ⟨h1, h2⟩ := h
      exact ⟨hx.holds h2 h1, fun b hb => Nat.lt_of_lt_of_le (h2 b hb) hx.size⟩
    | 4, h => exact h
    | 5, h =>
      replace h : (Ty.sl .u8).holds w1 (fun b => v.ownBlock = some b) [v] (stateB s0) ∧ ∀ b, v.ownBlock = some b → b < w1.heap.size := h
      show (Ty.sl .u8).holds w2 (fun b => v.ownBlock = some b) [v] (stateB s0) ∧ ∀ b, v.ownBlock = some b → b < w2.heap.size
      obtain ⟨h1, h2⟩ := h
      exact ⟨hx.holds h2 h1, fun b hb => Nat.lt_of_lt_of_le (h2 b hb) hx.size⟩
    | 6, h =>
      replace h : ∃ F, (Ty.sl (.sl .u8)).holds w1 F [v] [be 4 s0.chan, stateB s0] ∧ ∀ b, F b → b < w1.heap.size := h
      show ∃ F, (Ty.sl (.sl .u8)).holds w2 F [v] [be 4 s0.chan, stateB s0] ∧ ∀ b, F b → b < w2.heap.size
      obtain ⟨F, h1, h2⟩ := h
      exact ⟨F, hx.holds h2 h1, fun b hb => Nat.lt_of_lt_of_le (h2 b hb) hx.size⟩
    | 7, h =>
      replace h : OwnB w1 v (textM 4 [be 4 s0.chan, stateB s0]) := h
      show OwnB w2 v (textM 4 [be 4 s0.chan, stateB s0])
      exact h.ext hx
    | 8, h =>
      replace h : OwnB w1 v (textM 4 [be 4 s0.chan, stateB s0]) := h
      show OwnB w2 v (textM 4 [be 4 s0.chan, stateB s0])
      exact h.ext hx
    | i + 9, h => trivial
  · intro i hi o ho
    match i, hi, ho with
    | 0, _, ho =>
      obtain rfl := Option.some.inj ho
      intro s W hX hd K hK
      rw [if_pos (wanted_plain rfl)]
      clear hd
      replace hK : ∀ (v : Value) (W' : World), Ext W W' → (v = .pointer (some ⟨w.heap.size, 0, none⟩)) → _ := hK
      simp only [mkOf, List.map_cons, List.map_nil, Act.put, List.setIfInBounds_toArray, List.set_cons_succ, List.set_cons_zero, Nat.reduceAdd, Nat.zero_add] at hK ⊢
      go_simp
      exact hK _ _ (Ext.refl _) rfl
    | 1, _, ho =>
      obtain rfl := Option.some.inj ho
      intro s W hX hd K hK
      rw [if_pos (wanted_plain rfl)]
      have d3 : (s 0) = .pointer (some ⟨w.heap.size, 0, none⟩) := hd 0 (by decide) (by decide)
      clear hd
      replace hK : ∀ (v : Value) (W' : World), Ext W W' → (v = .int .u32 (s0.chan : Int)) → _ := hK
      simp only [mkOf, List.map_cons, List.map_nil, Act.put, List.setIfInBounds_toArray, List.set_cons_succ, List.set_cons_zero, Nat.reduceAdd, Nat.zero_add] at hK ⊢
      simp only [d3] at hK ⊢
      have c5 := (HB.out.keep hX (by simp)).cell 0
      rw [HS0.out] at c5
      go_simp
      exact hK _ _ (Ext.refl _) rfl
    | 2, _, ho =>
      obtain rfl := Option.some.inj ho
      intro s W hX hd K hK
      rw [if_pos (wanted_plain rfl)]
      have d4 : (s 1) = .int .u32 (s0.chan : Int) := hd 1 (by decide) (by decide)
      clear hd
      replace hK : ∀ (v : Value) (W' : World), Ext W W' → (v = .int .u64 (s0.chan : Int)) → _ := hK
      simp only [mkOf, List.map_cons, List.map_nil, Act.put, List.setIfInBounds_toArray, List.set_cons_succ, List.set_cons_zero, Nat.reduceAdd, Nat.zero_add] at hK ⊢
      simp only [d4] at hK ⊢
      go_simp
      exact hK _ _ (Ext.refl _) (by rw [HWK.out])
    | 3, _, ho =>
      obtain rfl := Option.some.inj ho
      intro s W hX hd K hK
      rw [if_pos (wanted_plain rfl)]
      have d5 : (s 2) = .int .u64 (s0.chan : Int) := hd 2 (by decide) (by decide)
      clear hd
      replace hK : ∀ (v : Value) (W' : World), Ext W W' → ((Ty.sl .u8).holds W' (fun b => v.ownBlock = some b) [v] (be 4 s0.chan) ∧ ∀ b, v.ownBlock = some b → b < W'.heap.size) → _ := hK
      simp only [mkOf, List.map_cons, List.map_nil, Act.put, List.setIfInBounds_toArray, List.set_cons_succ, List.set_cons_zero, Nat.reduceAdd, Nat.zero_add] at hK ⊢
      simp only [d5] at hK ⊢
      go_simp
      refine (Ref_Num (.slice none 0 0) [] s0.chan 4 W (fun _ => False) (nil_holdsD W) (fun _ h => h.elim) HCH.out (by decide) (by decide)).mono ?_
      rintro e w' ⟨v', rfl, ho, hf⟩
      exact hK _ _ (Fresh.ext hf) ⟨OwnB.holds ho, OwnB.lt ho⟩
    | 4, _, ho =>
      obtain rfl := Option.some.inj ho
      intro s W hX hd K hK
      rw [if_pos (wanted_plain rfl)]
      clear hd
      replace hK : ∀ (v : Value) (W' : World), Ext W W' → (v = .agg SC.toArray) → _ := hK
      simp only [mkOf, List.map_cons, List.map_nil, Act.put, List.setIfInBounds_toArray, List.set_cons_succ, List.set_cons_zero, Nat.reduceAdd, Nat.zero_add] at hK ⊢
      refine wp_load_aggD 27 (.tmp 1) rfl _ rfl SC _ Try.underlying27 rfl (szRState HSCL.out) (HB.out.keep hX (by simp)).cells ?_
      exact hK _ _ (Ext.refl _) rfl
    | 5, _, ho =>
      obtain rfl := Option.some.inj ho
      intro s W hX hd K hK
      rw [if_pos (wanted_plain rfl)]
      have d7 : (s 4) = .agg SC.toArray := hd 4 (by decide) (by decide)
      clear hd
      replace hK : ∀ (v : Value) (W' : World), Ext W W' → ((Ty.sl .u8).holds W' (fun b => v.ownBlock = some b) [v] (stateB s0) ∧ ∀ b, v.ownBlock = some b → b < W'.heap.size) → _ := hK
      simp only [mkOf, List.map_cons, List.map_nil, Act.put, List.setIfInBounds_toArray, List.set_cons_succ, List.set_cons_zero, Nat.reduceAdd, Nat.zero_add] at hK ⊢
      simp only [d7] at hK ⊢
      go_simp
      refine (HLAY.out W hX).mono ?_
      rintro e w' ⟨v', rfl, ho, hx⟩
      exact hK _ _ hx ⟨OwnB.holds ho, OwnB.lt ho⟩
    | 6, _, ho =>
      obtain rfl := Option.some.inj ho
      intro s W hX hd K hK
      rw [if_pos (wanted_plain rfl)]
      have d6 : (Ty.sl .u8).holds W (fun b => (s 3).ownBlock = some b) [(s 3)] (be 4 s0.chan) ∧ ∀ b, (s 3).ownBlock = some b → b < W.heap.size := hd 3 (by decide) (by decide)
      have d8 : (Ty.sl .u8).holds W (fun b => (s 5).ownBlock = some b) [(s 5)] (stateB s0) ∧ ∀ b, (s 5).ownBlock = some b → b < W.heap.size := hd 5 (by decide) (by decide)
      clear hd
      replace hK : ∀ (v : Value) (W' : World), Ext W W' → (∃ F, (Ty.sl (.sl .u8)).holds W' F [v] [be 4 s0.chan, stateB s0] ∧ ∀ b, F b → b < W'.heap.size) → _ := hK
      simp only [mkOf, List.map_cons, List.map_nil, Act.put, List.setIfInBounds_toArray, List.set_cons_succ, List.set_cons_zero, Nat.reduceAdd, Nat.zero_add] at hK ⊢
      obtain ⟨A1, c1, e1⟩ := sl_formD d6.1
      obtain ⟨A2, c2, e2⟩ := sl_formD d8.1
      rw [e1] at d6
      rw [e2] at d8
      simp only [e1, e2] at hK ⊢
      go_simp
      exact hK _ _ ((Ext.refl _).alloc _) (two_partsD d6.1 d6.2 d8.1 d8.2)
    | 7, _, ho =>
      obtain rfl := Option.some.inj ho
      intro s W hX hd K hK
      rw [if_pos (wanted_plain rfl)]
      have d9 : ∃ F, (Ty.sl (.sl .u8)).holds W F [(s 6)] [be 4 s0.chan, stateB s0] ∧ ∀ b, F b → b < W.heap.size := hd 6 (by decide) (by decide)
      clear hd
      replace hK : ∀ (v : Value) (W' : World), Ext W W' → (OwnB W' v (textM 4 [be 4 s0.chan, stateB s0])) → _ := hK
      simp only [mkOf, List.map_cons, List.map_nil, Act.put, List.setIfInBounds_toArray, List.set_cons_succ, List.set_cons_zero, Nat.reduceAdd, Nat.zero_add] at hK ⊢
      obtain ⟨F, h1, h2⟩ := d9
      go_simp
      refine (Ref_Text 4 _ _ W F h1 h2 HLEN.out).mono ?_
      rintro e w' ⟨v', rfl, ho, hf⟩
      exact hK _ _ (Fresh.ext hf) ho
    | 8, _, ho =>
      obtain rfl := Option.some.inj ho
      intro s W hX hd K hK
      rw [if_pos (wanted_plain rfl)]
      have d10 : OwnB W (s 7) (textM 4 [be 4 s0.chan, stateB s0]) := hd 7 (by decide) (by decide)
      clear hd
      replace hK : ∀ (v : Value) (W' : World), Ext W W' → (OwnB W' v (textM 4 [be 4 s0.chan, stateB s0])) → _ := hK
      simp only [mkOf, List.map_cons, List.map_nil, Act.put, List.setIfInBounds_toArray, List.set_cons_succ, List.set_cons_zero, Nat.reduceAdd, Nat.zero_add] at hK ⊢
      go_simp
      exact hK _ _ (Ext.refl _) d10
    | i + 9, hi, _ => exact absurd hi (by simp)
  · intro s W hX hd
    have d3 : (s 0) = .pointer (some ⟨w.heap.size, 0, none⟩) := hd 0 (by decide)
    have d4 : (s 1) = .int .u32 (s0.chan : Int) := hd 1 (by decide)
    have d5 : (s 2) = .int .u64 (s0.chan : Int) := hd 2 (by decide)
    have d6 : (Ty.sl .u8).holds W (fun b => (s 3).ownBlock = some b) [(s 3)] (be 4 s0.chan) ∧ ∀ b, (s 3).ownBlock = some b → b < W.heap.size := hd 3 (by decide)
    have d7 : (s 4) = .agg SC.toArray := hd 4 (by decide)
    have d8 : (Ty.sl .u8).holds W (fun b => (s 5).ownBlock = some b) [(s 5)] (stateB s0) ∧ ∀ b, (s 5).ownBlock = some b → b < W.heap.size := hd 5 (by decide)
    have d9 : ∃ F, (Ty.sl (.sl .u8)).holds W F [(s 6)] [be 4 s0.chan, stateB s0] ∧ ∀ b, F b → b < W.heap.size := hd 6 (by decide)
    have d10 : OwnB W (s 7) (textM 4 [be 4 s0.chan, stateB s0]) := hd 7 (by decide)
    have d2 : OwnB W (s 8) (textM 4 [be 4 s0.chan, stateB s0]) := hd 8 (by decide)
    clear hd
    simp only [mkOf, List.map_cons, List.map_nil, Act.put, List.setIfInBounds_toArray, List.set_cons_succ, List.set_cons_zero, Nat.reduceAdd, Nat.zero_add]
    (try simp only [Exit.then])
    go_wp2_with fail
    go_ret
    exact ⟨_, rfl, d2, HX0.out.trans hX⟩
set_option maxRecDepth 100000 in
set_option maxHeartbeats 8000000 in
theorem DRSum (s0 : St) (hw : StWf s0) (u : Value) (F : Fp) (w : World) (hc : Conds w F u s0.cs) (hF : ∀ b, F b → b < w.heap.size) (hlen : List.length (α := Cd) s0.cs ≤ 1000) :
    Calls Try.prog 14 #[.agg [Value.string tabFirst, Value.string tabRounds].toArray, stv s0 u] w fun e w' => e = .returned (.agg (bv (sumD s0)).toArray) ∧ Ext w w' := by
  have hoks := conds_ok hc
  obtain ⟨A, c, xs, rfl, hlc, hcm, -⟩ := conds_open hc
  obtain ⟨SC, hSC⟩ : ∃ SC, SC = stc s0 (.slice A (List.length (α := Cd) s0.cs) c) := ⟨_, rfl⟩
  have hst : stv s0 (.slice A (List.length (α := Cd) s0.cs) c) = .agg SC.toArray := by rw [hSC]; rfl
  have hscl : SC.length = 7 := by rw [hSC]; rfl
  have hs0 : SC[0]? = some (.int .u32 (s0.chan : Int)) := by rw [hSC]; rfl
  have htx := fun W (hx : Ext w W) => DRText s0 hw _ F W (hx.holds hF hc) (fun b hb => Nat.lt_of_lt_of_le (hF b hb) hx.size) hlen
  have hof := fun vp W (G : Fp) hp hG => Ref_Of tabFirst tabRounds vp (textM 4 [be 4 s0.chan, stateB s0]) W G tab_first tab_rounds hp hG (by have := text_lenD s0 hoks hlen; omega)
  rw [hst] at htx ⊢
  have htb : (#[Value.string tabFirst, Value.string tabRounds] : Array Value) = [Value.string tabFirst, Value.string tabRounds].toArray := rfl
  rw [htb] at hof
  have hts : (Try.prog.info? 56).map (·.size) = some [Value.string tabFirst, Value.string tabRounds].length := by kernel_rfl
  generalize [Value.string tabFirst, Value.string tabRounds] = TB at *
  have hzd := zR32
  have hdl : (bv (List.replicate 32 0)).length = 32 := by simp
  generalize bv (List.replicate 32 0) = D at hzd hdl
  have hro := bv_one (sumD s0)
  have hrl : (bv (sumD s0)).length = 32 := by rw [bv_length]; exact sha_length _
  have hsd : sha (textM 4 [be 4 s0.chan, stateB s0]) = sumD s0 := rfl
  rw [hsd] at hof
  obtain ⟨R, hR⟩ : ∃ R, R = bv (sumD s0) := ⟨_, rfl⟩
  rw [← hR] at hro hrl hof ⊢
  have hxw : Ext w (((w.alloc (.cells TB.toArray 56)).alloc (.cells SC.toArray 27)).alloc (.cells D.toArray 28)).drew := ((((Ext.refl w).alloc _).alloc _).alloc _).drew
  have hbt : Blk (((w.alloc (.cells TB.toArray 56)).alloc (.cells SC.toArray 27)).alloc (.cells D.toArray 28)).drew w.heap.size 56 TB := ((Blk.new w 56 TB).keep ((Ext.refl _).alloc (.cells SC.toArray 27)) (by simp)).keep ((Ext.refl _).alloc (.cells D.toArray 28)).drew (by simp)
  have hb0 : Blk (((w.alloc (.cells TB.toArray 56)).alloc (.cells SC.toArray 27)).alloc (.cells D.toArray 28)).drew (w.heap.size + 1) 27 SC := Blk.keep (Blk.new_at (by simp) _ _) ((Ext.refl _).alloc (.cells D.toArray 28)).drew (by simp)
  have hbd : Blk (((w.alloc (.cells TB.toArray 56)).alloc (.cells SC.toArray 27)).alloc (.cells D.toArray 28)).drew (w.heap.size + 2) 28 D := Blk.new_at (by simp) _ _
  have HTX := Lib.hid (fun W (hx : Ext (((w.alloc (.cells TB.toArray 56)).alloc (.cells SC.toArray 27)).alloc (.cells D.toArray 28)).drew W) => htx W (hxw.trans hx))
  have HOF := Lib.hid hof
  have HTS := Lib.hid hts
  have HX0 := Lib.hid hxw
  have HBT := Lib.hid hbt
  have HB := Lib.hid hb0
  have HBD := Lib.hid hbd
  have HDL := Lib.hid hdl
  have HRL := Lib.hid hrl
  have HSCL := Lib.hid hscl
  clear htx hof hts hxw hbt hb0 hbd hdl hrl hR hscl hs0 hw hst hSC hc hF hoks hlen htb hsd
  go_enter Try.func14, Try.ntmps14
  go_wp2_with (first
    | (refine wpList_alloc _ rfl 28 rfl _ hzd ?_)
    | fail)
  (try simp only [World.size_alloc])
  refine stab_store Ext ext_refl ext_trans [[0], [1], [1, 2], [0, 1, 2, 3], [0, 1, 2, 3, 4]] (fun i v wv => match i with | 0 => v = .agg TB.toArray | 1 => v = .agg SC.toArray | 2 => OwnB wv v (textM 4 [be 4 s0.chan, stateB s0]) | 3 => v = .agg R.toArray | _ => True) (by kernel_rfl) (by kernel_rfl) (by kernel_rfl) (by kernel_rfl) (by simp) ?_ ?_ ?_
  · intro i v w1 w2 h hx
    match i, h with
    | 0, h => exact h
    | 1, h => exact h
    | 2, h =>
      replace h : OwnB w1 v (textM 4 [be 4 s0.chan, stateB s0]) := h
      show OwnB w2 v (textM 4 [be 4 s0.chan, stateB s0])
      exact h.ext hx
    | 3, h => exact h
    | i + 4, h => trivial
  · intro i hi o ho
    match i, hi, ho with
    | 0, _, ho =>
      obtain rfl := Option.some.inj ho
      intro s W hX hd K hK
      rw [if_pos (wanted_plain rfl)]
      clear hd
      replace hK : ∀ (v : Value) (W' : World), Ext W W' → (v = .agg TB.toArray) → _ := hK
      simp only [mkOf, List.map_cons, List.map_nil, Act.put, List.setIfInBounds_toArray, List.set_cons_succ, List.set_cons_zero, Nat.reduceAdd, Nat.zero_add] at hK ⊢
      refine wp_load_aggD 56 (.tmp 2) rfl _ rfl TB _ Try.underlying56 rfl HTS.out (HBT.out.keep hX (by simp)).cells ?_
      exact hK _ _ (Ext.refl _) rfl
    | 1, _, ho =>
      obtain rfl := Option.some.inj ho
      intro s W hX hd K hK
      rw [if_pos (wanted_plain rfl)]
      clear hd
      replace hK : ∀ (v : Value) (W' : World), Ext W W' → (v = .agg SC.toArray) → _ := hK
      simp only [mkOf, List.map_cons, List.map_nil, Act.put, List.setIfInBounds_toArray, List.set_cons_succ, List.set_cons_zero, Nat.reduceAdd, Nat.zero_add] at hK ⊢
      refine wp_load_aggD 27 (.tmp 3) rfl _ rfl SC _ Try.underlying27 rfl (szRState HSCL.out) (HB.out.keep hX (by simp)).cells ?_
      exact hK _ _ (Ext.refl _) rfl
    | 2, _, ho =>
      obtain rfl := Option.some.inj ho
      intro s W hX hd K hK
      rw [if_pos (wanted_plain rfl)]
      have d6 : (s 1) = .agg SC.toArray := hd 1 (by decide) (by decide)
      clear hd
      replace hK : ∀ (v : Value) (W' : World), Ext W W' → (OwnB W' v (textM 4 [be 4 s0.chan, stateB s0])) → _ := hK
      simp only [mkOf, List.map_cons, List.map_nil, Act.put, List.setIfInBounds_toArray, List.set_cons_succ, List.set_cons_zero, Nat.reduceAdd, Nat.zero_add] at hK ⊢
      simp only [d6] at hK ⊢
      go_simp
      refine (HTX.out W hX).mono ?_
      rintro e w' ⟨v', rfl, ho, hx⟩
      exact hK _ _ hx ho
    | 3, _, ho =>
      obtain rfl := Option.some.inj ho
      intro s W hX hd K hK
      rw [if_pos (wanted_plain rfl)]
      have d5 : (s 0) = .agg TB.toArray := hd 0 (by decide) (by decide)
      have d7 : OwnB W (s 2) (textM 4 [be 4 s0.chan, stateB s0]) := hd 2 (by decide) (by decide)
      clear hd
      replace hK : ∀ (v : Value) (W' : World), Ext W W' → (v = .agg R.toArray) → _ := hK
      simp only [mkOf, List.map_cons, List.map_nil, Act.put, List.setIfInBounds_toArray, List.set_cons_succ, List.set_cons_zero, Nat.reduceAdd, Nat.zero_add] at hK ⊢
      simp only [d5] at hK ⊢
      go_simp
      refine (HOF.out _ W _ (OwnB.holds d7) (OwnB.lt d7)).mono ?_
      rintro e w' ⟨rfl, hx⟩
      exact hK _ _ hx rfl
    | i + 4, hi, _ => exact absurd hi (by simp)
  · intro o ho
    obtain rfl := Option.some.inj ho
    intro s W hX hd K hK
    rw [if_pos (wanted_plain rfl)]
    have d5 : (s 0) = .agg TB.toArray := hd 0 (by decide)
    have d6 : (s 1) = .agg SC.toArray := hd 1 (by decide)
    have d7 : OwnB W (s 2) (textM 4 [be 4 s0.chan, stateB s0]) := hd 2 (by decide)
    have d8 : (s 3) = .agg R.toArray := hd 3 (by decide)
    clear hd
    simp only [mkOf, List.map_cons, List.map_nil, Act.put, List.setIfInBounds_toArray, List.set_cons_succ, List.set_cons_zero, Nat.reduceAdd, Nat.zero_add]
    have hB := HBD.out.keep hX (by simp)
    refine wp_store_row 28 (.tmp 4) (.tmp 8) rfl (w.heap.size + 2) (by simp [Act.eval]) D R _ (by simpa [Act.eval] using d8) hB (szR32 HRL.out) (by rw [HRL.out, HDL.out]) hro ?_
    refine hK _ _ ?_
    have hc9 := Blk.cells (t := 28) (setRow_at (cs' := R.toArray) hB)
    have hx9 : Ext w (W.setRow (w.heap.size + 2) R.toArray) := setRow_grown (HX0.out.trans hX) _ _ (by omega)
    have HX9 := Lib.hid hx9
    have HC9 := Lib.hid hc9
    clear hc9 hx9 hK hX hB
    generalize W.setRow (w.heap.size + 2) R.toArray = V at *
    (try simp only [Exit.then])
    go_wp2_with fail
    (try simp only [Exit.inBlock, Exit.then])
    refine bodyPost_ret (results_agg rfl _ _ _ _ _ rfl Try.underlying28 rfl (szR32 HRL.out) HC9.out) rfl ?_
    exact ⟨rfl, HX9.out⟩
end
section
open Go.RowKit

def eqvL {α : Type} (f : α → α → Bool) : List α → List α → Bool
  | [], [] => true
  | a :: l, b :: m => f a b && eqvL f l m
  | _, _ => false
def Ty.eqv : (t : Ty) → t.Data → t.Data → Bool
  | .u8, a, b => a == b
  | .nat _, a, b => (a : Nat) == b
  | .int _, a, b => (a : Int) == b
  | .bool, a, b => (a : Bool) == b
  | .str, a, b => a.toList == b.toList
  | .arr _ t, l, m => eqvL t.eqv l m
  | .sl _, _, _ => false
  | .st t, a, b => t.eqv a b
  | .unit, _, _ => true
  | .pair a b, x, y => a.eqv x.1 y.1 && b.eqv x.2 y.2
def Ty.plain : Ty → Bool
  | .arr _ t => t.plain
  | .sl _ => false
  | .st t => t.plain
  | .pair a b => a.plain && b.plain
  | _ => true
theorem eqvL_iff {α : Type} {f : α → α → Bool} (h : ∀ a b, f a b = true ↔ a = b) : ∀ (l m : List α), eqvL f l m = true ↔ l = m
  | [], [] => by simp [eqvL]
  | [], _ :: _ => by simp [eqvL]
  | _ :: _, [] => by simp [eqvL]
  | a :: l, b :: m => by simp [eqvL, h, eqvL_iff h l m]
theorem Ty.eqv_iff : ∀ (t : Ty), t.plain = true → ∀ x y : t.Data, t.eqv x y = true ↔ x = y
  | .u8, _, a, b => by simp [Ty.eqv]
  | .nat _, _, a, b => by simp [Ty.eqv]
  | .int _, _, a, b => by simp [Ty.eqv]
  | .bool, _, a, b => by simp [Ty.eqv]
  | .str, _, a, b => by
    simp only [Ty.eqv, beq_iff_eq, ByteArray.toList_eq]
    constructor
    · intro h; obtain ⟨⟨x⟩⟩ := a; obtain ⟨⟨y⟩⟩ := b; simp at h; subst h; rfl
    · rintro rfl; rfl
  | .arr _ t, h, l, m => eqvL_iff (Ty.eqv_iff t h) l m
  | .sl _, h, _, _ => by simp [Ty.plain] at h
  | .st t, h, a, b => Ty.eqv_iff t h a b
  | .unit, _, a, b => by simp [Ty.eqv]
  | .pair a b, h, x, y => by
    simp only [Ty.plain, Bool.and_eq_true] at h
    simp only [Ty.eqv, Bool.and_eq_true, Ty.eqv_iff a h.1, Ty.eqv_iff b h.2]
    constructor
    · rintro ⟨h1, h2⟩; exact Prod.ext h1 h2
    · rintro rfl; exact ⟨rfl, rfl⟩
def Ty.deep : Ty → Nat
  | .arr _ t => t.deep + 1
  | .st t => t.deep + 1
  | .pair a b => max a.deep b.deep
  | .unit => 0
  | _ => 1
/-- Does the described type fit the program's, and can it be compared? -/
def Ty.eqFits (P : Program) : Ty → (TypeId → Bool) × (List Field → Nat → Bool)
  | .u8 => (fun t => match P.underlying t with | some (.int .u8) => true | _ => false, fun _ _ => false)
  | .nat k => (fun t => match P.underlying t with | some (.int k') => k' == k | _ => false, fun _ _ => false)
  | .int k => (fun t => match P.underlying t with | some (.int k') => k' == k | _ => false, fun _ _ => false)
  | .bool => (fun t => match P.underlying t with | some .bool => true | _ => false, fun _ _ => false)
  | .str => (fun t => match P.underlying t with | some .string => true | _ => false, fun _ _ => false)
  | .arr n a => (fun t => match P.underlying t with | some (.array m e) => m == n && (a.eqFits P).1 e && (P.info? e).map (·.size) == some a.size | _ => false, fun _ _ => false)
  | .sl _ => (fun _ => false, fun _ _ => false)
  | .st c => (fun t => match P.underlying t with | some (.struct fs) => (c.eqFits P).2 fs.toList 0 && !P.stoodInHeld t | _ => false, fun _ _ => false)
  | .unit => (fun _ => false, fun fs _ => fs.isEmpty)
  | .pair a b => (fun _ => false, fun fs off => match fs with | f :: r => f.name != "_" && f.offset == off && (a.eqFits P).1 f.type && (P.info? f.type).map (·.size) == some a.size && (b.eqFits P).2 r (off + a.size) | [] => false)
/-- The value that cells are. -/
def Ty.val : Ty → List Value → Value
  | .arr _ _, cs => .agg cs.toArray
  | .st _, cs => .agg cs.toArray
  | _, cs => cs.headD undef
section
variable {P : Program}
theorem info_size {e : TypeId} {n : Nat} (h : (P.info? e).map (·.size) = some n) (w : World) : (sizeOf e).run P w = .ok n w := by
  obtain ⟨i, hi1, hi2⟩ := Option.map_eq_some_iff.1 h
  simp [sizeOf, typeInfo, hi1, hi2]
theorem isAgg_run {t : TypeId} {d : TypeDesc} (hu : P.underlying t = some d) (w : World) : (isAgg t).run P w = .ok (isAggD d) w := by
  unfold isAgg
  rw [Sem.run_bind, run_underlying hu w]
  cases d <;> rfl
/-- A part is the value of its cells. -/
theorem part_run (ty : Ty) {t : TypeId} (hf : (ty.eqFits P).1 t = true) (hs : (P.info? t).map (·.size) = some ty.size) {W : World} {F : Fp} {x : ty.Data} (cs c1 c2 : List Value) (off : Nat) (hc : cs.drop off = c1 ++ c2) (hx : ty.holds W F c1 x) (w : World) :
    (part t cs.toArray off).run P w = .ok (ty.val c1) w := by
  have hl := Ty.len ty hx
  have hcell : ∀ v, c1 = [v] → cs[off]? = some v := by
    rintro v rfl
    have h : (cs.drop off)[0]? = some v := by rw [hc]; rfl
    rw [List.getElem?_drop] at h
    simpa using h
  have one : ∀ v d, c1 = [v] → P.underlying t = some d → isAggD d = false → (part t cs.toArray off).run P w = .ok v w := by
    intro v d h hu hd
    simp only [part, Sem.run_bind, isAgg_run hu, hd, Result.andThen_ok, Bool.false_eq_true, if_false]
    have := hcell v h
    simp [this]
  have agg : ∀ d, P.underlying t = some d → isAggD d = true → (part t cs.toArray off).run P w = .ok (.agg c1.toArray) w := by
    intro d hu hd
    simp only [part, Sem.run_bind, isAgg_run hu, hd, Result.andThen_ok, if_true, info_size hs, Sem.run_pure]
    congr 2
    apply Array.ext'
    rw [Array.toList_extract]
    simp only [List.toList_toArray, Nat.add_sub_cancel_left, List.extract_eq_take_drop, hc, ← hl]
    simp
  cases ty with
  | u8 =>
    simp only [Ty.eqFits] at hf
    split at hf <;> try simp only [Bool.false_eq_true] at hf
    rename_i hu
    have hx : c1 = [.int .u8 (x.toNat : Int)] := hx
    rw [one _ _ hx hu rfl, hx]; rfl
  | nat k =>
    simp only [Ty.eqFits] at hf
    split at hf <;> try simp only [Bool.false_eq_true] at hf
    rename_i hu
    obtain ⟨hx, _⟩ := hx
    rw [one _ _ hx hu rfl, hx]; rfl
  | int k =>
    simp only [Ty.eqFits] at hf
    split at hf <;> try simp only [Bool.false_eq_true] at hf
    rename_i hu
    obtain ⟨hx, _⟩ := hx
    rw [one _ _ hx hu rfl, hx]; rfl
  | bool =>
    simp only [Ty.eqFits] at hf
    split at hf <;> try simp only [Bool.false_eq_true] at hf
    rename_i hu
    have hx : c1 = [.bool x] := hx
    rw [one _ _ hx hu rfl, hx]; rfl
  | str =>
    simp only [Ty.eqFits] at hf
    split at hf <;> try simp only [Bool.false_eq_true] at hf
    rename_i hu
    obtain ⟨hx, _⟩ := hx
    rw [one _ _ hx hu rfl, hx]; rfl
  | arr n a =>
    simp only [Ty.eqFits] at hf
    split at hf <;> try simp only [Bool.false_eq_true] at hf
    rename_i hu
    exact agg _ hu rfl
  | sl a => simp [Ty.eqFits] at hf
  | st c =>
    simp only [Ty.eqFits] at hf
    split at hf <;> try simp only [Bool.false_eq_true] at hf
    rename_i hu
    exact agg _ hu rfl
  | unit => simp [Ty.eqFits] at hf
  | pair a b => simp [Ty.eqFits] at hf

theorem eq_loop {W1 W2 : World} {F1 F2 : Fp} (a : Ty) (e : TypeId) (d : Nat) (hf : (a.eqFits P).1 e = true) (hs : (P.info? e).map (·.size) = some a.size)
    (ih : ∀ (w : World) (c1 c2 : List Value) (x y : a.Data), a.holds W1 F1 c1 x → a.holds W2 F2 c2 y → (Op.equalIn d e (a.val c1) (a.val c2)).run P w = .ok (a.eqv x y) w) (cs ds : List Value) :
    ∀ (l m : List a.Data) (i : Nat) (w : World), l.length = m.length → AllH (a.holds W1 F1) (cs.drop (i * a.size)) l → AllH (a.holds W2 F2) (ds.drop (i * a.size)) m →
    ∃ r : Option Bool, (forIn (m := Sem) (List.range' i l.length 1) ((none : Option Bool), ()) fun i _ => do
        let x ← part e cs.toArray (i * a.size)
        let y ← part e ds.toArray (i * a.size)
        let b ← Op.equalIn d e x y
        if (!b) = true then pure (ForInStep.done (some false, ())) else pure (ForInStep.yield (none, ()))).run P w = .ok (r, ()) w ∧ (r.getD true) = eqvL a.eqv l m
  | [], [], _, _, _, _, _ => ⟨none, by simp, rfl⟩
  | [], _ :: _, _, _, h, _, _ => by simp at h
  | _ :: _, [], _, _, h, _, _ => by simp at h
  | x :: l, y :: m, i, w, h, h1, h2 => by
    obtain ⟨c1, c2, e1, g1, g2⟩ := h1
    obtain ⟨d1, d2, e2, k1, k2⟩ := h2
    have hp1 := part_run a hf hs cs c1 c2 (i * a.size) e1 g1 w
    have hp2 := part_run a hf hs ds d1 d2 (i * a.size) e2 k1 w
    have he := ih w c1 d1 x y g1 k1
    have n1 : cs.drop ((i + 1) * a.size) = c2 := by
      rw [Nat.add_mul, Nat.one_mul, ← List.drop_drop, e1, ← Ty.len a g1, List.drop_left]
    have n2 : ds.drop ((i + 1) * a.size) = d2 := by
      rw [Nat.add_mul, Nat.one_mul, ← List.drop_drop, e2, ← Ty.len a k1, List.drop_left]
    obtain ⟨r, hr, hr2⟩ := eq_loop a e d hf hs ih cs ds l m (i + 1) w (by simpa using h) (by rw [n1]; exact g2) (by rw [n2]; exact k2)
    simp only [List.length_cons, List.range'_succ, List.forIn_cons, Sem.run_bind, hp1, hp2, he, Result.andThen_ok]
    cases hb : a.eqv x y
    · exact ⟨some false, by simp, by simp [eqvL, hb]⟩
    · refine ⟨r, ?_, by simp [eqvL, hb, hr2]⟩
      simpa using hr
theorem eq_both : ∀ (ty : Ty),
    (∀ (t : TypeId) (d : Nat), (ty.eqFits P).1 t = true → ty.deep ≤ d → ∀ (w W1 W2 : World) (F1 F2 : Fp) (cs ds : List Value) (x y : ty.Data), ty.holds W1 F1 cs x → ty.holds W2 F2 ds y → (Op.equalIn d t (ty.val cs) (ty.val ds)).run P w = .ok (ty.eqv x y) w) ∧
    (∀ (fs : List Field) (off d : Nat), (ty.eqFits P).2 fs off = true → ty.deep ≤ d → ∀ (w W1 W2 : World) (F1 F2 : Fp) (cs ds : List Value) (x y : ty.Data), ty.holds W1 F1 (cs.drop off) x → ty.holds W2 F2 (ds.drop off) y → (Op.eqFields d cs.toArray ds.toArray fs).run P w = .ok (ty.eqv x y) w)
  | .u8 => ⟨fun t d hf hd w _ _ _ _ cs ds x y h1 h2 => by
      simp only [Ty.eqFits] at hf
      split at hf <;> try simp only [Bool.false_eq_true] at hf
      rename_i hu
      obtain ⟨d, rfl⟩ : ∃ k, d = k + 1 := ⟨d - 1, by simp only [Ty.deep] at hd; omega⟩
      have h1 : cs = [.int .u8 (x.toNat : Int)] := h1
      have h2 : ds = [.int .u8 (y.toNat : Int)] := h2
      subst h1 h2
      show (Op.equalIn (d + 1) t (.int .u8 _) (.int .u8 _)).run P w = _
      rw [run_equalIn_int w d t .u8 .u8 _ _ hu]
      congr 1
      show _ = (x == y)
      rw [Bool.eq_iff_iff]
      simp [← UInt8.toNat_inj]
      omega, fun _ _ _ hf => by simp [Ty.eqFits] at hf⟩
  | .nat k => ⟨fun t d hf hd w _ _ _ _ cs ds x y h1 h2 => by
      simp only [Ty.eqFits] at hf
      split at hf <;> try simp only [Bool.false_eq_true] at hf
      rename_i hu
      obtain ⟨d, rfl⟩ : ∃ k, d = k + 1 := ⟨d - 1, by simp only [Ty.deep] at hd; omega⟩
      obtain ⟨rfl, _⟩ := h1
      obtain ⟨rfl, _⟩ := h2
      show (Op.equalIn (d + 1) t (.int k _) (.int k _)).run P w = _
      rw [run_equalIn_int w d t k _ _ _ hu]
      congr 1
      show _ = ((x : Nat) == y)
      rw [Bool.eq_iff_iff, beq_iff_eq, beq_iff_eq]
      exact Int.ofNat_inj, fun _ _ _ hf => by simp [Ty.eqFits] at hf⟩
  | .int k => ⟨fun t d hf hd w _ _ _ _ cs ds x y h1 h2 => by
      simp only [Ty.eqFits] at hf
      split at hf <;> try simp only [Bool.false_eq_true] at hf
      rename_i hu
      obtain ⟨d, rfl⟩ : ∃ k, d = k + 1 := ⟨d - 1, by simp only [Ty.deep] at hd; omega⟩
      obtain ⟨rfl, _⟩ := h1
      obtain ⟨rfl, _⟩ := h2
      show (Op.equalIn (d + 1) t (.int k _) (.int k _)).run P w = _
      rw [run_equalIn_int w d t k _ _ _ hu]
      rfl, fun _ _ _ hf => by simp [Ty.eqFits] at hf⟩
  | .bool => ⟨fun t d hf hd w _ _ _ _ cs ds x y h1 h2 => by
      simp only [Ty.eqFits] at hf
      split at hf <;> try simp only [Bool.false_eq_true] at hf
      rename_i hu
      obtain ⟨d, rfl⟩ : ∃ k, d = k + 1 := ⟨d - 1, by simp only [Ty.deep] at hd; omega⟩
      have h1 : cs = [.bool x] := h1
      have h2 : ds = [.bool y] := h2
      subst h1 h2
      show (Op.equalIn (d + 1) t (.bool _) (.bool _)).run P w = _
      rw [run_equalIn_bool' w d t _ _ hu]
      rfl, fun _ _ _ hf => by simp [Ty.eqFits] at hf⟩
  | .str => ⟨fun t d hf hd w _ _ _ _ cs ds x y h1 h2 => by
      simp only [Ty.eqFits] at hf
      split at hf <;> try simp only [Bool.false_eq_true] at hf
      rename_i hu
      obtain ⟨d, rfl⟩ : ∃ k, d = k + 1 := ⟨d - 1, by simp only [Ty.deep] at hd; omega⟩
      obtain ⟨rfl, _⟩ := h1
      obtain ⟨rfl, _⟩ := h2
      show (Op.equalIn (d + 1) t (.string _) (.string _)).run P w = _
      rw [run_equalIn_string w d t _ _ hu]
      rfl, fun _ _ _ hf => by simp [Ty.eqFits] at hf⟩
  | .arr n a => ⟨fun t d hf hd w W1 W2 F1 F2 cs ds x y h1 h2 => by
      simp only [Ty.eqFits] at hf
      split at hf <;> try simp only [Bool.false_eq_true] at hf
      rename_i m e hu
      simp only [Bool.and_eq_true, beq_iff_eq] at hf
      obtain ⟨⟨rfl, hfa⟩, hs⟩ := hf
      obtain ⟨d, rfl⟩ : ∃ k, d = k + 1 := ⟨d - 1, by simp only [Ty.deep] at hd; omega⟩
      simp only [Ty.deep] at hd
      obtain ⟨hx1, hx2⟩ := h1
      obtain ⟨hy1, hy2⟩ := h2
      obtain ⟨r, hr, hr2⟩ := eq_loop (W1 := W1) (W2 := W2) (F1 := F1) (F2 := F2) a e d hfa hs (fun w c1 c2 x y g1 g2 => (eq_both a).1 e d hfa (by omega) w W1 W2 F1 F2 c1 c2 x y g1 g2) cs ds x y 0 w (hx1.trans hy1.symm) (by simpa using hx2) (by simpa using hy2)
      show (Op.equalIn (d + 1) t (.agg cs.toArray) (.agg ds.toArray)).run P w = .ok (eqvL a.eqv x y) w
      rw [Op.equalIn]
      rw [hx1] at hr
      simp only [Sem.run_bind, run_underlying hu, Result.andThen_ok, info_size hs, Std.Legacy.Range.forIn_eq_forIn_range', Std.Legacy.Range.size, Nat.sub_zero, Nat.add_sub_cancel, Nat.div_one]
      (try simp only [Sem.run_bind] at hr)
      rw [hr, ← hr2]
      cases r <;> simp, fun _ _ _ hf => by simp [Ty.eqFits] at hf⟩
  | .sl a => ⟨fun _ _ hf => by simp [Ty.eqFits] at hf, fun _ _ _ hf => by simp [Ty.eqFits] at hf⟩
  | .st c => ⟨fun t d hf hd w W1 W2 F1 F2 cs ds x y h1 h2 => by
      simp only [Ty.eqFits] at hf
      split at hf <;> try simp only [Bool.false_eq_true] at hf
      rename_i fs hu
      simp only [Bool.and_eq_true, Bool.not_eq_true'] at hf
      obtain ⟨hfc, hst⟩ := hf
      obtain ⟨d, rfl⟩ : ∃ k, d = k + 1 := ⟨d - 1, by simp only [Ty.deep] at hd; omega⟩
      simp only [Ty.deep] at hd
      have hfo : P.fieldsOf t = fs := by simp only [Program.fieldsOf, hu]
      show (Op.equalIn (d + 1) t (.agg cs.toArray) (.agg ds.toArray)).run P w = .ok (c.eqv x y) w
      rw [run_equalIn_struct w d t _ _ (by rw [hfo]; exact hu) hst, hfo]
      exact (eq_both c).2 fs.toList 0 d hfc (by omega) w W1 W2 F1 F2 cs ds x y (by rw [List.drop_zero]; exact h1) (by rw [List.drop_zero]; exact h2), fun _ _ _ hf => by simp [Ty.eqFits] at hf⟩
  | .unit => ⟨fun _ _ hf => by simp [Ty.eqFits] at hf, fun fs off d hf _ w _ _ _ _ cs ds x y _ _ => by
      cases fs with
      | nil => simp [Op.eqFields, Ty.eqv]
      | cons f r => simp [Ty.eqFits] at hf⟩
  | .pair a b => ⟨fun _ _ hf => by simp [Ty.eqFits] at hf, fun fs off d hf hd w W1 W2 F1 F2 cs ds x y h1 h2 => by
      cases fs with
      | nil => simp [Ty.eqFits] at hf
      | cons f r =>
        simp only [Ty.eqFits, Bool.and_eq_true, beq_iff_eq, bne_iff_ne] at hf
        obtain ⟨⟨⟨⟨hn, rfl⟩, hfa⟩, hs⟩, hfb⟩ := hf
        simp only [Ty.deep] at hd
        obtain ⟨c1, c2, e1, g1, g2⟩ := h1
        obtain ⟨d1, d2, e2, k1, k2⟩ := h2
        have n1 : cs.drop (f.offset + a.size) = c2 := by rw [← List.drop_drop, e1, ← Ty.len a g1, List.drop_left]
        have n2 : ds.drop (f.offset + a.size) = d2 := by rw [← List.drop_drop, e2, ← Ty.len a k1, List.drop_left]
        have ha := (eq_both a).1 f.type d hfa (by omega) w W1 W2 F1 F2 c1 d1 x.1 y.1 g1 k1
        have hb := (eq_both b).2 r (f.offset + a.size) d hfb (by omega) w W1 W2 F1 F2 cs ds x.2 y.2 (by rw [n1]; exact g2) (by rw [n2]; exact k2)
        simp only [Op.eqFields, hn, ne_eq, not_false_eq_true, if_true, Sem.run_bind, part_run a hfa hs cs c1 c2 f.offset e1 g1 w, part_run a hfa hs ds d1 d2 f.offset e2 k1 w, ha, Result.andThen_ok, Sem.run_ite, Sem.run_pure, hb, Ty.eqv]
        cases a.eqv x.1 y.1 <;> simp⟩
/-- '==' at structs and arrays. -/
theorem run_eqTy (ty : Ty) (t : TypeId) (hf : (ty.eqFits P).1 t = true) (hd : ty.deep ≤ 10000) (w W1 W2 : World) (F1 F2 : Fp) (cs ds : List Value) (x y : ty.Data) (h1 : ty.holds W1 F1 cs x) (h2 : ty.holds W2 F2 ds y) (hv : ∀ cs, ty.val cs = .agg cs.toArray) :
    (binOp .eql t (.agg cs.toArray) (.agg ds.toArray)).run P w = .ok (.bool (ty.eqv x y)) w := by
  have h := (eq_both ty).1 t 10000 hf hd w W1 W2 F1 F2 cs ds x y h1 h2
  rw [hv, hv] at h
  rw [run_eql_struct, h]; rfl
theorem run_neTy (ty : Ty) (t : TypeId) (hf : (ty.eqFits P).1 t = true) (hd : ty.deep ≤ 10000) (w W1 W2 : World) (F1 F2 : Fp) (cs ds : List Value) (x y : ty.Data) (h1 : ty.holds W1 F1 cs x) (h2 : ty.holds W2 F2 ds y) (hv : ∀ cs, ty.val cs = .agg cs.toArray) :
    (binOp .neq t (.agg cs.toArray) (.agg ds.toArray)).run P w = .ok (.bool (!ty.eqv x y)) w := by
  have h := (eq_both ty).1 t 10000 hf hd w W1 W2 F1 F2 cs ds x y h1 h2
  rw [hv, hv] at h
  rw [run_neq_struct, h]; rfl
end
end
section
open Go.RowKit
section
variable {P : Program} {C : World → Prop} {o : Oper} {a : Act} {K : Act → Prop}
theorem quiet_eqTy (ty : Ty) (t t' : TypeId) (x y : Operand) (ho : o.op = .binOp .eql t x y t') (hf : (ty.eqFits P).1 t = true) (hd : ty.deep ≤ 10000) (hg : P.eqGuardType P.depth t = false) (hv : ∀ cs, ty.val cs = .agg cs.toArray)
    {W1 W2 : World} {F1 F2 : Fp} (cs ds : List Value) (d1 d2 : ty.Data) (hx : a.eval x = .agg cs.toArray) (hy : a.eval y = .agg ds.toArray) (h1 : ty.holds W1 F1 cs d1) (h2 : ty.holds W2 F2 ds d2) (hk : K (a.put o.dst (.bool (ty.eqv d1 d2)))) : o.quiet P a C K :=
  quiet_run _ (fun w _ => by
    unfold execOp
    simp only [ho, hx, hy, Sem.run_bind, run_eqGuard w .eql t x y _ _ (.inl rfl) hg, run_eqTy ty t hf hd w W1 W2 F1 F2 cs ds d1 d2 h1 h2 hv, Result.andThen_ok, Sem.run_pure]) hk
theorem quiet_neTy (ty : Ty) (t t' : TypeId) (x y : Operand) (ho : o.op = .binOp .neq t x y t') (hf : (ty.eqFits P).1 t = true) (hd : ty.deep ≤ 10000) (hg : P.eqGuardType P.depth t = false) (hv : ∀ cs, ty.val cs = .agg cs.toArray)
    {W1 W2 : World} {F1 F2 : Fp} (cs ds : List Value) (d1 d2 : ty.Data) (hx : a.eval x = .agg cs.toArray) (hy : a.eval y = .agg ds.toArray) (h1 : ty.holds W1 F1 cs d1) (h2 : ty.holds W2 F2 ds d2) (hk : K (a.put o.dst (.bool (!ty.eqv d1 d2)))) : o.quiet P a C K :=
  quiet_run _ (fun w _ => by
    unfold execOp
    simp only [ho, hx, hy, Sem.run_bind, run_eqGuard w .neq t x y _ _ (.inr rfl) hg, run_neTy ty t hf hd w W1 W2 F1 F2 cs ds d1 d2 h1 h2 hv, Result.andThen_ok, Sem.run_pure]) hk
theorem wpList_eqTy {w : World} {ops : Array Oper} {rest : List Oper} {Q : Exit → Act → World → Prop} (hgd : o.guard = none ∨ Region.wanted o (yielded ops a.tmps) = true) (ty : Ty) (t t' : TypeId) (x y : Operand) (ho : o.op = .binOp .eql t x y t') (hf : (ty.eqFits P).1 t = true) (hd : ty.deep ≤ 10000) (hg : P.eqGuardType P.depth t = false) (hv : ∀ cs, ty.val cs = .agg cs.toArray)
    {W1 W2 : World} {F1 F2 : Fp} (cs ds : List Value) (d1 d2 : ty.Data) (hx : a.eval x = .agg cs.toArray) (hy : a.eval y = .agg ds.toArray) (h1 : ty.holds W1 F1 cs d1) (h2 : ty.holds W2 F2 ds d2) (b : Bool) (hb : ty.eqv d1 d2 = b) (hk : wpList P ops Q rest (a.put o.dst (.bool b)) w) : wpList P ops Q (o :: rest) a w :=
  wpList_want hgd fun K hK => by
    subst hb
    unfold Oper.wp execOp
    simp only [ho, hx, hy, Sem.run_bind, run_eqGuard w .eql t x y _ _ (.inl rfl) hg, run_eqTy ty t hf hd w W1 W2 F1 F2 cs ds d1 d2 h1 h2 hv, Result.andThen_ok, Sem.run_pure]
    exact hK _ _ hk
theorem wpList_neTy {w : World} {ops : Array Oper} {rest : List Oper} {Q : Exit → Act → World → Prop} (hgd : o.guard = none ∨ Region.wanted o (yielded ops a.tmps) = true) (ty : Ty) (t t' : TypeId) (x y : Operand) (ho : o.op = .binOp .neq t x y t') (hf : (ty.eqFits P).1 t = true) (hd : ty.deep ≤ 10000) (hg : P.eqGuardType P.depth t = false) (hv : ∀ cs, ty.val cs = .agg cs.toArray)
    {W1 W2 : World} {F1 F2 : Fp} (cs ds : List Value) (d1 d2 : ty.Data) (hx : a.eval x = .agg cs.toArray) (hy : a.eval y = .agg ds.toArray) (h1 : ty.holds W1 F1 cs d1) (h2 : ty.holds W2 F2 ds d2) (b : Bool) (hb : (!ty.eqv d1 d2) = b) (hk : wpList P ops Q rest (a.put o.dst (.bool b)) w) : wpList P ops Q (o :: rest) a w :=
  wpList_want hgd fun K hK => by
    subst hb
    unfold Oper.wp execOp
    simp only [ho, hx, hy, Sem.run_bind, run_eqGuard w .neq t x y _ _ (.inr rfl) hg, run_neTy ty t hf hd w W1 W2 F1 F2 cs ds d1 d2 h1 h2 hv, Result.andThen_ok, Sem.run_pure]
    exact hK _ _ hk
end
end
section
open Go.RowKit

/-- The first state of a channel. -/
def stN (ch : Nat) : St := ⟨ch, 0, 0, 0, 0, 0, []⟩
theorem szStD {n : Nat} (h : n = 7) : (Try.prog.info? 40).map (·.size) = some n := by subst h; kernel_rfl
theorem DNew (ch : Nat) (w : World) (_hc : ch < 4294967296) : Calls Try.prog 44 #[.int .u32 (ch : Int)] w fun e w' => e = .returned (stv (stN ch) (.slice none 0 0)) ∧ Ext w w' := by
  have hz := zSTo
  have hzl : zst.length = 7 := rfl
  generalize zst = Z at hz hzl
  have hr8 : (w.alloc (.cells Z.toArray 40)).heap[w.heap.size]? = some (.cells Z.toArray 40 (0, 0)) := Blk.new w 40 Z
  have HZL := Lib.hid hzl
  clear hzl
  go_enter Try.func44, Try.ntmps44
  go_wp2_with (first
    | (refine wpList_alloc _ rfl 40 rfl _ hz ?_)
    | (refine wpList_store_row _ rfl 40 (.tmp 2) (.tmp 4) rfl w.heap.size rfl Z (stc (stN ch) (.slice none 0 0)) _ rfl hr8 (szStD rfl) (by rw [HZL.out]; rfl) (stc_one _ _ _ _) ?_)
    | fail)
  have hc9 := Blk.cells (t := 40) (setRow_at (cs' := (stc (stN ch) (.slice none 0 0)).toArray) hr8)
  (try simp only [Exit.inBlock, Exit.then])
  refine bodyPost_ret (results_agg rfl _ _ _ _ _ rfl Try.underlying40 rfl (szStD rfl) hc9) rfl ?_
  exact ⟨rfl, grown_then ((Ext.refl w).alloc _) (setRow_only _) (.inr (by rintro b ⟨⟩; omega))⟩
theorem two_zeroD {W : World} {F : Fp} : (Ty.arr 2 (.nat .u64)).holds W F [.int .u64 ((0 : Nat) : Int), .int .u64 ((0 : Nat) : Int)] [0, 0] := ⟨rfl, [_], _, rfl, ⟨rfl, by decide⟩, [_], [], rfl, ⟨rfl, by decide⟩, rfl⟩
theorem two_zero_eqD (W : World) : (binOp .eql 24 (.agg #[.int .u64 0, .int .u64 0]) (.agg #[.int .u64 0, .int .u64 0])).run Try.prog W = .ok (.bool true) W := by
  have h := run_eqTy (P := Try.prog) (.arr 2 (.nat .u64)) 24 (by kernel_rfl) (by decide) W W W (fun _ => True) (fun _ => True) _ _ _ _ two_zeroD two_zeroD (fun _ => rfl)
  exact h
set_option maxRecDepth 100000 in
set_option maxHeartbeats 2000000 in
theorem DSameNew (ch : Nat) (w : World) (_hc : ch < 4294967296) :
    Calls Try.prog 43 #[stv (stN ch) (.slice none 0 0), stv (stN ch) (.slice none 0 0)] w fun e w' => e = .returned (.bool true) ∧ Ext w w' := by
  have hgd : Try.prog.eqGuardType Try.prog.depth 24 = false := by kernel_rfl
  have hgq : ∀ (x y : Operand) (a b : Array Value) (W : World), (eqGuard .eql 24 x y (.agg a) (.agg b)).run Try.prog W = .ok () W := fun x y a b W => run_eqGuard W .eql _ x y a b (.inl rfl) hgd
  have hqm := two_zero_eqD
  have hcc : ((ch : Int) == (ch : Int)) = true := beq_self_eq_true _
  have hx0 : Ext w ((w.alloc (.cells #[.int .u32 (ch : Int), .int .u64 0, .int .u64 0, .int .u64 0, .int .u64 0, .int .u64 0, .slice none 0 0] 40)).alloc (.cells #[.int .u32 (ch : Int), .int .u64 0, .int .u64 0, .int .u64 0, .int .u64 0, .int .u64 0, .slice none 0 0] 40)) := ((Ext.refl w).alloc _).alloc _
  have HX0 := Lib.hid hx0
  clear hgd hx0
  show Calls _ _ #[.agg #[.int .u32 (ch : Int), .int .u64 0, .int .u64 0, .int .u64 0, .int .u64 0, .int .u64 0, .slice none 0 0], .agg #[.int .u32 (ch : Int), .int .u64 0, .int .u64 0, .int .u64 0, .int .u64 0, .int .u64 0, .slice none 0 0]] w _
  have heq : ∀ W, Calls Try.prog 61 #[.slice none 0 0, .slice none 0 0] W fun e w' => e = .returned (.bool true) ∧ Ext W w' := by
    intro W
    have HX : Hid (Ext W W) := Lib.hid (Ext.refl W)
    go_enter Try.func61, Try.ntmps61
    go_wp2
    go_loopw [5, 13] (fun p i wr => wr = W ∧ i = .int .i64 0 ∧ ∃ z, p = z) (fun _ i _ => 0 - (intOf i).toNat)
    case atStart => exact ⟨rfl, rfl, _, rfl⟩
    case round =>
      obtain ⟨rfl, rfl, z, rfl⟩ := hrel
      go_wp2
      go_ret
      exact ⟨rfl, HX.out⟩
  have HEQ := Lib.hid heq
  clear heq
  go_enter Try.func43, Try.ntmps43
  go_wp2_with (first
    | (go_at_call 61; refine (HEQ.out _).mono ?_; rintro e w1 ⟨rfl, hx1⟩)
    | fail)
  go_ret
  exact ⟨rfl, HX0.out.trans hx1⟩
theorem exec_build0D {P : Program} {o : Oper} {a : Act} {v : Array Value} (w : World) (t : TypeId) (ho : o.op = .build t #[]) (hb : P.built t [] = some v) : (execOp a.eval o).run P w = .ok (.value (.agg v)) w := by
  unfold execOp
  simp only [ho]
  rw [Sem.run_bind, run_build w t _ v (by simpa using hb)]
  simp
/-! ### A deed -/
def zsg : List Value := List.replicate 1024 (Value.int .u8 0) ++ [.int .u32 0, .slice none 0 0]
theorem zsg_len : zsg.length = 1026 := by unfold zsg; rw [List.length_append, List.length_replicate]; rfl
theorem zsg_one : ∀ u ∈ zsg, u.oneCell' = true := by
  intro u hu
  rcases List.mem_append.1 hu with h | h
  · rw [List.eq_of_mem_replicate h]; rfl
  · simp only [List.mem_cons, List.not_mem_nil, or_false] at h
    rcases h with rfl | rfl <;> rfl
theorem deed_zero : (Try.prog.info? 75).bind (fun i => i.zero.map (·.cells)) = some (zst ++ (zsg ++ zsg)).toArray := by
  unfold zsg
  kernel_rfl
theorem deed_fields : ∃ fields, Try.prog.underlying 75 = some (.struct fields) ∧ fields.toList.mapM (fun f => (Try.prog.info? f.type).map fun i => (f.offset, i.size)) = some [(0, 7), (7, 2052)] :=
  ⟨_, Try.underlying75, by kernel_rfl⟩
theorem deed_size {n : Nat} (h : n = 2059) : (Try.prog.info? 75).map (·.size) = some n := by subst h; kernel_rfl
theorem fill_deed {A B Z : List Value} (hA : A.length = 7) (hB : B.length = 7) (hZ : Z.length = 2052) : fillL ([(0, 7), (7, 2052)].toArray[·]?) (A ++ Z) [(0, B)] = some (B ++ Z) := by
  simp [fillL, hA, hB, hZ, List.drop_append, List.take_append]
set_option maxRecDepth 100000 in
set_option maxHeartbeats 4000000 in
theorem DFirst (ch : Nat) (w : World) (hch : ch < 4294967296) : Calls Try.prog 24 #[.int .u32 (ch : Int)] w fun e w' => e = .returned (.agg (stc (stN ch) (.slice none 0 0) ++ (zsg ++ zsg)).toArray) ∧ Ext w w' := by
  obtain ⟨fields, hfu, hfp⟩ := deed_fields
  have hzz := deed_zero
  have hzl : (zsg ++ zsg).length = 2052 := by rw [List.length_append, zsg_len]
  have hzo : ∀ u ∈ zsg ++ zsg, u.oneCell' = true := fun u hu => (List.mem_append.1 hu).elim (zsg_one u) (zsg_one u)
  have hfl := fill_deed (A := zst) (B := stc (stN ch) (.slice none 0 0)) rfl rfl hzl
  generalize zsg ++ zsg = ZZ at *
  have hdo : ∀ u ∈ stc (stN ch) (.slice none 0 0) ++ ZZ, u.oneCell' = true := fun u hu => (List.mem_append.1 hu).elim (stc_one _ none 0 0 u) (hzo u)
  have hal : (zst ++ ZZ).length = 2059 := by rw [List.length_append, hzl]; rfl
  have hbl : (stc (stN ch) (.slice none 0 0) ++ ZZ).length = 2059 := by rw [List.length_append, hzl]; rfl
  have hnew := fun W => DNew ch W hch
  obtain ⟨SV, hSV⟩ : ∃ SV, SV = stv (stN ch) (.slice none 0 0) := ⟨_, rfl⟩
  have hsvc : SV.cells = (stc (stN ch) (.slice none 0 0)).toArray := by rw [hSV]; rfl
  rw [← hSV] at hnew
  generalize stc (stN ch) (.slice none 0 0) = SB at *
  generalize hZA : zst ++ ZZ = ZA at *
  generalize hZB : SB ++ ZZ = ZB at *
  have hr0 : Blk (w.alloc (.cells ZA.toArray 75)) w.heap.size 75 ZA := Blk.new _ _ _
  have hx0 : Ext w (w.alloc (.cells ZA.toArray 75)) := (Ext.refl w).alloc _
  have HR0 := Lib.hid hr0
  have HX0 := Lib.hid hx0
  have HAL := Lib.hid hal
  have HBL := Lib.hid hbl
  have HFL := Lib.hid hfl
  have HNEW := Lib.hid hnew
  have HSVC := Lib.hid hsvc
  clear hr0 hx0 hal hbl hfl hnew hsvc hSV hZA hZB hzl hzo
  go_enter Try.func24, Try.ntmps24
  go_wp2_with (first
    | ((with_reducible refine wpDst 2 rfl ?_); refine wpList_alloc _ rfl 75 rfl _ hzz ?_)
    | fail)
  refine (HNEW.out _).mono ?_
  rintro e w1 ⟨rfl, hx1⟩
  have hr1 := HR0.out.keep hx1 (by simp)
  have HX1 := Lib.hid (HX0.out.trans hx1)
  clear hx1 HR0 HX0
  go_wp2_with (first
    | ((with_reducible refine wpDst 5 rfl ?_); go_must (refine wpList_build_st (.inl rfl) 75 #[(0, .tmp 4)] rfl fields ZA ZB _ [(0, SB)] hfu hzz hfp (by simp [Act.eval, HSVC.out]) HFL.out ?_))
    | ((with_reducible refine wpSto 2 5 rfl ?_); go_must (refine wpList_store_row _ rfl 75 (.tmp 2) (.tmp 5) rfl w.heap.size rfl ZA ZB 75 rfl hr1 (deed_size HBL.out) (by rw [HBL.out, HAL.out]) hdo ?_))
    | fail)
  have hc9 := Blk.cells (t := 75) (setRow_at (cs' := ZB.toArray) hr1)
  (try simp only [Exit.inBlock, Exit.then])
  refine bodyPost_ret (results_agg rfl _ _ _ _ _ rfl Try.underlying75 rfl (deed_size HBL.out) hc9) rfl ?_
  exact ⟨rfl, setRow_grown HX1.out _ _ (Nat.le_refl _)⟩
set_option maxRecDepth 100000 in
set_option maxHeartbeats 4000000 in
theorem DWholeFirst (ch c2 : Nat) (RC : List Value) (w : World) (hch : ch < 4294967296) (hc2 : c2 < 4294967296) :
    Calls Try.prog 22 #[.agg RC.toArray, .agg (stc (stN ch) (.slice none 0 0) ++ (zsg ++ zsg)).toArray, .int .u32 (c2 : Int)] w fun e w' => e = .returned (.bool (decide (ch = c2))) ∧ Ext w w' := by
  have hd0 : (stc (stN ch) (.slice none 0 0) ++ (zsg ++ zsg))[0]? = some (.int .u32 (ch : Int)) := rfl
  have hd1 : (stc (stN ch) (.slice none 0 0) ++ (zsg ++ zsg))[1]? = some (.int .u64 0) := rfl
  have htk : (stc (stN ch) (.slice none 0 0) ++ (zsg ++ zsg)).take 7 = stc (stN ch) (.slice none 0 0) := List.take_left' rfl
  generalize stc (stN ch) (.slice none 0 0) ++ (zsg ++ zsg) = DC at *
  have hx0 : Ext w ((w.alloc (.cells RC.toArray 79)).alloc (.cells DC.toArray 75)) := ((Ext.refl w).alloc _).alloc _
  have hb0 : Blk ((w.alloc (.cells RC.toArray 79)).alloc (.cells DC.toArray 75)) (w.heap.size + 1) 75 DC := Blk.new_at (by simp) _ _
  have c0 : ((w.alloc (.cells RC.toArray 79)).alloc (.cells DC.toArray 75)).cell? ⟨w.heap.size + 1, 0, none⟩ = some (.int .u32 (ch : Int)) := (hb0.cell 0).trans hd0
  have c1 : ((w.alloc (.cells RC.toArray 79)).alloc (.cells DC.toArray 75)).cell? ⟨w.heap.size + 1, 1, none⟩ = some (.int .u64 0) := (hb0.cell 1).trans hd1
  have hcs : Cells ((w.alloc (.cells RC.toArray 79)).alloc (.cells DC.toArray 75)) ⟨w.heap.size + 1, 0, none⟩ (stc (stN ch) (.slice none 0 0)) := by have h := hb0.cells.take 7; rw [htk] at h; exact h
  have HX0 := Lib.hid hx0
  clear hx0 hb0 hd0 hd1 htk
  by_cases he : ch = c2
  · subst he
    have hne : ((ch : Int) != (ch : Int)) = false := bne_self_eq_false _
    have hnew := fun W => DNew ch W hch
    have hsame := fun W => DSameNew ch W hch
    obtain ⟨SB, hSB⟩ : ∃ SB, SB = stc (stN ch) (.slice none 0 0) := ⟨_, rfl⟩
    have hsv : stv (stN ch) (.slice none 0 0) = .agg SB.toArray := by rw [hSB]; rfl
    have hsl : SB.length = 7 := by rw [hSB]; rfl
    rw [← hSB] at hcs
    rw [hsv] at hnew hsame
    have HCS := Lib.hid hcs
    have HNEW := Lib.hid hnew
    have HSAME := Lib.hid hsame
    have HSL := Lib.hid hsl
    clear hcs hnew hsame hsl hSB hsv
    go_enter Try.func22, Try.ntmps22
    go_wp2_with fail
    have hx1 : Ext w ((w.alloc (.cells RC.toArray 79)).alloc (.cells DC.toArray 75)).drew := HX0.out.drew
    have hcq : Cells ((w.alloc (.cells RC.toArray 79)).alloc (.cells DC.toArray 75)).drew ⟨w.heap.size + 1, 0, none⟩ SB := HCS.out
    have hlt : w.heap.size + 1 < ((w.alloc (.cells RC.toArray 79)).alloc (.cells DC.toArray 75)).drew.heap.size := by show _ < ((w.alloc (.cells RC.toArray 79)).alloc (.cells DC.toArray 75)).heap.size; simp
    have HX1 := Lib.hid hx1
    have HCQ := Lib.hid hcq
    have HLT := Lib.hid hlt
    clear hx1 hcq hlt HX0 HCS c0 c1
    generalize (w.alloc (.cells RC.toArray 79)).alloc (.cells DC.toArray 75) = wz at *
    refine stab_plain Ext ext_refl ext_trans [[0], [0, 1], [2], [2, 3], [0, 1, 2, 3, 4], [0, 1, 2, 3, 4, 5]] (fun i v wv => match i with | 0 => v = .pointer (some ⟨w.heap.size + 1, 0, none⟩) | 1 => v = .agg SB.toArray | 2 => v = .int .u32 (ch : Int) | 3 => v = .agg SB.toArray | 4 => v = .bool true | 5 => v = .bool true | _ => True) (by kernel_rfl) (by kernel_rfl) (by kernel_rfl) ?_ ?_ ?_
    · intro i v w1 w2 h hx
      match i, h with
      | 0, h => exact h
      | 1, h => exact h
      | 2, h => exact h
      | 3, h => exact h
      | 4, h => exact h
      | 5, h => exact h
      | i + 6, h => trivial
    · intro i hi o ho
      match i, hi, ho with
      | 0, _, ho =>
        obtain rfl := Option.some.inj ho
        intro s W hX hd K hK
        rw [if_pos (wanted_plain rfl)]
        clear hd
        replace hK : ∀ (v : Value) (W' : World), Ext W W' → (v = .pointer (some ⟨w.heap.size + 1, 0, none⟩)) → _ := hK
        simp only [mkOf, List.map_cons, List.map_nil, Act.put, List.setIfInBounds_toArray, List.set_cons_succ, List.set_cons_zero, Nat.reduceAdd, Nat.zero_add] at hK ⊢
        go_simp
        exact hK _ _ (Ext.refl _) rfl
      | 1, _, ho =>
        obtain rfl := Option.some.inj ho
        intro s W hX hd K hK
        rw [if_pos (wanted_plain rfl)]
        have d16 : (s 0) = .pointer (some ⟨w.heap.size + 1, 0, none⟩) := hd 0 (by decide) (by decide)
        clear hd
        replace hK : ∀ (v : Value) (W' : World), Ext W W' → (v = .agg SB.toArray) → _ := hK
        simp only [mkOf, List.map_cons, List.map_nil, Act.put, List.setIfInBounds_toArray, List.set_cons_succ, List.set_cons_zero, Nat.reduceAdd, Nat.zero_add] at hK ⊢
        simp only [d16] at hK ⊢
        refine wp_load_aggD 40 (.tmp 16) rfl _ rfl SB _ Try.underlying40 rfl (szStD HSL.out) (HCQ.out.keep (hX.block _ HLT.out (by simp))) ?_
        exact hK _ _ (Ext.refl _) rfl
      | 2, _, ho =>
        obtain rfl := Option.some.inj ho
        intro s W hX hd K hK
        rw [if_pos (wanted_plain rfl)]
        clear hd
        replace hK : ∀ (v : Value) (W' : World), Ext W W' → (v = .int .u32 (ch : Int)) → _ := hK
        simp only [mkOf, List.map_cons, List.map_nil, Act.put, List.setIfInBounds_toArray, List.set_cons_succ, List.set_cons_zero, Nat.reduceAdd, Nat.zero_add] at hK ⊢
        go_simp
        exact hK _ _ (Ext.refl _) rfl
      | 3, _, ho =>
        obtain rfl := Option.some.inj ho
        intro s W hX hd K hK
        rw [if_pos (wanted_plain rfl)]
        have d18 : (s 2) = .int .u32 (ch : Int) := hd 2 (by decide) (by decide)
        clear hd
        replace hK : ∀ (v : Value) (W' : World), Ext W W' → (v = .agg SB.toArray) → _ := hK
        simp only [mkOf, List.map_cons, List.map_nil, Act.put, List.setIfInBounds_toArray, List.set_cons_succ, List.set_cons_zero, Nat.reduceAdd, Nat.zero_add] at hK ⊢
        simp only [d18] at hK ⊢
        go_simp
        refine (HNEW.out _).mono ?_
        rintro e w' ⟨rfl, hx⟩
        exact hK _ _ hx rfl
      | 4, _, ho =>
        obtain rfl := Option.some.inj ho
        intro s W hX hd K hK
        rw [if_pos (wanted_plain rfl)]
        have d17 : (s 1) = .agg SB.toArray := hd 1 (by decide) (by decide)
        have d19 : (s 3) = .agg SB.toArray := hd 3 (by decide) (by decide)
        clear hd
        replace hK : ∀ (v : Value) (W' : World), Ext W W' → (v = .bool true) → _ := hK
        simp only [mkOf, List.map_cons, List.map_nil, Act.put, List.setIfInBounds_toArray, List.set_cons_succ, List.set_cons_zero, Nat.reduceAdd, Nat.zero_add] at hK ⊢
        simp only [d17, d19] at hK ⊢
        go_simp
        refine (HSAME.out _).mono ?_
        rintro e w' ⟨rfl, hx⟩
        exact hK _ _ hx rfl
      | 5, _, ho =>
        obtain rfl := Option.some.inj ho
        intro s W hX hd K hK
        rw [if_pos (wanted_plain rfl)]
        have d20 : (s 4) = .bool true := hd 4 (by decide) (by decide)
        clear hd
        replace hK : ∀ (v : Value) (W' : World), Ext W W' → (v = .bool true) → _ := hK
        simp only [mkOf, List.map_cons, List.map_nil, Act.put, List.setIfInBounds_toArray, List.set_cons_succ, List.set_cons_zero, Nat.reduceAdd, Nat.zero_add] at hK ⊢
        simp only [d20] at hK ⊢
        go_simp
        exact hK _ _ (Ext.refl _) rfl
      | i + 6, hi, _ => exact absurd hi (by simp)
    · intro s W hX hd
      have d16 : (s 0) = .pointer (some ⟨w.heap.size + 1, 0, none⟩) := hd 0 (by decide)
      have d17 : (s 1) = .agg SB.toArray := hd 1 (by decide)
      have d18 : (s 2) = .int .u32 (ch : Int) := hd 2 (by decide)
      have d19 : (s 3) = .agg SB.toArray := hd 3 (by decide)
      have d20 : (s 4) = .bool true := hd 4 (by decide)
      have d6 : (s 5) = .bool true := hd 5 (by decide)
      clear hd
      simp only [mkOf, List.map_cons, List.map_nil, Act.put, List.setIfInBounds_toArray, List.set_cons_succ, List.set_cons_zero, Nat.reduceAdd, Nat.zero_add]
      simp only [d6]
      (try simp only [Exit.then])
      go_wp2_with fail
      go_ret
      exact ⟨by simp, HX1.out.trans hX⟩
  · have hne : ((ch : Int) != (c2 : Int)) = true := by simp; omega
    have hdec : decide (ch = c2) = false := decide_eq_false he
    clear hcs he
    go_enter Try.func22, Try.ntmps22
    go_wp2_with fail
    go_ret
    exact ⟨by rw [hdec]; rfl, HX0.out⟩
set_option maxRecDepth 100000 in
set_option maxHeartbeats 4000000 in
theorem DBytesFirst (ch : Nat) (w : World) (hch : ch < 4294967296) :
    Calls Try.prog 25 #[.agg (stc (stN ch) (.slice none 0 0) ++ (zsg ++ zsg)).toArray] w fun e w' => ∃ A c, e = .returned (.slice A 45 c) ∧ 45 ≤ c ∧ c ≤ maxLen ∧ Ext w w' := by
  have hd1 : (stc (stN ch) (.slice none 0 0) ++ (zsg ++ zsg))[1]? = some (.int .u64 0) := rfl
  have htk : (stc (stN ch) (.slice none 0 0) ++ (zsg ++ zsg)).take 7 = stc (stN ch) (.slice none 0 0) := List.take_left' rfl
  generalize stc (stN ch) (.slice none 0 0) ++ (zsg ++ zsg) = DC at *
  have hx0 : Ext w (w.alloc (.cells DC.toArray 75)) := (Ext.refl w).alloc _
  have hb0 : Blk (w.alloc (.cells DC.toArray 75)) w.heap.size 75 DC := Blk.new _ _ _
  have hcs : Cells (w.alloc (.cells DC.toArray 75)) ⟨w.heap.size, 0, none⟩ (stc (stN ch) (.slice none 0 0)) := by have h := hb0.cells.take 7; rw [htk] at h; exact h
  have hlay := DLay (stN ch) ⟨Go.WalkArith.wf_u32 (by show 0 ≤ (ch : Int) ∧ (ch : Int) ≤ 4294967295; omega), rfl, rfl, rfl, rfl, rfl⟩ (.slice none 0 0) (fun _ => False) (.slice none 0 0) [] (w.alloc (.cells DC.toArray 75)) ⟨none, 0, [], rfl, Nat.le_refl _, by simp [maxLen], fun _ => rfl, fun h => absurd rfl h, rfl⟩ (fun _ h => h.elim) (fun _ h => h.elim) (Own.nil _ _ _) (Nat.zero_le _) (by simp)
  have hsl : (stateB (stN ch)).length = 45 := by rw [stateB_len _ (fun c hc => by cases hc)]; rfl
  obtain ⟨SB, hSB⟩ : ∃ SB, SB = stc (stN ch) (.slice none 0 0) := ⟨_, rfl⟩
  have hsv : stv (stN ch) (.slice none 0 0) = .agg SB.toArray := by rw [hSB]; rfl
  have hsl7 : SB.length = 7 := by rw [hSB]; rfl
  rw [← hSB] at hcs
  rw [hsv] at hlay
  have HLAY := Lib.hid hlay
  have HX0 := Lib.hid hx0
  have HSL := Lib.hid hsl
  have HSL7 := Lib.hid hsl7
  have HB0 := Lib.hid hb0
  have HD1 := Lib.hid hd1
  clear hlay hx0 hb0 hsl hsl7 hSB hsv hd1 htk
  go_enter Try.func25, Try.ntmps25
  go_wp2_with (first
    | ((with_reducible refine wpDst 5 rfl ?_); refine wpList_load_agg _ rfl 40 (.tmp 4) rfl _ rfl SB _ Try.underlying40 rfl (szStD HSL7.out) hcs ?_)
    | fail)
  refine HLAY.out.mono ?_
  rintro e w1 ⟨v1, rfl, ho1, hm1⟩
  have hx1 : Ext (w.alloc (.cells DC.toArray 75)) w1 := hm1.grown
  have c1 : w1.cell? ⟨w.heap.size, 1, none⟩ = some (.int .u64 0) := ((HB0.out.keep hx1 (by simp)).cell 1).trans HD1.out
  obtain ⟨A, c, xs, hv, h1, h2, -⟩ := ho1.holds
  have hl : ([] ++ stateB (stN ch)).length = 45 := by rw [List.nil_append]; exact HSL.out
  rw [hl] at hv h1
  have hv2 : v1 = .slice A 45 c := by simpa using hv
  subst hv2
  have HX1 := Lib.hid (HX0.out.trans hx1)
  have H1 := Lib.hid h1
  have H2 := Lib.hid h2
  clear ho1 hm1 hx1 hv h1 h2 hl hcs
  go_wp2_with fail
  go_ret
  exact ⟨A, c, rfl, H1.out, H2.out, HX1.out⟩
set_option maxRecDepth 100000 in
set_option maxHeartbeats 4000000 in
theorem DAwake (w : World) : Calls Try.prog 6 #[] w fun e w' => e = .returned (.bool true) ∧ Ext w w' := by
  have hfi := fun W => DFirst 3 W (by decide)
  have hw3 := fun RC W => DWholeFirst 3 3 RC W (by decide) (by decide)
  have hw4 := fun RC W => DWholeFirst 3 4 RC W (by decide) (by decide)
  have hby := fun W => DBytesFirst 3 W (by decide)
  have hzz := deed_zero
  have hzo : ∀ u ∈ zsg ++ zsg, u.oneCell' = true := fun u hu => (List.mem_append.1 hu).elim (zsg_one u) (zsg_one u)
  have hdo : ∀ u ∈ stc (stN 3) (.slice none 0 0) ++ (zsg ++ zsg), u.oneCell' = true := fun u hu => (List.mem_append.1 hu).elim (stc_one _ none 0 0 u) (hzo u)
  have hal : (zst ++ (zsg ++ zsg)).length = 2059 := by rw [List.length_append, List.length_append, zsg_len]; rfl
  have hbl : (stc (stN 3) (.slice none 0 0) ++ (zsg ++ zsg)).length = 2059 := by rw [List.length_append, List.length_append, zsg_len]; rfl
  obtain ⟨RC, hRC⟩ : ∃ RC : List Value, Try.prog.built 79 [] = some RC.toArray := ⟨List.replicate 64 (.int .u8 0) ++ [.int .i64 0], by kernel_rfl⟩
  generalize stc (stN 3) (.slice none 0 0) ++ (zsg ++ zsg) = DC at *
  generalize zst ++ (zsg ++ zsg) = ZA at *
  have h33 : decide ((3 : Nat) = 3) = true := rfl
  have h34 : decide ((3 : Nat) = 4) = false := rfl
  rw [h33] at hw3
  rw [h34] at hw4
  have HFI := Lib.hid hfi
  have HW3 := Lib.hid hw3
  have HW4 := Lib.hid hw4
  have HBY := Lib.hid hby
  have HAL := Lib.hid hal
  have HBL := Lib.hid hbl
  have HRC := Lib.hid hRC
  clear hfi hw3 hw4 hby hal hbl hRC hzo h33 h34
  go_enter Try.func6, Try.ntmps6
  go_wp2_with fail
  refine (HFI.out _).mono ?_
  rintro e w1 ⟨rfl, hx1⟩
  have hb1 : Blk (w1.alloc (.cells DC.toArray 75)) w1.heap.size 75 DC := Blk.new _ _ _
  have HB1 := Lib.hid hb1
  have HX1 : Hid (Ext w (w1.alloc (.cells DC.toArray 75))) := Lib.hid (hx1.alloc _)
  clear hb1 hx1
  go_wp2_with (first
    | ((with_reducible refine wpDst 1 rfl ?_); refine wpList_alloc _ rfl 75 rfl _ hzz ?_)
    | ((with_reducible refine wpSto 1 2 rfl ?_); go_must (refine wpList_store_new _ rfl 75 (.tmp 1) (.tmp 2) rfl rfl ZA DC 75 rfl (deed_size HBL.out) (by rw [HBL.out, HAL.out]) hdo ?_))
    | ((with_reducible refine wpDst 3 rfl ?_); go_must (refine wpList_build (.inl rfl) 79 #[] rfl (.agg RC.toArray) (exec_build0D _ _ rfl HRC.out) ?_))
    | ((with_reducible refine wpDst 4 rfl ?_); refine wpList_load_agg _ rfl 75 (.tmp 1) rfl _ rfl DC _ Try.underlying75 rfl (deed_size HBL.out) (by exact HB1.out.cells) ?_)
    | fail)
  refine (HW3.out RC _).mono ?_
  rintro e w2 ⟨rfl, hx2⟩
  have HB2 := Lib.hid (HB1.out.keep hx2 (by simp))
  have HX2 := Lib.hid (HX1.out.trans hx2)
  clear hx2 HB1 HX1
  go_wp2_with (first
    | ((with_reducible refine wpDst 7 rfl ?_); go_must (refine wpList_build (.inr (by kernel_rfl)) 79 #[] rfl (.agg RC.toArray) (exec_build0D _ _ rfl HRC.out) ?_))
    | ((with_reducible refine wpDst 8 rfl ?_); go_must (refine wpList_loadG (.inr (by kernel_rfl)) 75 (.tmp 1) rfl _ rfl DC _ Try.underlying75 rfl (deed_size HBL.out) (by exact HB2.out.cells) ?_))
    | (go_at_call 22; refine (HW4.out RC _).mono ?_; rintro e w3 ⟨rfl, hx3⟩; have HB3 := Lib.hid (HB2.out.keep hx3 (by simp)); have HX3 := Lib.hid (HX2.out.trans hx3); clear hx3)
    | ((with_reducible refine wpDst 13 rfl ?_); go_must (refine wpList_loadG (.inr (by kernel_rfl)) 75 (.tmp 1) rfl _ rfl DC _ Try.underlying75 rfl (deed_size HBL.out) (by exact HB3.out.cells) ?_))
    | (go_at_call 25; refine (HBY.out _).mono ?_; rintro e w4 ⟨A, c, rfl, hc1, hc2, hx4⟩; have HX4 := Lib.hid (HX3.out.trans hx4); clear hx4; unfold maxLen at hc2)
    | fail)
  go_ret
  exact ⟨rfl, HX4.out⟩
end
section

def byteN (n : Nat) : UInt8 := UInt8.ofNat n
/-- A secret, for a place and a value. -/
def secretM (seed : List UInt8) (n k b : Nat) : List UInt8 := (sha (textM 1 [seed, be 4 n, [byteN k, byteN b]])).take 16
/-- What a piece is known by. -/
def coverM (p : List UInt8) : List UInt8 := (sha (textM 5 [p])).take 16
def leafOf (all : List UInt8) : List UInt8 := sha (textM 2 [all])
def rowM (seed : List UInt8) (n k : Nat) : List UInt8 := coverM (secretM seed n k 0) ++ coverM (secretM seed n k 1)
def allM (seed : List UInt8) (n : Nat) : List UInt8 := (List.range 32).flatMap (rowM seed n)
def leafM (seed : List UInt8) (n : Nat) : List UInt8 := leafOf (allM seed n)
/-- One of a digest's first bits. -/
def bitM (d : List UInt8) (k : Nat) : Nat := (d.getD (k / 8) 0).toNat / 2 ^ (7 - k % 8) % 2
theorem bitM_lt (d : List UInt8) (k : Nat) : bitM d k < 2 := Nat.mod_lt _ (by decide)
theorem secretM_length (seed : List UInt8) (n k b : Nat) : (secretM seed n k b).length = 16 := by unfold secretM; rw [List.length_take, sha_length]; rfl
theorem coverM_length (p : List UInt8) : (coverM p).length = 16 := by unfold coverM; rw [List.length_take, sha_length]; rfl
theorem leafOf_length (a : List UInt8) : (leafOf a).length = 32 := sha_length _
theorem rowM_length (seed : List UInt8) (n k : Nat) : (rowM seed n k).length = 32 := by unfold rowM; rw [List.length_append, coverM_length, coverM_length]
/-- What a signature's piece k, with its other one, comes to for the leaf. -/
def rowFrom (b : Nat) (op ot : List UInt8) : List UInt8 := if b = 0 then coverM op ++ ot else ot ++ coverM op
/-- The open pieces, the other ones. -/
def openM (seed : List UInt8) (n : Nat) (d : List UInt8) (k : Nat) : List UInt8 := secretM seed n k (bitM d k)
def otherM (seed : List UInt8) (n : Nat) (d : List UInt8) (k : Nat) : List UInt8 := coverM (secretM seed n k (1 - bitM d k))
theorem row_back (seed : List UInt8) (n : Nat) (d : List UInt8) (k : Nat) : rowFrom (bitM d k) (openM seed n d k) (otherM seed n d k) = rowM seed n k := by
  have h := bitM_lt d k
  unfold rowFrom openM otherM rowM
  rcases Nat.eq_zero_or_pos (bitM d k) with h0 | h0
  · rw [if_pos h0, h0]
  · have h1 : bitM d k = 1 := by omega
    rw [if_neg (by omega), h1]
/-- A signature's piece k. -/
def pieceAt (s : List UInt8) (k : Nat) : List UInt8 := (s.drop (16 * k)).take 16
theorem pieceAt_length {s : List UInt8} {k : Nat} (h : 16 * k + 16 ≤ s.length) : (pieceAt s k).length = 16 := by unfold pieceAt; rw [List.length_take, List.length_drop]; omega
/-- What a key would be known by that signed a digest so: op, the open pieces, ot, the other ones. -/
def allFrom (op ot d : List UInt8) : List UInt8 := (List.range 32).flatMap fun k => rowFrom (bitM d k) (pieceAt op k) (pieceAt ot k)
def fromM (op ot d : List UInt8) : List UInt8 := leafOf (allFrom op ot d)
/-- Pieces, one behind the other. -/
def piecesM (f : Nat → List UInt8) (n : Nat) : List UInt8 := (List.range n).flatMap f
theorem piecesM_succ (f : Nat → List UInt8) (n : Nat) : piecesM f (n + 1) = piecesM f n ++ f n := by simp [piecesM, List.range_succ]
theorem piecesM_length {f : Nat → List UInt8} {m : Nat} (h : ∀ k, (f k).length = m) : ∀ n, (piecesM f n).length = m * n
  | 0 => by simp [piecesM]
  | n + 1 => by rw [piecesM_succ, List.length_append, piecesM_length h n, h, Nat.mul_succ]
theorem piecesM_split (f : Nat → List UInt8) {m : Nat} : ∀ {n : Nat}, m ≤ n → ∃ r, piecesM f n = piecesM f m ++ r
  | 0, h => by obtain rfl : m = 0 := by omega
               exact ⟨[], by simp⟩
  | n + 1, h => by
    by_cases e : m = n + 1
    · subst e; exact ⟨[], by simp⟩
    · obtain ⟨r, hr⟩ := piecesM_split f (show m ≤ n by omega)
      exact ⟨r ++ f n, by rw [piecesM_succ, hr, List.append_assoc]⟩
theorem pieceAt_pieces {f : Nat → List UInt8} (h : ∀ k, (f k).length = 16) {k n : Nat} (hk : k < n) : pieceAt (piecesM f n) k = f k := by
  obtain ⟨r, hr⟩ := piecesM_split f (show k + 1 ≤ n by omega)
  rw [hr, piecesM_succ, List.append_assoc, pieceAt, List.drop_left' (piecesM_length h k), List.take_left' (h k)]
/-- A signature leads to its key's leaf. -/
theorem from_back (seed : List UInt8) (n : Nat) (d : List UInt8) : fromM (piecesM (openM seed n d) 32) (piecesM (otherM seed n d) 32) d = leafM seed n := by
  unfold fromM leafM allFrom allM
  congr 1
  have h : ∀ l : List Nat, (∀ k ∈ l, k < 32) → l.flatMap (fun k => rowFrom (bitM d k) (pieceAt (piecesM (openM seed n d) 32) k) (pieceAt (piecesM (otherM seed n d) 32) k)) = l.flatMap (rowM seed n) := by
    intro l
    induction l with
    | nil => intro _; rfl
    | cons k l ih =>
      intro hl
      rw [List.flatMap_cons, List.flatMap_cons, ih (fun x hx => hl x (List.mem_cons_of_mem _ hx)), pieceAt_pieces (f := openM seed n d) (fun k => secretM_length _ _ _ _) (hl k (by simp)), pieceAt_pieces (f := otherM seed n d) (fun k => coverM_length _) (hl k (by simp)), row_back]
  exact h _ (fun k hk => by simpa using hk)
end
end Go.Proofs.Ytmicjaiiinaipaa
