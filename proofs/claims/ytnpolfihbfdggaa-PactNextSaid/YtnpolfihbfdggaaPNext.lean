/- Walk of the pact's Next. Conditions: the numbers are in their bounds. -/
import Derived.Test.YtnpolfihbfdggaaPNextM
set_option linter.unusedVariables false
set_option linter.unusedSimpArgs false
set_option linter.unnecessarySimpa false
namespace Go.Proofs.Ytnpolfihbfdggaa
open Go.RowKit

theorem sharedR {Q : Prop} {A : Nat → List Value → List Value → World → Prop} (J : Nat → List Value → List Value → World → Prop) (h1 : (∀ g u v w, J g u v w → A g u v w) → Q) (h2 : ∀ g u v w, J g u v w → A g u v w) : Q := h1 h2
set_option maxRecDepth 100000 in
set_option maxHeartbeats 1000000 in
theorem NextA (z : Int) (hz0 : z ≠ 0) (w : World) (SC PC OC Z : List Value) (sd : Int) (hin : ActIn SC PC OC Z)
    (hsnd : ∀ W, Ext w W → Calls Try.prog 25 #[.agg SC.toArray, .agg PC.toArray] W fun e w' => e = .returned (.int .i64 z) ∧ Ext W w') :
    Calls Try.prog 11 #[.agg SC.toArray, .agg PC.toArray, .int .i64 sd, .agg OC.toArray] w fun e w' => Ext w w' ∧ e = .returned (.tuple #[.agg Z.toArray, .int .i64 z]) := by
  have hzb : (z != 0) = true := by simpa using hz0
  clear hz0
  have hz := hin.zi
  have hzo := hin.zo
  have hso := hin.so
  have HZB := Lib.hid hin.zb
  have HSL := Lib.hid hin.sl
  have HPL := Lib.hid hin.pl
  have HOL := Lib.hid hin.ol
  have HZL := Lib.hid hin.zl
  obtain ⟨hx0, hb0, hb1, hb2, hb3, hsz⟩ := pre4 w SC PC OC Z
  have HX0 := Lib.hid hx0
  have HB0 := Lib.hid hb0
  have HB1 := Lib.hid hb1
  have HB2 := Lib.hid hb2
  have HB3 := Lib.hid hb3
  have HSZ := Lib.hid hsz
  have hscw := hb0.cells
  have hpcw := hb1.cells
  have HSND := Lib.hid hsnd
  clear hx0 hb0 hb1 hb2 hb3 hsz hin hsnd
  go_enter Try.func11, Try.ntmps11
  go_wp2_with (first
    | (refine wpList_alloc _ rfl 36 rfl _ hz ?_)
    | (refine wpList_load_agg _ rfl 36 (.tmp 4) rfl _ rfl SC _ Try.underlying36 rfl (state_size HSL.out) hscw ?_)
    | (refine wpList_load_agg _ rfl 24 (.tmp 5) rfl _ rfl PC _ Try.underlying24 rfl (by rw [HPL.out]; kernel_rfl) hpcw ?_)
    | fail)
  refine (HSND.out _ HX0.out).mono ?_
  rintro e w1 ⟨rfl, hx1⟩
  have hxw := HX0.out.trans hx1
  have hr8 : w1.heap[w.heap.size + 3]? = some (.cells Z.toArray 36 (0, 0)) := HB3.out.keep hx1 (by simp)
  go_wp2_with (first
    | (refine wpList_build (.inl rfl) 36 _ rfl (.agg zst.toArray) (by kernel_rfl) ?_; rw [HZB.out])
    | (refine wpList_store_row _ rfl 36 (.tmp 8) (.tmp 19) rfl (w.heap.size + 3) rfl Z Z _ rfl hr8 (state_size HZL.out) rfl hzo ?_)
    | fail)
  have hc9 : Cells ((w1).setRow (w.heap.size + 3) Z.toArray) ⟨w.heap.size + 3, 0, none⟩ Z := Blk.cells (t := 36) (setRow_at hr8)
  (try simp only [Exit.inBlock, Exit.then])
  refine bodyPost_ret (results_agg_tmp rfl _ _ _ _ _ rfl Try.underlying36 rfl (state_size HZL.out) hc9) rfl ?_
  exact ⟨grown_then hxw (setRow_only _) (.inr (by rintro g ⟨⟩; omega)), rfl⟩
set_option maxRecDepth 100000 in
set_option maxHeartbeats 1000000 in
theorem NextB (r : Nat) (hr : 200 ≤ r) (w : World) (SC PC OC Z : List Value) (sd : Int) (hin : ActIn SC PC OC Z) (s1 : SC[1]? = some (.int .u64 (r : Int)))
    (hsnd : ∀ W, Ext w W → Calls Try.prog 25 #[.agg SC.toArray, .agg PC.toArray] W fun e w' => e = .returned (.int .i64 0) ∧ Ext W w') :
    Calls Try.prog 11 #[.agg SC.toArray, .agg PC.toArray, .int .i64 sd, .agg OC.toArray] w fun e w' => Ext w w' ∧ e = .returned (.tuple #[.agg Z.toArray, .int .i64 8]) := by
  have hz := hin.zi
  have hzo := hin.zo
  have hso := hin.so
  have HZB := Lib.hid hin.zb
  have HSL := Lib.hid hin.sl
  have HPL := Lib.hid hin.pl
  have HOL := Lib.hid hin.ol
  have HZL := Lib.hid hin.zl
  obtain ⟨hx0, hb0, hb1, hb2, hb3, hsz⟩ := pre4 w SC PC OC Z
  have HX0 := Lib.hid hx0
  have HB0 := Lib.hid hb0
  have HB1 := Lib.hid hb1
  have HB2 := Lib.hid hb2
  have HB3 := Lib.hid hb3
  have HSZ := Lib.hid hsz
  have hscw := hb0.cells
  have hpcw := hb1.cells
  have HSND := Lib.hid hsnd
  clear hx0 hb0 hb1 hb2 hb3 hsz hin hsnd
  go_enter Try.func11, Try.ntmps11
  go_wp2_with (first
    | (refine wpList_alloc _ rfl 36 rfl _ hz ?_)
    | (refine wpList_load_agg _ rfl 36 (.tmp 4) rfl _ rfl SC _ Try.underlying36 rfl (state_size HSL.out) hscw ?_)
    | (refine wpList_load_agg _ rfl 24 (.tmp 5) rfl _ rfl PC _ Try.underlying24 rfl (by rw [HPL.out]; kernel_rfl) hpcw ?_)
    | fail)
  refine (HSND.out _ HX0.out).mono ?_
  rintro e w1 ⟨rfl, hx1⟩
  have hxw := HX0.out.trans hx1
  have hr8 : w1.heap[w.heap.size + 3]? = some (.cells Z.toArray 36 (0, 0)) := HB3.out.keep hx1 (by simp)
  have d1 : w1.cell? ⟨w.heap.size, 1, none⟩ = some (.int .u64 (r : Int)) := ((HB0.out.keep hx1 (by simp)).cell 1).trans s1
  go_wp2_with (first
    | (refine wpList_build (.inl rfl) 36 _ rfl (.agg zst.toArray) (by kernel_rfl) ?_; rw [HZB.out])
    | (refine wpList_store_row _ rfl 36 (.tmp 8) (.tmp 25) rfl (w.heap.size + 3) rfl Z Z _ rfl hr8 (state_size HZL.out) rfl hzo ?_)
    | fail)
  have hc9 : Cells ((w1).setRow (w.heap.size + 3) Z.toArray) ⟨w.heap.size + 3, 0, none⟩ Z := Blk.cells (t := 36) (setRow_at hr8)
  (try simp only [Exit.inBlock, Exit.then])
  refine bodyPost_ret (results_agg_tmp rfl _ _ _ _ _ rfl Try.underlying36 rfl (state_size HZL.out) hc9) rfl ?_
  exact ⟨grown_then hxw (setRow_only _) (.inr (by rintro g ⟨⟩; omega)), rfl⟩
set_option maxRecDepth 100000 in
set_option maxHeartbeats 1000000 in
theorem NextC (r : Nat) (hr : r < 200) (w : World) (SC PC OC Z : List Value) (sd : Int) (hsd : sd ≠ turnM (r + 1)) (hin : ActIn SC PC OC Z) (s1 : SC[1]? = some (.int .u64 (r : Int)))
    (hsnd : ∀ W, Ext w W → Calls Try.prog 25 #[.agg SC.toArray, .agg PC.toArray] W fun e w' => e = .returned (.int .i64 0) ∧ Ext W w') :
    Calls Try.prog 11 #[.agg SC.toArray, .agg PC.toArray, .int .i64 sd, .agg OC.toArray] w fun e w' => Ext w w' ∧ e = .returned (.tuple #[.agg Z.toArray, .int .i64 26]) := by
  have hsb : (sd != turnM (r + 1)) = true := by simpa using hsd
  clear hsd
  have hz := hin.zi
  have hzo := hin.zo
  have hso := hin.so
  have HZB := Lib.hid hin.zb
  have HSL := Lib.hid hin.sl
  have HPL := Lib.hid hin.pl
  have HOL := Lib.hid hin.ol
  have HZL := Lib.hid hin.zl
  obtain ⟨hx0, hb0, hb1, hb2, hb3, hsz⟩ := pre4 w SC PC OC Z
  have HX0 := Lib.hid hx0
  have HB0 := Lib.hid hb0
  have HB1 := Lib.hid hb1
  have HB2 := Lib.hid hb2
  have HB3 := Lib.hid hb3
  have HSZ := Lib.hid hsz
  have hscw := hb0.cells
  have hpcw := hb1.cells
  have HSND := Lib.hid hsnd
  clear hx0 hb0 hb1 hb2 hb3 hsz hin hsnd
  go_enter Try.func11, Try.ntmps11
  go_wp2_with (first
    | (refine wpList_alloc _ rfl 36 rfl _ hz ?_)
    | (refine wpList_load_agg _ rfl 36 (.tmp 4) rfl _ rfl SC _ Try.underlying36 rfl (state_size HSL.out) hscw ?_)
    | (refine wpList_load_agg _ rfl 24 (.tmp 5) rfl _ rfl PC _ Try.underlying24 rfl (by rw [HPL.out]; kernel_rfl) hpcw ?_)
    | fail)
  refine (HSND.out _ HX0.out).mono ?_
  rintro e w1 ⟨rfl, hx1⟩
  have hxw := HX0.out.trans hx1
  have hr8 : w1.heap[w.heap.size + 3]? = some (.cells Z.toArray 36 (0, 0)) := HB3.out.keep hx1 (by simp)
  have d1 : w1.cell? ⟨w.heap.size, 1, none⟩ = some (.int .u64 (r : Int)) := ((HB0.out.keep hx1 (by simp)).cell 1).trans s1
  have htn : ∀ W, Calls Try.prog 17 #[.int .u64 ((r : Int) + 1)] W fun e w' => e = .returned (.int .i64 (turnM (r + 1))) ∧ W = w' := fun W => by
    have h := Turn (r + 1) W (by unfold M64; omega)
    simpa using h
  have HTN := Lib.hid htn
  clear htn
  generalize turnM (r + 1) = tn at *
  go_wp2_with (first
    | (go_at_call 17; refine (HTN.out _).mono ?_; rintro e _ ⟨rfl, rfl⟩)
    | (refine wpList_build (.inl rfl) 36 _ rfl (.agg zst.toArray) (by kernel_rfl) ?_; rw [HZB.out])
    | (refine wpList_store_row _ rfl 36 (.tmp 8) (.tmp 33) rfl (w.heap.size + 3) rfl Z Z _ rfl hr8 (state_size HZL.out) rfl hzo ?_)
    | fail)
  have hc9 : Cells ((w1).setRow (w.heap.size + 3) Z.toArray) ⟨w.heap.size + 3, 0, none⟩ Z := Blk.cells (t := 36) (setRow_at hr8)
  (try simp only [Exit.inBlock, Exit.then])
  refine bodyPost_ret (results_agg_tmp rfl _ _ _ _ _ rfl Try.underlying36 rfl (state_size HZL.out) hc9) rfl ?_
  exact ⟨grown_then hxw (setRow_only _) (.inr (by rintro g ⟨⟩; omega)), rfl⟩
/-- What Next says behind a sound state, a round below 200 and the right turn. -/
def tailM (s : St) (p0 p1 : Nat) (side : Int) (o : Wish) : St × Int :=
  if (actM s p0 p1 side o).2 ≠ 0 then (.zero, (actM s p0 p1 side o).2)
  else if soundM { (actM s p0 p1 side o).1 with round := s.round + 1 } p0 p1 ≠ 0 then (.zero, soundM { (actM s p0 p1 side o).1 with round := s.round + 1 } p0 p1)
  else ({ (actM s p0 p1 side o).1 with round := s.round + 1 }, 0)
set_option maxRecDepth 100000 in
set_option maxHeartbeats 1000000 in
theorem NextD (s : St) (v : Value) (p0 p1 : Nat) (sd : Int) (o : Wish) (w : World) (F : Fp) (hs : StOk s) (hp0 : p0 < M64) (hp1 : p1 < M64) (hok : CondOk o.c) (ham : o.am < M64) (hc : Conds w F v s.cs) (hF : ∀ b, F b → b < w.heap.size) (hlen : List.length (α := Cd) s.cs ≤ 8)
    (hside : ∀ c ∈ s.cs, c.2.1 = 0 ∨ c.2.1 = 1) (hr : s.round < 200) (hsd : turnM (s.round + 1) = sd) (SC PC OC Z : List Value) (hSC : stc s v = SC) (hPC : ptc p0 p1 = PC) (hOC : wishCells o = OC) (hZE : zst = Z) (hin : ActIn SC PC OC Z)
    (hsnd : ∀ W, Ext w W → Calls Try.prog 25 #[.agg SC.toArray, .agg PC.toArray] W fun e w' => e = .returned (.int .i64 0) ∧ Ext W w') :
    Calls Try.prog 11 #[.agg SC.toArray, .agg PC.toArray, .int .i64 sd, .agg OC.toArray] w fun e w' => ∃ v', e = .returned (.tuple #[stv (tailM s p0 p1 sd o).1 v', .int .i64 (tailM s p0 p1 sd o).2]) ∧ OwnC w' v' (tailM s p0 p1 sd o).1.cs ∧ Ext w w' ∧ ∀ b, v'.ownBlock = some b → w.heap.size ≤ b := by
  have hsd01 : sd = 0 ∨ sd = 1 := hsd ▸ turn_side _
  have s1 : SC[1]? = some (.int .u64 (s.round : Int)) := by rw [← hSC]; rfl
  have htn : ∀ W, Calls Try.prog 17 #[.int .u64 ((s.round : Int) + 1)] W fun e w' => e = .returned (.int .i64 sd) ∧ W = w' := fun W => by
    have h := Turn (s.round + 1) W (by unfold M64; omega)
    rw [hsd] at h
    simpa using h
  have HTN := Lib.hid htn
  clear htn hsd
  have hsb : (sd != sd) = false := by simp
  have hact : ∀ (w0 : World) (al : Option Nat) (W : World) (v1 : Value), NJ w0 Z al W v1 s.cs → Calls Try.prog 34 #[.agg (stc s v1).toArray, .agg PC.toArray, .int .i64 sd, .agg OC.toArray] W fun e w' => ∃ (R : List Value) (v2 : Value), e = .returned (.tuple #[.agg R.toArray, .int .i64 (actM s p0 p1 sd o).2]) ∧ R = stc (actM s p0 p1 sd o).1 v2 ∧
      NJ w0 Z al w' v2 (actM s p0 p1 sd o).1.cs ∧ KeepB (fun b => b < w0.heap.size) W w' := fun w0 al W v1 h => by
    rw [← hPC, ← hOC]
    exact ActStep hs hp0 hp1 hok ham hsd01 (by omega) hside h
  have htw : ∀ (w0 : World) (al : Option Nat) (W : World), Ext w w0 → NJ w0 Z al W (.slice none 0 0) [] → Calls Try.prog 29 #[.agg SC.toArray] W fun e w' => ∃ (T : List Value) (v1 : Value), e = .returned (.agg T.toArray) ∧ T = stc s v1 ∧ NJ w0 Z al w' v1 s.cs ∧ KeepB (fun b => b < w0.heap.size) W w' := fun w0 al W hx h => by
    rw [← hSC]
    exact TwinStep (hx.holds hF hc) (fun b hb => Nat.lt_of_lt_of_le (hF b hb) hx.size) (by omega) h
  have hak := fun h => act_ok (p0 := p0) (p1 := p1) (side := sd) (o := o) hs h hside hsd01
  obtain ⟨res, hres⟩ : ∃ res, res = tailM s p0 p1 sd o := ⟨_, rfl⟩
  rw [← hres]
  unfold tailM at hres
  generalize hn : actM s p0 p1 sd o = nz at *
  obtain ⟨n, z⟩ := nz
  simp only at hres hact hak
  have HACT := Lib.hid hact
  have HTW := Lib.hid htw
  have HAK := Lib.hid hak
  have HRES := Lib.hid hres
  have HR := Lib.hid hr
  have HZE := Lib.hid hZE
  have HPC := Lib.hid hPC
  have HLEN := Lib.hid hlen
  have hp0n := hp0
  have hp1n := hp1
  clear hact htw hak hres hn hside hsd01 hs ham hok hlen hc hF hSC hOC hZE hPC
  have hz := hin.zi
  have hzo := hin.zo
  have hso := hin.so
  have HZB := Lib.hid hin.zb
  have HSL := Lib.hid hin.sl
  have HPL := Lib.hid hin.pl
  have HOL := Lib.hid hin.ol
  have HZL := Lib.hid hin.zl
  obtain ⟨hx0, hb0, hb1, hb2, hb3, hsz⟩ := pre4 w SC PC OC Z
  have HX0 := Lib.hid hx0
  have HB0 := Lib.hid hb0
  have HB1 := Lib.hid hb1
  have HB2 := Lib.hid hb2
  have HB3 := Lib.hid hb3
  have HSZ := Lib.hid hsz
  have hscw := hb0.cells
  have hpcw := hb1.cells
  have HSND := Lib.hid hsnd
  clear hx0 hb0 hb1 hb2 hb3 hsz hin hsnd
  go_enter Try.func11, Try.ntmps11
  go_wp2_with (first
    | (refine wpList_alloc _ rfl 36 rfl _ hz ?_)
    | (refine wpList_load_agg _ rfl 36 (.tmp 4) rfl _ rfl SC _ Try.underlying36 rfl (state_size HSL.out) hscw ?_)
    | (refine wpList_load_agg _ rfl 24 (.tmp 5) rfl _ rfl PC _ Try.underlying24 rfl (by rw [HPL.out]; kernel_rfl) hpcw ?_)
    | fail)
  refine (HSND.out _ HX0.out).mono ?_
  rintro e w1 ⟨rfl, hx1⟩
  have hxw := HX0.out.trans hx1
  have hb0 := HB0.out.keep hx1 (by simp)
  have hb1 := HB1.out.keep hx1 (by simp)
  have hb2 := HB2.out.keep hx1 (by simp)
  have hb3 := HB3.out.keep hx1 (by simp)
  have hn4 : w.heap.size + 4 ≤ w1.heap.size := by have h1 := HSZ.out; have h2 := hx1.size; omega
  have d1 : w1.cell? ⟨w.heap.size, 1, none⟩ = some (.int .u64 (s.round : Int)) := (hb0.cell 1).trans s1
  have HC0 := Lib.hid hb0
  have HC1 := Lib.hid hb1
  have HC2 := Lib.hid hb2
  have HC3 := Lib.hid hb3
  have HXW := Lib.hid hxw
  have HN4 := Lib.hid hn4
  clear hb0 hb1 hb2 hb3 hxw hn4
  go_wp2_with (first
    | (go_at_call 17; refine (HTN.out _).mono ?_; rintro e _ ⟨rfl, rfl⟩)
    | fail)
  have hxd := HXW.out.trans (Ext.refl w1).drew
  have hJ := NJ.start w1.drew Z
  have hlt4 : w.heap.size + 4 ≤ w1.drew.heap.size := HN4.out
  have hs0 : Cells w1.drew ⟨w.heap.size, 0, none⟩ SC := HC0.out.cells
  have hp0 : Cells w1.drew ⟨w.heap.size + 1, 0, none⟩ PC := HC1.out.cells
  have ho0 : Cells w1.drew ⟨w.heap.size + 2, 0, none⟩ OC := HC2.out.cells
  have HCS := Lib.hid hs0
  have HCP := Lib.hid hp0
  have HCO := Lib.hid ho0
  have hd1 : Blk w1.drew (w.heap.size + 1) 24 PC := HC1.out
  have HD1 := Lib.hid hd1
  have hd3 : Blk w1.drew (w.heap.size + 3) 36 Z := HC3.out
  have HD3 := Lib.hid hd3
  have HXD := Lib.hid hxd
  clear hxd hs0 hp0 ho0 hd1 hd3
  refine startM (KeepB fun b => b < w1.drew.heap.size) (by kernel_rfl) ?_
  generalize w1.drew = w0 at *
  have HJ := Lib.hid hJ
  clear hJ
  apply sharedR (fun g T R W => ∃ v2, R = stc n v2 ∧ NJ w0 Z (some g) W v2 n.cs)
  · intro hM
    refine takeK 0 rfl (by kernel_rfl) (by kernel_rfl) (by kernel_rfl) rfl (fun _ _ _ _ h => h) rfl (fun K hK => ?_)
    refine quiet_agg 36 (.tmp 4) rfl _ rfl SC _ Try.underlying36 rfl (state_size HSL.out) (fun W' h => KeepB.cells h HCS.out (by simp only; omega)) ?_
    refine hK _ ?_
    simp only [Act.put, List.setIfInBounds_toArray, List.set_cons_succ, List.set_cons_zero]
    clear hK K
    refine takeK 2 rfl (by kernel_rfl) (by kernel_rfl) (by kernel_rfl) rfl (fun _ _ _ _ h => h) rfl (fun K hK => ?_)
    refine quiet_agg 24 (.tmp 5) rfl _ rfl PC _ Try.underlying24 rfl (by rw [HPL.out]; kernel_rfl) (fun W' h => KeepB.cells h HCP.out (by simp only; omega)) ?_
    refine hK _ ?_
    simp only [Act.put, List.setIfInBounds_toArray, List.set_cons_succ, List.set_cons_zero]
    clear hK K
    refine takeK 3 rfl (by kernel_rfl) (by kernel_rfl) (by kernel_rfl) rfl (fun _ _ _ _ h => h) rfl (fun K hK => ?_)
    go_big_quiet_op
    first | refine hK _ ?_ | refine ⟨_, fun _ _ => rfl, hK _ ?_⟩
    clear hK K
    refine takeK 4 rfl (by kernel_rfl) (by kernel_rfl) (by kernel_rfl) rfl (fun _ _ _ _ h => h) rfl (fun K hK => ?_)
    refine quiet_agg 46 (.tmp 7) rfl _ rfl OC _ Try.underlying46 rfl (op_size HOL.out) (fun W' h => KeepB.cells h HCO.out (by simp only; omega)) ?_
    refine hK _ ?_
    simp only [Act.put, List.setIfInBounds_toArray, List.set_cons_succ, List.set_cons_zero]
    clear hK K
    refine bothM 1 9 rfl rfl (by kernel_rfl) rfl rfl (fun K hK => ?_) (fun K hK => ?_)
    · go_simp
      refine (HTW.out w0 _ _ HXD.out HJ.out).mono ?_
      rintro e w5 ⟨T, v1, rfl, hT, hJ, hkb⟩
      have HT := Lib.hid hT
      clear hT
      have HJ := Lib.hid hJ
      clear hJ
      refine hK _ _ (hkb) ?_
      clear hK K
      refine bothM 5 9 rfl rfl (by kernel_rfl) rfl rfl (fun K hK => ?_) (fun K hK => ?_)
      · go_simp
        refine (show Calls _ _ #[.agg T.toArray, _, _, _] _ _ from HT.out ▸ HACT.out w0 _ _ v1 HJ.out).mono ?_
        rintro e w6 ⟨R, v2, rfl, hR, hJ, hkb2⟩
        have HJ := Lib.hid hJ
        clear hJ
        have HRR := Lib.hid hR
        clear hR
        refine hK _ _ (hkb2) ?_
        clear hK K
        refine takeK 6 rfl (by kernel_rfl) (by kernel_rfl) (by kernel_rfl) rfl (fun _ _ _ _ h => h) rfl (fun K hK => ?_)
        go_big_quiet_op
        first | refine hK _ ?_ | refine ⟨_, fun _ _ => rfl, hK _ ?_⟩
        clear hK K
        refine takeK 7 rfl (by kernel_rfl) (by kernel_rfl) (by kernel_rfl) rfl (fun _ _ _ _ h => h) rfl (fun K hK => ?_)
        go_big_quiet_op
        first | refine hK _ ?_ | refine ⟨_, fun _ _ => rfl, hK _ ?_⟩
        clear hK K
        refine takeK 8 rfl (by kernel_rfl) (by kernel_rfl) (by kernel_rfl) rfl (fun _ _ _ _ h => h) rfl (fun K hK => ?_)
        go_big_quiet_op
        first | refine hK _ ?_ | refine ⟨_, fun _ _ => rfl, hK _ ?_⟩
        clear hK K
        refine stepM 9 rfl (by kernel_rfl) rfl (fun K hK => ?_)
        refine wp_alloc_agg 36 rfl Z hz ?_
        refine hK _ _ (HJ.out.keepAlloc _) ?_
        clear hK K
        (try simp only [Act.put, List.setIfInBounds_toArray, List.set_cons_succ, List.set_cons_zero])
        have HJ := Lib.hid HJ.out.alloc
        have hJf := HJ.out
        revert hJf
        generalize w6.alloc (.cells Z.toArray 36) = W9
        generalize w6.heap.size = g9
        intro hJf
        exact hM g9 T R W9 ⟨v2, HRR.out, hJf⟩
      · refine wp_alloc_agg 36 rfl Z hz ?_
        refine hK _ _ (HJ.out.keepAlloc _) ?_
        clear hK K
        (try simp only [Act.put, List.setIfInBounds_toArray, List.set_cons_succ, List.set_cons_zero])
        have HJ := Lib.hid HJ.out.alloc
        refine stepM 5 rfl (by kernel_rfl) rfl (fun K hK => ?_)
        go_simp
        refine (show Calls _ _ #[.agg T.toArray, _, _, _] _ _ from HT.out ▸ HACT.out w0 _ _ v1 HJ.out).mono ?_
        rintro e w6 ⟨R, v2, rfl, hR, hJ, hkb2⟩
        have HJ := Lib.hid hJ
        clear hJ
        have HRR := Lib.hid hR
        clear hR
        refine hK _ _ (hkb2) ?_
        clear hK K
        refine takeK 6 rfl (by kernel_rfl) (by kernel_rfl) (by kernel_rfl) rfl (fun _ _ _ _ h => h) rfl (fun K hK => ?_)
        go_big_quiet_op
        first | refine hK _ ?_ | refine ⟨_, fun _ _ => rfl, hK _ ?_⟩
        clear hK K
        refine takeK 7 rfl (by kernel_rfl) (by kernel_rfl) (by kernel_rfl) rfl (fun _ _ _ _ h => h) rfl (fun K hK => ?_)
        go_big_quiet_op
        first | refine hK _ ?_ | refine ⟨_, fun _ _ => rfl, hK _ ?_⟩
        clear hK K
        refine takeK 8 rfl (by kernel_rfl) (by kernel_rfl) (by kernel_rfl) rfl (fun _ _ _ _ h => h) rfl (fun K hK => ?_)
        go_big_quiet_op
        first | refine hK _ ?_ | refine ⟨_, fun _ _ => rfl, hK _ ?_⟩
        clear hK K
        refine relist (by kernel_rfl) (hM _ T R _ ⟨v2, HRR.out, HJ.out⟩)
    · refine wp_alloc_agg 36 rfl Z hz ?_
      refine hK _ _ (HJ.out.keepAlloc _) ?_
      clear hK K
      (try simp only [Act.put, List.setIfInBounds_toArray, List.set_cons_succ, List.set_cons_zero])
      have HJ := Lib.hid HJ.out.alloc
      refine stepM 1 rfl (by kernel_rfl) rfl (fun K hK => ?_)
      go_simp
      refine (HTW.out w0 _ _ HXD.out HJ.out).mono ?_
      rintro e w5 ⟨T, v1, rfl, hT, hJ, hkb⟩
      have HT := Lib.hid hT
      clear hT
      have HJ := Lib.hid hJ
      clear hJ
      refine hK _ _ (hkb) ?_
      clear hK K
      refine stepM 5 rfl (by kernel_rfl) rfl (fun K hK => ?_)
      go_simp
      refine (show Calls _ _ #[.agg T.toArray, _, _, _] _ _ from HT.out ▸ HACT.out w0 _ _ v1 HJ.out).mono ?_
      rintro e w6 ⟨R, v2, rfl, hR, hJ, hkb2⟩
      have HJ := Lib.hid hJ
      clear hJ
      have HRR := Lib.hid hR
      clear hR
      refine hK _ _ (hkb2) ?_
      clear hK K
      refine takeK 6 rfl (by kernel_rfl) (by kernel_rfl) (by kernel_rfl) rfl (fun _ _ _ _ h => h) rfl (fun K hK => ?_)
      go_big_quiet_op
      first | refine hK _ ?_ | refine ⟨_, fun _ _ => rfl, hK _ ?_⟩
      clear hK K
      refine takeK 7 rfl (by kernel_rfl) (by kernel_rfl) (by kernel_rfl) rfl (fun _ _ _ _ h => h) rfl (fun K hK => ?_)
      go_big_quiet_op
      first | refine hK _ ?_ | refine ⟨_, fun _ _ => rfl, hK _ ?_⟩
      clear hK K
      refine takeK 8 rfl (by kernel_rfl) (by kernel_rfl) (by kernel_rfl) rfl (fun _ _ _ _ h => h) rfl (fun K hK => ?_)
      go_big_quiet_op
      first | refine hK _ ?_ | refine ⟨_, fun _ _ => rfl, hK _ ?_⟩
      clear hK K
      refine relist (by kernel_rfl) (hM _ T R _ ⟨v2, HRR.out, HJ.out⟩)
  rintro g T R W ⟨v2, hR, hJ⟩
  have hgb := hJ.blk g rfl
  have hrl : R.length = 7 := by rw [hR]; rfl
  have hro : ∀ u ∈ R, u.oneCell' = true := by obtain ⟨A2, c2, h⟩ := hJ.own.form; rw [hR, h]; exact stc_one _ _ _ _
  have r1 : R[1]? = some (.int .u64 (n.round : Int)) := by rw [hR]; rfl
  have HRL := Lib.hid hrl
  have HGB := Lib.hid hgb
  have HJ := Lib.hid hJ
  have HRE := Lib.hid hR
  clear hrl hgb hJ hR
  refine stepM 10 rfl (by kernel_rfl) rfl (fun K hK => ?_)
  refine wp_store_row 36 (.tmp 11) (.tmp 41) rfl g rfl Z R _ rfl HGB.out.2 (state_size HRL.out) (by rw [HRL.out, HZL.out]) hro ?_
  refine hK _ _ (fun b hb => (setRow_only _).block _ (Nat.lt_of_lt_of_le hb HJ.out.ext.size) (by have := HGB.out.1; simp; omega)) ?_
  clear hK K
  (try simp only [Act.put, List.setIfInBounds_toArray, List.set_cons_succ, List.set_cons_zero])
  refine takeK 11 rfl (by kernel_rfl) (by kernel_rfl) (by kernel_rfl) rfl (fun _ _ _ _ h => h) rfl (fun K hK => ?_)
  go_big_quiet_op
  first | refine hK _ ?_ | refine ⟨_, fun _ _ => rfl, hK _ ?_⟩
  clear hK K
  refine doneM (by kernel_rfl) ?_ _
  have hB8 : (W.setRow g R.toArray).heap[w.heap.size + 3]? = some (.cells Z.toArray 36 (0, 0)) := (HD3.out.keep HJ.out.ext (by simp)).keep (setRow_only _) (by have := HGB.out.1; simp; omega)
  have hP8 : Blk (W.setRow g R.toArray) (w.heap.size + 1) 24 PC := (HD1.out.keep HJ.out.ext (by simp)).keep (setRow_only _) (by have := HGB.out.1; simp; omega)
  have hR8 : Blk (W.setRow g R.toArray) g 36 R := setRow_at HGB.out.2
  have hO8 : OwnC (W.setRow g R.toArray) v2 n.cs := HJ.out.own.keep (setRow_only _) (fun b hb e => (HJ.out.far b hb).2 e.symm)
  have hX8 : Ext w (W.setRow g R.toArray) := grown_then (HXD.out.trans HJ.out.ext) (setRow_only _) (.inr (by rintro b ⟨⟩; have := HGB.out.1; omega))
  have hg4 : w.heap.size + 4 ≤ g := by have := HGB.out.1; omega
  have hfar : ∀ b, v2.ownBlock = some b → w.heap.size + 4 ≤ b ∧ g ≠ b := fun b hb => ⟨by have := (HJ.out.far b hb).1; omega, fun e => (HJ.out.far b hb).2 (by rw [e])⟩
  have HP8 := Lib.hid hP8
  have HO8 := Lib.hid hO8
  have HX8 := Lib.hid hX8
  have HFAR := Lib.hid hfar
  have HB8 := Lib.hid hB8
  clear hP8 hO8 hX8 hfar hB8
  generalize W.setRow g R.toArray = V at *
  by_cases hz0 : z = 0
  · subst hz0
    obtain ⟨hnok, hnr, hnc, hnl⟩ := HAK.out (by first | trivial | rfl)
    have hr1 : V.cell? ⟨g, 1, none⟩ = some (.int .u64 (s.round : Int)) := (hR8.cell 1).trans (by rw [r1, hnr])
    have hf1 := hR8.free 1
    have hR9 := hR8.set 1 (.int .u64 ((s.round : Int) + 1))
    have hon : OwnC (V.setCell ⟨g, 1, none⟩ (.int .u64 ((s.round : Int) + 1))) v2 n.cs := HO8.out.keep (row := some g) (only_set 1 _) (fun b hb e => (HFAR.out b hb).2 (by simpa using e.symm))
    have hP9 : Blk (V.setCell ⟨g, 1, none⟩ (.int .u64 ((s.round : Int) + 1))) (w.heap.size + 1) 24 PC := HP8.out.keep (only_set 1 _) (by simp; omega)
    have hB9 : Blk (V.setCell ⟨g, 1, none⟩ (.int .u64 ((s.round : Int) + 1))) (w.heap.size + 3) 36 Z := Blk.keep HB8.out (only_set 1 _) (by simp; omega)
    have hX9 : Ext w (V.setCell ⟨g, 1, none⟩ (.int .u64 ((s.round : Int) + 1))) := grown_then HX8.out (only_set 1 _) (.inr (by rintro b ⟨⟩; omega))
    have hD : R.set 1 (.int .u64 ((s.round : Int) + 1)) = stc { n with round := s.round + 1 } v2 := by rw [HRE.out]; simp [stc]
    have hsn := Sound { n with round := s.round + 1 } v2 p0 p1 (V.setCell ⟨g, 1, none⟩ (.int .u64 ((s.round : Int) + 1))) _ ⟨hnok.chan, by show s.round + 1 < M64; unfold M64; have := HR.out; omega, hnok.m0, hnok.m1, hnok.t0, hnok.t1⟩ hp0n hp1n hon.holds hon.lt (by show List.length (α := Cd) n.cs ≤ _; have := HLEN.out; omega)
    have hsn : Calls Try.prog 25 #[.agg (stc { n with round := s.round + 1 } v2).toArray, .agg (ptc p0 p1).toArray] (V.setCell ⟨g, 1, none⟩ (.int .u64 ((s.round : Int) + 1))) fun e w' => e = .returned (.int .i64 (soundM { n with round := s.round + 1 } p0 p1)) ∧ Ext (V.setCell ⟨g, 1, none⟩ (.int .u64 ((s.round : Int) + 1))) w' := hsn
    rw [HPC.out] at hsn
    have hdo : ∀ u ∈ R.set 1 (.int .u64 ((s.round : Int) + 1)), u.oneCell' = true := fun u hu => by
      rcases List.mem_or_eq_of_mem_set hu with h | h
      · exact hro u h
      · rw [h]; rfl
    obtain ⟨D, hDE⟩ : ∃ D, D = R.set 1 (.int .u64 ((s.round : Int) + 1)) := ⟨_, rfl⟩
    rw [← hDE] at hR9 hD hdo
    rw [← hD] at hsn
    have hdl : D.length = 7 := by rw [hD]; rfl
    have HD := Lib.hid hD
    have HDL := Lib.hid hdl
    have hres := HRES.out
    rw [if_neg (by simp)] at hres
    generalize hz2 : soundM { n with round := s.round + 1 } p0 p1 = z2 at hsn hres
    have HSN := Lib.hid hsn
    have HB9 := Lib.hid hB9
    have HX9 := Lib.hid hX9
    have HON := Lib.hid hon
    have HR9 := Lib.hid hR9
    have hcd := hR9.cells
    have hcp := hP9.cells
    have HRS2 := Lib.hid hres
    have hrr := HR.out
    clear hnok hnr hnc hnl hD hdl hsn hB9 hX9 hon hR9 hDE hP9 hR8 hz2 hres HRES
    go_wp2_with (first
      | (refine wpList_load_agg _ rfl 36 (.tmp 11) rfl _ rfl D _ Try.underlying36 rfl (state_size HDL.out) hcd ?_)
      | (refine wpList_load_agg _ rfl 24 (.tmp 5) rfl _ rfl PC _ Try.underlying24 rfl (by rw [HPL.out]; kernel_rfl) hcp ?_)
      | fail)
    refine HSN.out.mono ?_
    rintro e w9 ⟨rfl, hx9⟩
    have hr8 : w9.heap[w.heap.size + 3]? = some (.cells Z.toArray 36 (0, 0)) := HB9.out.keep hx9 (by simp)
    have hxw9 := HX9.out.trans hx9
    have hd9 := (HR9.out.keep hx9 (by simp)).cells
    have ho9 := HON.out.ext hx9
    have HXW9 := Lib.hid hxw9
    have HO9 := Lib.hid ho9
    clear hxw9 ho9 hcd hcp
    by_cases hz2 : z2 = 0
    · subst hz2
      have hres : res = ({ n with round := s.round + 1 }, 0) := by rw [HRS2.out, if_neg (by simp)]
      have HRES := Lib.hid hres
      clear hres
      go_wp2_with (first
        | (refine wpList_load_agg _ rfl 36 (.tmp 11) rfl _ rfl D _ Try.underlying36 rfl (state_size HDL.out) hd9 ?_)
        | (refine wpList_store_row _ rfl 36 (.tmp 8) (.tmp 58) rfl (w.heap.size + 3) rfl Z D _ rfl hr8 (state_size HDL.out) (by rw [HDL.out, HZL.out]) hdo ?_)
        | fail)
      have hc9 := Blk.cells (t := 36) (setRow_at (cs' := D.toArray) hr8)
      (try simp only [Exit.inBlock, Exit.then])
      refine bodyPost_ret (results_agg_tmp rfl _ _ _ _ _ rfl Try.underlying36 rfl (state_size HDL.out) hc9) rfl ?_
      refine ⟨v2, by rw [HRES.out, HD.out]; rfl, ?_, grown_then HXW9.out (setRow_only _) (.inr (by rintro b ⟨⟩; omega)), fun b hb => by have := (HFAR.out b hb).1; omega⟩
      rw [HRES.out]
      exact HO9.out.keep (setRow_only _) (fun b hb => by have := (HFAR.out b hb).1; simp; omega)
    · have hzb : (z2 != 0) = true := by simpa using hz2
      have hres : res = (.zero, z2) := by rw [HRS2.out, if_pos hz2]
      have HRES := Lib.hid hres
      clear hres hz2
      go_wp2_with (first
        | (refine wpList_build (.inl rfl) 36 _ rfl (.agg zst.toArray) (by kernel_rfl) ?_; rw [HZB.out])
        | (refine wpList_store_row _ rfl 36 (.tmp 8) (.tmp 56) rfl (w.heap.size + 3) rfl Z Z _ rfl hr8 (state_size HZL.out) rfl hzo ?_)
        | fail)
      have hc9 := Blk.cells (t := 36) (setRow_at (cs' := Z.toArray) hr8)
      (try simp only [Exit.inBlock, Exit.then])
      refine bodyPost_ret (results_agg_tmp rfl _ _ _ _ _ rfl Try.underlying36 rfl (state_size HZL.out) hc9) rfl ?_
      refine ⟨.slice none 0 0, by rw [HRES.out, ← HZE.out]; rfl, by rw [HRES.out]; exact ⟨by simp [St.zero], Own.nil _ _ _⟩, grown_then HXW9.out (setRow_only _) (.inr (by rintro b ⟨⟩; omega)), by simp [Value.ownBlock]⟩
  · have hzb : (z != 0) = true := by simpa using hz0
    have hres : res = (.zero, z) := by rw [HRES.out, if_pos hz0]
    have HRS2 := Lib.hid hres
    have hr8 := HB8.out
    clear hres hz0
    go_wp2_with (first
      | (refine wpList_build (.inl rfl) 36 _ rfl (.agg zst.toArray) (by kernel_rfl) ?_; rw [HZB.out])
      | (refine wpList_store_row _ rfl 36 (.tmp 8) (.tmp 45) rfl (w.heap.size + 3) rfl Z Z _ rfl hr8 (state_size HZL.out) rfl hzo ?_)
      | fail)
    have hc9 := Blk.cells (t := 36) (setRow_at (cs' := Z.toArray) hr8)
    (try simp only [Exit.inBlock, Exit.then])
    refine bodyPost_ret (results_agg_tmp rfl _ _ _ _ _ rfl Try.underlying36 rfl (state_size HZL.out) hc9) rfl ?_
    refine ⟨.slice none 0 0, by rw [HRS2.out, ← HZE.out]; rfl, by rw [HRS2.out]; exact ⟨by simp [St.zero], Own.nil _ _ _⟩, grown_then HX8.out (setRow_only _) (.inr (by rintro b ⟨⟩; omega)), by simp [Value.ownBlock]⟩
end Go.Proofs.Ytnpolfihbfdggaa
