/- Walk of the law PactTells. Conditions: the numbers are in their bounds. -/
import Derived.Test.YtnpolfihbfdggaaPRSound
import Derived.Test.YtnpolfihbfdggaaPRSame
import Derived.Test.YtnpolfihbfdggaaPTurns
set_option linter.unusedVariables false
set_option linter.unusedSimpArgs false
set_option linter.unnecessarySimpa false
namespace Go.Proofs.Ytnpolfihbfdggaa
open Go.RowKit

theorem sharedV {Q : Prop} {A : Value → World → Prop} (J : Value → World → Prop) (h1 : (∀ u w, J u w → A u w) → Q) (h2 : ∀ u w, J u w → A u w) : Q := h1 h2
set_option maxRecDepth 100000 in
set_option maxHeartbeats 2000000 in
theorem TellsLong (w : World) (SC TC PC : List Value) (sd : Int) (id : Nat) (A B : Option Addr) (n c m d : Nat) (h40 : 40 < n ∨ 40 < m) (s6 : SC[6]? = some (.slice A n c)) (t6 : TC[6]? = some (.slice B m d)) :
    Calls Try.prog 6 #[.agg SC.toArray, .agg TC.toArray, .agg PC.toArray, .int .i64 sd, .int .u64 (id : Int)] w fun e w' => e = .returned (.bool true) ∧ Ext w w' := by
  have hb0 : Blk (((w.alloc (.cells SC.toArray 27)).alloc (.cells TC.toArray 27)).alloc (.cells PC.toArray 24)) w.heap.size 27 SC := (Blk.new _ _ _).keep (((Ext.refl _).alloc _).alloc _) (by simp)
  have hb1 : Blk (((w.alloc (.cells SC.toArray 27)).alloc (.cells TC.toArray 27)).alloc (.cells PC.toArray 24)) (w.heap.size + 1) 27 TC := (Blk.new_at (by simp) _ _).keep ((Ext.refl _).alloc _) (by simp)
  have c6 := (hb0.cell 6).trans s6
  have d6 := (hb1.cell 6).trans t6
  clear hb0 hb1
  by_cases h1 : 40 < n
  · go_enter Try.func6, Try.ntmps6
    go_wp2_with (first
      | (go_at_call 9; refine (Awake _).mono ?_; rintro e w9 ⟨rfl, hx9⟩)
      | fail)
    go_ret
    exact ⟨rfl, (((((Ext.refl w).alloc _).alloc _).alloc _)).trans hx9⟩
  · have h2 : 40 < m := by omega
    clear h40
    go_enter Try.func6, Try.ntmps6
    go_wp2_with (first
      | (go_at_call 9; refine (Awake _).mono ?_; rintro e w9 ⟨rfl, hx9⟩)
      | fail)
    go_ret
    exact ⟨rfl, (((((Ext.refl w).alloc _).alloc _).alloc _)).trans hx9⟩
/-- What the walk needs of the calls. -/
structure TellsIn (w : World) (s t : St) (SC TC PC : List Value) (sd : Int) (id rd : Nat) (ha : Nat) (he : Int) (fa : Nat) (fe sn fd : Int) (same : Bool) (tn : Int) : Prop where
  sl : SC.length = 7
  tl : TC.length = 7
  pl : PC.length = 2
  to : ∀ W, Ext w W → Calls Try.prog 10 #[.agg SC.toArray] W fun e w' => ∃ v', e = .returned (.agg (stc s v').toArray) ∧ OwnC w' v' s.cs ∧ Ext W w'
  to2 : ∀ W, Ext w W → Calls Try.prog 10 #[.agg TC.toArray] W fun e w' => ∃ v', e = .returned (.agg (stc t v').toArray) ∧ OwnC w' v' t.cs ∧ Ext W w'
  hd : ∀ v W, OwnC W v s.cs → Calls Try.prog 21 #[.agg (stc s v).toArray, .int .i64 sd] W fun e w' => e = .returned (.tuple #[.int .u64 (ha : Int), .int .i64 he]) ∧ Ext W w'
  rhd : ∀ W, Ext w W → Calls Try.prog 22 #[.agg SC.toArray, .int .i64 sd] W fun e w' => e = .returned (.tuple #[.int .u64 (ha : Int), .int .i64 he]) ∧ Ext W w'
  fr : ∀ v W, OwnC W v s.cs → Calls Try.prog 23 #[.agg (stc s v).toArray, .agg PC.toArray, .int .i64 sd] W fun e w' => e = .returned (.tuple #[.int .u64 (fa : Int), .int .i64 fe]) ∧ Ext W w'
  rfr : ∀ W, Ext w W → Calls Try.prog 24 #[.agg SC.toArray, .agg PC.toArray, .int .i64 sd] W fun e w' => e = .returned (.tuple #[.int .u64 (fa : Int), .int .i64 fe]) ∧ Ext W w'
  snd : ∀ v W, OwnC W v s.cs → Calls Try.prog 25 #[.agg (stc s v).toArray, .agg PC.toArray] W fun e w' => e = .returned (.int .i64 sn) ∧ Ext W w'
  rsn : ∀ W, Ext w W → Calls Try.prog 26 #[.agg SC.toArray, .agg PC.toArray] W fun e w' => e = .returned (.int .i64 sn) ∧ Ext W w'
  fnd : ∀ v W, OwnC W v s.cs → Calls Try.prog 20 #[.agg (stc s v).toArray, .int .u64 (id : Int)] W fun e w' => e = .returned (.int .i64 fd) ∧ Ext W w'
  rfd : ∀ W, Ext w W → Calls Try.prog 27 #[.agg SC.toArray, .int .u64 (id : Int)] W fun e w' => e = .returned (.int .i64 fd) ∧ Ext W w'
  sm : ∀ v u W, OwnC W v s.cs → OwnC W u t.cs → Calls Try.prog 28 #[.agg (stc s v).toArray, .agg (stc t u).toArray] W fun e w' => e = .returned (.bool same) ∧ Ext W w'
  rsm : ∀ W, Ext w W → Calls Try.prog 14 #[.agg SC.toArray, .agg TC.toArray] W fun e w' => e = .returned (.bool same) ∧ Ext W w'
  tw : ∀ v W, OwnC W v s.cs → Calls Try.prog 29 #[.agg (stc s v).toArray] W fun e w' => ∃ v', e = .returned (.agg (stc s v').toArray) ∧ OwnC w' v' s.cs ∧ Ext W w'
  sm2 : ∀ v u W, OwnC W v s.cs → OwnC W u s.cs → Calls Try.prog 28 #[.agg (stc s v).toArray, .agg (stc s u).toArray] W fun e w' => e = .returned (.bool true) ∧ Ext W w'
  tnn : ∀ W, Calls Try.prog 17 #[.int .u64 (rd : Int)] W fun e w' => e = .returned (.int .i64 tn) ∧ W = w'
  rtn : ∀ W, Calls Try.prog 30 #[.int .u64 (rd : Int)] W fun e w' => e = .returned (.int .i64 tn) ∧ W = w'
  erd : s.round = rd
  s1 : SC[1]? = some (.int .u64 (rd : Int))
  over : he ≠ 0 → ha = 0
set_option maxRecDepth 100000 in
set_option maxHeartbeats 8000000 in
theorem Tells1 (w : World) (s t : St) (SC TC PC : List Value) (sd : Int) (id rd ha : Nat) (he : Int) (fa : Nat) (fe sn fd : Int) (same : Bool) (tn : Int) (A B : Option Addr) (n c m d : Nat) (Z : List Value) (hz : (Try.prog.info? 36).bind (fun i => i.zero.map (·.cells)) = some Z.toArray) (hzl : Z.length = 7)
    (h1 : n ≤ 40) (h2 : m ≤ 40) (s6 : SC[6]? = some (.slice A n c)) (t6 : TC[6]? = some (.slice B m d)) (hin : TellsIn w s t SC TC PC sd id rd ha he fa fe sn fd same tn) :
    Calls Try.prog 6 #[.agg SC.toArray, .agg TC.toArray, .agg PC.toArray, .int .i64 sd, .int .u64 (id : Int)] w fun e w' => e = .returned (.bool true) ∧ Ext w w' := by
  have hb0 : Blk (((w.alloc (.cells SC.toArray 27)).alloc (.cells TC.toArray 27)).alloc (.cells PC.toArray 24)) w.heap.size 27 SC := (Blk.new _ _ _).keep (((Ext.refl _).alloc _).alloc _) (by simp)
  have hb1 : Blk (((w.alloc (.cells SC.toArray 27)).alloc (.cells TC.toArray 27)).alloc (.cells PC.toArray 24)) (w.heap.size + 1) 27 TC := (Blk.new_at (by simp) _ _).keep ((Ext.refl _).alloc _) (by simp)
  have hb2 : Blk (((w.alloc (.cells SC.toArray 27)).alloc (.cells TC.toArray 27)).alloc (.cells PC.toArray 24)) (w.heap.size + 2) 24 PC := Blk.new_at (by simp) _ _
  have hx0 : Ext w (((w.alloc (.cells SC.toArray 27)).alloc (.cells TC.toArray 27)).alloc (.cells PC.toArray 24)) := (((Ext.refl w).alloc _).alloc _).alloc _
  have c6 := (hb0.cell 6).trans s6
  have d6 := (hb1.cell 6).trans t6
  have hcs := hb0.cells
  have HSL := Lib.hid hin.sl
  have HTL := Lib.hid hin.tl
  have HPL := Lib.hid hin.pl
  have HZL := Lib.hid hzl
  have HB0 := Lib.hid hb0
  have HB1 := Lib.hid hb1
  have HB2 := Lib.hid hb2
  have HX0 := Lib.hid hx0
  have HIN := Lib.hid hin
  clear hb0 hb1 hb2 hx0 hzl hin
  go_enter Try.func6, Try.ntmps6
  go_wp2_with (first
    | (refine wpList_load_agg _ rfl 27 (.tmp 5) rfl _ rfl SC _ Try.underlying27 rfl (szSFrom HSL.out) hcs ?_)
    | fail)
  refine (HIN.out.to _ HX0.out).mono ?_
  rintro e w1 ⟨v, rfl, hov, hx1⟩
  obtain ⟨XC, hXC⟩ : ∃ XC, XC = stc s v := ⟨_, rfl⟩
  have hxo : ∀ u ∈ XC, u.oneCell' = true := by obtain ⟨A2, c2, h⟩ := hov.form; rw [hXC, h]; exact stc_one _ _ _ _
  have hxl : XC.length = 7 := by rw [hXC]; rfl
  have hd := fun W h => HIN.out.hd v W h
  have hfr := fun W h => HIN.out.fr v W h
  have hsn := fun W h => HIN.out.snd v W h
  have hfd := fun W h => HIN.out.fnd v W h
  have hsm := fun u W h => HIN.out.sm v u W h
  have htw := fun W h => HIN.out.tw v W h
  have hsm2 := fun u W h => HIN.out.sm2 v u W h
  rw [← hXC] at hd hfr hsn hfd hsm htw hsm2 ⊢
  have HXL := Lib.hid hxl
  have HHD := Lib.hid hd
  have HFR := Lib.hid hfr
  have HSN := Lib.hid hsn
  have HFD := Lib.hid hfd
  have HSM := Lib.hid hsm
  have HTW := Lib.hid htw
  have HSM2 := Lib.hid hsm2
  have hx1b : Ext (((w.alloc (.cells SC.toArray 27)).alloc (.cells TC.toArray 27)).alloc (.cells PC.toArray 24)) (w1.alloc (.cells XC.toArray 36)) := hx1.alloc _
  have HBX : Hid (Blk (w1.alloc (.cells XC.toArray 36)) w1.heap.size 36 XC) := Blk.new _ _ _
  have HBS := Lib.hid (HB0.out.keep hx1b (by simp))
  have HBT := Lib.hid (HB1.out.keep hx1b (by simp))
  have HBP := Lib.hid (HB2.out.keep hx1b (by simp))
  have HXW := Lib.hid hx1b
  have HOV := Lib.hid (hov.ext ((Ext.refl w1).alloc (.cells XC.toArray 36)))
  have hxx : Ext (w1.alloc (.cells XC.toArray 36)) (w1.alloc (.cells XC.toArray 36)) := Ext.refl _
  clear hd hfr hsn hfd hsm htw hsm2 hXC hxl hx1 hx1b hov hcs c6 d6
  go_wp2_with (first
    | (refine wpList_alloc _ rfl 36 rfl _ hz ?_)
    | (refine wpList_store_new _ rfl 36 (.tmp 11) (.tmp 32) rfl rfl Z XC _ rfl (state_size HXL.out) (by rw [HXL.out, HZL.out]) hxo ?_)
    | (refine wpList_loadG (by first | exact .inl rfl | exact .inr rfl) 36 (.tmp 11) rfl _ rfl XC _ Try.underlying36 rfl (state_size HXL.out) ((HBX.out.keep hxx (by simp)).cells) ?_)
    | (refine wpList_loadG (by first | exact .inl rfl | exact .inr rfl) 27 (.tmp 5) rfl _ rfl SC _ Try.underlying27 rfl (szSFrom HSL.out) ((HBS.out.keep hxx (by simp)).cells) ?_)
    | (refine wpList_loadG (by first | exact .inl rfl | exact .inr rfl) 27 (.tmp 6) rfl _ rfl TC _ Try.underlying27 rfl (szSFrom HTL.out) ((HBT.out.keep hxx (by simp)).cells) ?_)
    | (refine wpList_loadG (by first | exact .inl rfl | exact .inr rfl) 24 (.tmp 7) rfl _ rfl PC _ Try.underlying24 rfl (by rw [HPL.out]; kernel_rfl) ((HBP.out.keep hxx (by simp)).cells) ?_)
    | fail)
  generalize w1.alloc (.cells XC.toArray 36) = wb at *
  generalize w1.heap.size = g11 at *
  refine (HHD.out _ (HOV.out.ext hxx)).mono ?_
  rintro e w' ⟨rfl, hx'⟩
  replace hxx := hxx.trans hx'
  clear hx'
  go_wp2_with (first
    | (refine wpList_loadG (by first | exact .inl rfl | exact .inr rfl) 36 (.tmp 11) rfl _ rfl XC _ Try.underlying36 rfl (state_size HXL.out) ((HBX.out.keep hxx (by simp)).cells) ?_)
    | (refine wpList_loadG (by first | exact .inl rfl | exact .inr rfl) 27 (.tmp 5) rfl _ rfl SC _ Try.underlying27 rfl (szSFrom HSL.out) ((HBS.out.keep hxx (by simp)).cells) ?_)
    | (refine wpList_loadG (by first | exact .inl rfl | exact .inr rfl) 27 (.tmp 6) rfl _ rfl TC _ Try.underlying27 rfl (szSFrom HTL.out) ((HBT.out.keep hxx (by simp)).cells) ?_)
    | (refine wpList_loadG (by first | exact .inl rfl | exact .inr rfl) 24 (.tmp 7) rfl _ rfl PC _ Try.underlying24 rfl (by rw [HPL.out]; kernel_rfl) ((HBP.out.keep hxx (by simp)).cells) ?_)
    | fail)
  refine (HIN.out.rhd _ (HX0.out.trans (HXW.out.trans hxx))).mono ?_
  rintro e w' ⟨rfl, hx'⟩
  replace hxx := hxx.trans hx'
  clear hx'
  go_wp2_with (first
    | (refine wpList_loadG (by first | exact .inl rfl | exact .inr rfl) 36 (.tmp 11) rfl _ rfl XC _ Try.underlying36 rfl (state_size HXL.out) ((HBX.out.keep hxx (by simp)).cells) ?_)
    | (refine wpList_loadG (by first | exact .inl rfl | exact .inr rfl) 27 (.tmp 5) rfl _ rfl SC _ Try.underlying27 rfl (szSFrom HSL.out) ((HBS.out.keep hxx (by simp)).cells) ?_)
    | (refine wpList_loadG (by first | exact .inl rfl | exact .inr rfl) 27 (.tmp 6) rfl _ rfl TC _ Try.underlying27 rfl (szSFrom HTL.out) ((HBT.out.keep hxx (by simp)).cells) ?_)
    | (refine wpList_loadG (by first | exact .inl rfl | exact .inr rfl) 24 (.tmp 7) rfl _ rfl PC _ Try.underlying24 rfl (by rw [HPL.out]; kernel_rfl) ((HBP.out.keep hxx (by simp)).cells) ?_)
    | fail)
  refine (HFR.out _ (HOV.out.ext hxx)).mono ?_
  rintro e w' ⟨rfl, hx'⟩
  replace hxx := hxx.trans hx'
  clear hx'
  go_wp2_with (first
    | (refine wpList_loadG (by first | exact .inl rfl | exact .inr rfl) 36 (.tmp 11) rfl _ rfl XC _ Try.underlying36 rfl (state_size HXL.out) ((HBX.out.keep hxx (by simp)).cells) ?_)
    | (refine wpList_loadG (by first | exact .inl rfl | exact .inr rfl) 27 (.tmp 5) rfl _ rfl SC _ Try.underlying27 rfl (szSFrom HSL.out) ((HBS.out.keep hxx (by simp)).cells) ?_)
    | (refine wpList_loadG (by first | exact .inl rfl | exact .inr rfl) 27 (.tmp 6) rfl _ rfl TC _ Try.underlying27 rfl (szSFrom HTL.out) ((HBT.out.keep hxx (by simp)).cells) ?_)
    | (refine wpList_loadG (by first | exact .inl rfl | exact .inr rfl) 24 (.tmp 7) rfl _ rfl PC _ Try.underlying24 rfl (by rw [HPL.out]; kernel_rfl) ((HBP.out.keep hxx (by simp)).cells) ?_)
    | fail)
  refine (HIN.out.rfr _ (HX0.out.trans (HXW.out.trans hxx))).mono ?_
  rintro e w' ⟨rfl, hx'⟩
  replace hxx := hxx.trans hx'
  clear hx'
  have hov := HIN.out.over
  have hspl : (he != 0) = false ∨ (he != 0) = true ∧ ha = 0 := by
    by_cases h : he = 0
    · exact .inl (by simpa using h)
    · exact .inr ⟨by simpa using h, hov h⟩
  clear hov
  rcases hspl with hzb | ⟨hzb, rfl⟩
  all_goals
    go_wp2
    replace hxx := hxx.trans (Ext.refl w').drew
    refine startM Since (by kernel_rfl) ?_
    generalize w'.drew = w' at *
    refine stepM 0 rfl (by kernel_rfl) rfl (fun K hK => ?_)
    go_simp
    refine (Awake _).mono ?_
    rintro e w' ⟨rfl, hx'⟩
    have hk := hx'
    replace hxx := hxx.trans hx'
    clear hx'
    refine hK _ _ (hk) ?_
    clear hK K
    refine takeE 1 rfl (by kernel_rfl) (by kernel_rfl) (by kernel_rfl) rfl (fun _ _ _ _ h => h) rfl (fun K hK => ?_)
    go_big_quiet_op
    first | refine hK _ ?_ | refine ⟨_, fun _ _ => rfl, hK _ ?_⟩
    clear hK K
    refine takeE 2 rfl (by kernel_rfl) (by kernel_rfl) (by kernel_rfl) rfl (fun _ _ _ _ h => h) rfl (fun K hK => ?_)
    go_big_quiet_op
    first | refine hK _ ?_ | refine ⟨_, fun _ _ => rfl, hK _ ?_⟩
    clear hK K
    refine takeE 3 rfl (by kernel_rfl) (by kernel_rfl) (by kernel_rfl) rfl (fun _ _ _ _ h => h) rfl (fun K hK => ?_)
    go_big_quiet_op
    first | refine hK _ ?_ | refine ⟨_, fun _ _ => rfl, hK _ ?_⟩
    clear hK K
    refine takeE 4 rfl (by kernel_rfl) (by kernel_rfl) (by kernel_rfl) rfl (fun _ _ _ _ h => h) rfl (fun K hK => ?_)
    go_big_quiet_op
    first | refine hK _ ?_ | refine ⟨_, fun _ _ => rfl, hK _ ?_⟩
    clear hK K
    refine takeE 5 rfl (by kernel_rfl) (by kernel_rfl) (by kernel_rfl) rfl (fun _ _ _ _ h => h) rfl (fun K hK => ?_)
    go_big_quiet_op
    first | refine hK _ ?_ | refine ⟨_, fun _ _ => rfl, hK _ ?_⟩
    clear hK K
    refine takeE 6 rfl (by kernel_rfl) (by kernel_rfl) (by kernel_rfl) rfl (fun _ _ _ _ h => h) rfl (fun K hK => ?_)
    go_big_quiet_op
    first | refine hK _ ?_ | refine ⟨_, fun _ _ => rfl, hK _ ?_⟩
    clear hK K
    refine takeE 7 rfl (by kernel_rfl) (by kernel_rfl) (by kernel_rfl) rfl (fun _ _ _ _ h => h) rfl (fun K hK => ?_)
    go_big_quiet_op
    first | refine hK _ ?_ | refine ⟨_, fun _ _ => rfl, hK _ ?_⟩
    clear hK K
    refine takeE 8 rfl (by kernel_rfl) (by kernel_rfl) (by kernel_rfl) rfl (fun _ _ _ _ h => h) rfl (fun K hK => ?_)
    go_big_quiet_op
    first | refine hK _ ?_ | refine ⟨_, fun _ _ => rfl, hK _ ?_⟩
    clear hK K
    refine takeE 9 rfl (by kernel_rfl) (by kernel_rfl) (by kernel_rfl) rfl (fun _ _ _ _ h => h) rfl (fun K hK => ?_)
    go_big_quiet_op
    first | refine hK _ ?_ | refine ⟨_, fun _ _ => rfl, hK _ ?_⟩
    clear hK K
    refine takeE 10 rfl (by kernel_rfl) (by kernel_rfl) (by kernel_rfl) rfl (fun _ _ _ _ h => h) rfl (fun K hK => ?_)
    go_big_quiet_op
    first | refine hK _ ?_ | refine ⟨_, fun _ _ => rfl, hK _ ?_⟩
    clear hK K
    refine takeE 11 rfl (by kernel_rfl) (by kernel_rfl) (by kernel_rfl) rfl (fun _ _ _ _ h => h) rfl (fun K hK => ?_)
    go_big_quiet_op
    first | refine hK _ ?_ | refine ⟨_, fun _ _ => rfl, hK _ ?_⟩
    clear hK K
    refine takeE 12 rfl (by kernel_rfl) (by kernel_rfl) (by kernel_rfl) rfl (fun _ _ _ _ h => h) rfl (fun K hK => ?_)
    go_big_quiet_op
    first | refine hK _ ?_ | refine ⟨_, fun _ _ => rfl, hK _ ?_⟩
    clear hK K
    refine takeE 13 rfl (by kernel_rfl) (by kernel_rfl) (by kernel_rfl) rfl (fun _ _ _ _ h => h) rfl (fun K hK => ?_)
    go_big_quiet_op
    first | refine hK _ ?_ | refine ⟨_, fun _ _ => rfl, hK _ ?_⟩
    clear hK K
    refine takeE 14 rfl (by kernel_rfl) (by kernel_rfl) (by kernel_rfl) rfl (fun _ _ _ _ h => h) rfl (fun K hK => ?_)
    go_big_quiet_op
    first | refine hK _ ?_ | refine ⟨_, fun _ _ => rfl, hK _ ?_⟩
    clear hK K
    refine takeE 15 rfl (by kernel_rfl) (by kernel_rfl) (by kernel_rfl) rfl (fun _ _ _ _ h => h) rfl (fun K hK => ?_)
    go_big_quiet_op
    first | refine hK _ ?_ | refine ⟨_, fun _ _ => rfl, hK _ ?_⟩
    clear hK K
    refine takeE 16 rfl (by kernel_rfl) (by kernel_rfl) (by kernel_rfl) rfl (fun _ _ _ _ h => h) rfl (fun K hK => ?_)
    go_big_quiet_op
    first | refine hK _ ?_ | refine ⟨_, fun _ _ => rfl, hK _ ?_⟩
    clear hK K
    refine takeE 17 rfl (by kernel_rfl) (by kernel_rfl) (by kernel_rfl) rfl (fun _ _ _ _ h => h) rfl (fun K hK => ?_)
    go_big_quiet_op
    first | refine hK _ ?_ | refine ⟨_, fun _ _ => rfl, hK _ ?_⟩
    clear hK K
    refine takeE 18 rfl (by kernel_rfl) (by kernel_rfl) (by kernel_rfl) rfl (fun _ _ _ _ h => h) rfl (fun K hK => ?_)
    go_big_quiet_op
    first | refine hK _ ?_ | refine ⟨_, fun _ _ => rfl, hK _ ?_⟩
    clear hK K
    refine takeE 19 rfl (by kernel_rfl) (by kernel_rfl) (by kernel_rfl) rfl (fun _ _ _ _ h => h) rfl (fun K hK => ?_)
    go_big_quiet_op
    first | refine hK _ ?_ | refine ⟨_, fun _ _ => rfl, hK _ ?_⟩
    clear hK K
    refine takeE 20 rfl (by kernel_rfl) (by kernel_rfl) (by kernel_rfl) rfl (fun _ _ _ _ h => h) rfl (fun K hK => ?_)
    go_big_quiet_op
    first | refine hK _ ?_ | refine ⟨_, fun _ _ => rfl, hK _ ?_⟩
    clear hK K
    refine takeE 21 rfl (by kernel_rfl) (by kernel_rfl) (by kernel_rfl) rfl (fun _ _ _ _ h => h) rfl (fun K hK => ?_)
    go_big_quiet_op
    first | refine hK _ ?_ | refine ⟨_, fun _ _ => rfl, hK _ ?_⟩
    clear hK K
    refine takeE 22 rfl (by kernel_rfl) (by kernel_rfl) (by kernel_rfl) rfl (fun _ _ _ _ h => h) rfl (fun K hK => ?_)
    refine quiet_agg 36 (.tmp 11) rfl _ rfl XC _ Try.underlying36 rfl (state_size HXL.out) (fun W' h => (HBX.out.keep (hxx.trans h.ext) (by simp)).cells) ?_
    refine hK _ ?_
    simp only [Act.put, List.setIfInBounds_toArray, List.set_cons_succ, List.set_cons_zero]
    clear hK K
    refine takeE 23 rfl (by kernel_rfl) (by kernel_rfl) (by kernel_rfl) rfl (fun _ _ _ _ h => h) rfl (fun K hK => ?_)
    refine quiet_agg 24 (.tmp 7) rfl _ rfl PC _ Try.underlying24 rfl (by rw [HPL.out]; kernel_rfl) (fun W' h => (HBP.out.keep (hxx.trans h.ext) (by simp)).cells) ?_
    refine hK _ ?_
    simp only [Act.put, List.setIfInBounds_toArray, List.set_cons_succ, List.set_cons_zero]
    clear hK K
    refine takeE 25 rfl (by kernel_rfl) (by kernel_rfl) (by kernel_rfl) rfl (fun _ _ _ _ h => h) rfl (fun K hK => ?_)
    refine quiet_agg 27 (.tmp 5) rfl _ rfl SC _ Try.underlying27 rfl (szSFrom HSL.out) (fun W' h => (HBS.out.keep (hxx.trans h.ext) (by simp)).cells) ?_
    refine hK _ ?_
    simp only [Act.put, List.setIfInBounds_toArray, List.set_cons_succ, List.set_cons_zero]
    clear hK K
    refine takeE 26 rfl (by kernel_rfl) (by kernel_rfl) (by kernel_rfl) rfl (fun _ _ _ _ h => h) rfl (fun K hK => ?_)
    refine quiet_agg 24 (.tmp 7) rfl _ rfl PC _ Try.underlying24 rfl (by rw [HPL.out]; kernel_rfl) (fun W' h => (HBP.out.keep (hxx.trans h.ext) (by simp)).cells) ?_
    refine hK _ ?_
    simp only [Act.put, List.setIfInBounds_toArray, List.set_cons_succ, List.set_cons_zero]
    clear hK K
    refine stepM 24 rfl (by kernel_rfl) rfl (fun K hK => ?_)
    go_simp
    refine (HSN.out _ (HOV.out.ext hxx)).mono ?_
    rintro e w' ⟨rfl, hx'⟩
    have hk := hx'
    replace hxx := hxx.trans hx'
    clear hx'
    refine hK _ _ (hk) ?_
    clear hK K
    refine stepM 27 rfl (by kernel_rfl) rfl (fun K hK => ?_)
    go_simp
    refine (HIN.out.rsn _ (HX0.out.trans (HXW.out.trans hxx))).mono ?_
    rintro e w' ⟨rfl, hx'⟩
    have hk := hx'
    replace hxx := hxx.trans hx'
    clear hx'
    refine hK _ _ (hk) ?_
    clear hK K
    refine takeE 28 rfl (by kernel_rfl) (by kernel_rfl) (by kernel_rfl) rfl (fun _ _ _ _ h => h) rfl (fun K hK => ?_)
    go_big_quiet_op
    first | refine hK _ ?_ | refine ⟨_, fun _ _ => rfl, hK _ ?_⟩
    clear hK K
    refine takeE 29 rfl (by kernel_rfl) (by kernel_rfl) (by kernel_rfl) rfl (fun _ _ _ _ h => h) rfl (fun K hK => ?_)
    go_big_quiet_op
    first | refine hK _ ?_ | refine ⟨_, fun _ _ => rfl, hK _ ?_⟩
    clear hK K
    refine takeE 30 rfl (by kernel_rfl) (by kernel_rfl) (by kernel_rfl) rfl (fun _ _ _ _ h => h) rfl (fun K hK => ?_)
    go_big_quiet_op
    first | refine hK _ ?_ | refine ⟨_, fun _ _ => rfl, hK _ ?_⟩
    clear hK K
    refine takeE 31 rfl (by kernel_rfl) (by kernel_rfl) (by kernel_rfl) rfl (fun _ _ _ _ h => h) rfl (fun K hK => ?_)
    refine quiet_agg 36 (.tmp 11) rfl _ rfl XC _ Try.underlying36 rfl (state_size HXL.out) (fun W' h => (HBX.out.keep (hxx.trans h.ext) (by simp)).cells) ?_
    refine hK _ ?_
    simp only [Act.put, List.setIfInBounds_toArray, List.set_cons_succ, List.set_cons_zero]
    clear hK K
    refine takeE 32 rfl (by kernel_rfl) (by kernel_rfl) (by kernel_rfl) rfl (fun _ _ _ _ h => h) rfl (fun K hK => ?_)
    go_big_quiet_op
    first | refine hK _ ?_ | refine ⟨_, fun _ _ => rfl, hK _ ?_⟩
    clear hK K
    refine takeE 34 rfl (by kernel_rfl) (by kernel_rfl) (by kernel_rfl) rfl (fun _ _ _ _ h => h) rfl (fun K hK => ?_)
    refine quiet_agg 27 (.tmp 5) rfl _ rfl SC _ Try.underlying27 rfl (szSFrom HSL.out) (fun W' h => (HBS.out.keep (hxx.trans h.ext) (by simp)).cells) ?_
    refine hK _ ?_
    simp only [Act.put, List.setIfInBounds_toArray, List.set_cons_succ, List.set_cons_zero]
    clear hK K
    refine takeE 35 rfl (by kernel_rfl) (by kernel_rfl) (by kernel_rfl) rfl (fun _ _ _ _ h => h) rfl (fun K hK => ?_)
    go_big_quiet_op
    first | refine hK _ ?_ | refine ⟨_, fun _ _ => rfl, hK _ ?_⟩
    clear hK K
    refine stepM 33 rfl (by kernel_rfl) rfl (fun K hK => ?_)
    go_simp
    refine (HFD.out _ (HOV.out.ext hxx)).mono ?_
    rintro e w' ⟨rfl, hx'⟩
    have hk := hx'
    replace hxx := hxx.trans hx'
    clear hx'
    refine hK _ _ (hk) ?_
    clear hK K
    refine stepM 36 rfl (by kernel_rfl) rfl (fun K hK => ?_)
    go_simp
    refine (HIN.out.rfd _ (HX0.out.trans (HXW.out.trans hxx))).mono ?_
    rintro e w' ⟨rfl, hx'⟩
    have hk := hx'
    replace hxx := hxx.trans hx'
    clear hx'
    refine hK _ _ (hk) ?_
    clear hK K
    refine takeE 37 rfl (by kernel_rfl) (by kernel_rfl) (by kernel_rfl) rfl (fun _ _ _ _ h => h) rfl (fun K hK => ?_)
    go_big_quiet_op
    first | refine hK _ ?_ | refine ⟨_, fun _ _ => rfl, hK _ ?_⟩
    clear hK K
    refine takeE 38 rfl (by kernel_rfl) (by kernel_rfl) (by kernel_rfl) rfl (fun _ _ _ _ h => h) rfl (fun K hK => ?_)
    go_big_quiet_op
    first | refine hK _ ?_ | refine ⟨_, fun _ _ => rfl, hK _ ?_⟩
    clear hK K
    refine takeE 39 rfl (by kernel_rfl) (by kernel_rfl) (by kernel_rfl) rfl (fun _ _ _ _ h => h) rfl (fun K hK => ?_)
    go_big_quiet_op
    first | refine hK _ ?_ | refine ⟨_, fun _ _ => rfl, hK _ ?_⟩
    clear hK K
    refine takeE 40 rfl (by kernel_rfl) (by kernel_rfl) (by kernel_rfl) rfl (fun _ _ _ _ h => h) rfl (fun K hK => ?_)
    refine quiet_agg 36 (.tmp 11) rfl _ rfl XC _ Try.underlying36 rfl (state_size HXL.out) (fun W' h => (HBX.out.keep (hxx.trans h.ext) (by simp)).cells) ?_
    refine hK _ ?_
    simp only [Act.put, List.setIfInBounds_toArray, List.set_cons_succ, List.set_cons_zero]
    clear hK K
    refine takeE 41 rfl (by kernel_rfl) (by kernel_rfl) (by kernel_rfl) rfl (fun _ _ _ _ h => h) rfl (fun K hK => ?_)
    refine quiet_agg 27 (.tmp 6) rfl _ rfl TC _ Try.underlying27 rfl (szSFrom HTL.out) (fun W' h => (HBT.out.keep (hxx.trans h.ext) (by simp)).cells) ?_
    refine hK _ ?_
    simp only [Act.put, List.setIfInBounds_toArray, List.set_cons_succ, List.set_cons_zero]
    clear hK K
    refine takeE 44 rfl (by kernel_rfl) (by kernel_rfl) (by kernel_rfl) rfl (fun _ _ _ _ h => h) rfl (fun K hK => ?_)
    refine quiet_agg 27 (.tmp 5) rfl _ rfl SC _ Try.underlying27 rfl (szSFrom HSL.out) (fun W' h => (HBS.out.keep (hxx.trans h.ext) (by simp)).cells) ?_
    refine hK _ ?_
    simp only [Act.put, List.setIfInBounds_toArray, List.set_cons_succ, List.set_cons_zero]
    clear hK K
    refine takeE 45 rfl (by kernel_rfl) (by kernel_rfl) (by kernel_rfl) rfl (fun _ _ _ _ h => h) rfl (fun K hK => ?_)
    refine quiet_agg 27 (.tmp 6) rfl _ rfl TC _ Try.underlying27 rfl (szSFrom HTL.out) (fun W' h => (HBT.out.keep (hxx.trans h.ext) (by simp)).cells) ?_
    refine hK _ ?_
    simp only [Act.put, List.setIfInBounds_toArray, List.set_cons_succ, List.set_cons_zero]
    clear hK K
    refine stepM 42 rfl (by kernel_rfl) rfl (fun K hK => ?_)
    go_simp
    refine (HIN.out.to2 _ (HX0.out.trans (HXW.out.trans hxx))).mono ?_
    rintro e w' ⟨u, rfl, hou, hx'⟩
    have hk := hx'
    replace hxx := hxx.trans hx'
    clear hx'
    refine hK _ _ (hk) ?_
    clear hK K
    refine stepM 43 rfl (by kernel_rfl) rfl (fun K hK => ?_)
    go_simp
    refine (HSM.out u _ (HOV.out.ext hxx) hou).mono ?_
    rintro e w' ⟨rfl, hx'⟩
    have hk := hx'
    replace hxx := hxx.trans hx'
    clear hx'
    refine hK _ _ (hk) ?_
    clear hK K
    refine stepM 46 rfl (by kernel_rfl) rfl (fun K hK => ?_)
    go_simp
    refine (HIN.out.rsm _ (HX0.out.trans (HXW.out.trans hxx))).mono ?_
    rintro e w' ⟨rfl, hx'⟩
    have hk := hx'
    replace hxx := hxx.trans hx'
    clear hx'
    try (replace hou := hou.ext hk)
    refine hK _ _ (hk) ?_
    clear hK K
    refine takeE 47 rfl (by kernel_rfl) (by kernel_rfl) (by kernel_rfl) rfl (fun _ _ _ _ h => h) rfl (fun K hK => ?_)
    go_big_quiet_op
    first | refine hK _ ?_ | refine ⟨_, fun _ _ => rfl, hK _ ?_⟩
    clear hK K
    refine takeE 48 rfl (by kernel_rfl) (by kernel_rfl) (by kernel_rfl) rfl (fun _ _ _ _ h => h) rfl (fun K hK => ?_)
    go_big_quiet_op
    first | refine hK _ ?_ | refine ⟨_, fun _ _ => rfl, hK _ ?_⟩
    clear hK K
    refine takeE 49 rfl (by kernel_rfl) (by kernel_rfl) (by kernel_rfl) rfl (fun _ _ _ _ h => h) rfl (fun K hK => ?_)
    go_big_quiet_op
    first | refine hK _ ?_ | refine ⟨_, fun _ _ => rfl, hK _ ?_⟩
    clear hK K
    refine takeE 50 rfl (by kernel_rfl) (by kernel_rfl) (by kernel_rfl) rfl (fun _ _ _ _ h => h) rfl (fun K hK => ?_)
    refine quiet_agg 36 (.tmp 11) rfl _ rfl XC _ Try.underlying36 rfl (state_size HXL.out) (fun W' h => (HBX.out.keep (hxx.trans h.ext) (by simp)).cells) ?_
    refine hK _ ?_
    simp only [Act.put, List.setIfInBounds_toArray, List.set_cons_succ, List.set_cons_zero]
    clear hK K
    refine takeE 51 rfl (by kernel_rfl) (by kernel_rfl) (by kernel_rfl) rfl (fun _ _ _ _ h => h) rfl (fun K hK => ?_)
    refine quiet_agg 36 (.tmp 11) rfl _ rfl XC _ Try.underlying36 rfl (state_size HXL.out) (fun W' h => (HBX.out.keep (hxx.trans h.ext) (by simp)).cells) ?_
    refine hK _ ?_
    simp only [Act.put, List.setIfInBounds_toArray, List.set_cons_succ, List.set_cons_zero]
    clear hK K
    refine stepM 52 rfl (by kernel_rfl) rfl (fun K hK => ?_)
    go_simp
    refine (HTW.out _ (HOV.out.ext hxx)).mono ?_
    rintro e w' ⟨u2, rfl, hou2, hx'⟩
    have hk := hx'
    replace hxx := hxx.trans hx'
    clear hx'
    refine hK _ _ (hk) ?_
    clear hK K
    refine stepM 53 rfl (by kernel_rfl) rfl (fun K hK => ?_)
    go_simp
    refine (HSM2.out u2 _ (HOV.out.ext hxx) hou2).mono ?_
    rintro e w' ⟨rfl, hx'⟩
    have hk := hx'
    replace hxx := hxx.trans hx'
    clear hx'
    refine hK _ _ (hk) ?_
    clear hK K
    refine takeE 54 rfl (by kernel_rfl) (by kernel_rfl) (by kernel_rfl) rfl (fun _ _ _ _ h => h) rfl (fun K hK => ?_)
    go_big_quiet_op
    first | refine hK _ ?_ | refine ⟨_, fun _ _ => rfl, hK _ ?_⟩
    clear hK K
    refine takeE 55 rfl (by kernel_rfl) (by kernel_rfl) (by kernel_rfl) rfl (fun _ _ _ _ h => h) rfl (fun K hK => ?_)
    go_big_quiet_op
    first | refine hK _ ?_ | refine ⟨_, fun _ _ => rfl, hK _ ?_⟩
    clear hK K
    refine takeE 56 rfl (by kernel_rfl) (by kernel_rfl) (by kernel_rfl) rfl (fun _ _ _ _ h => h) rfl (fun K hK => ?_)
    go_big_quiet_op
    first | refine hK _ ?_ | refine ⟨_, fun _ _ => rfl, hK _ ?_⟩
    clear hK K
    refine takeE 57 rfl (by kernel_rfl) (by kernel_rfl) (by kernel_rfl) rfl (fun _ _ _ _ h => h) rfl (fun K hK => ?_)
    refine quiet_cell _ _ rfl _ rfl _ _ Try.underlying23 rfl (fun W' h => (((HBS.out.keep (hxx.trans h.ext) (by simp)).cell 1).trans HIN.out.s1)) ?_
    refine hK _ ?_
    simp only [Act.put, List.setIfInBounds_toArray, List.set_cons_succ, List.set_cons_zero]
    clear hK K
    refine takeE 59 rfl (by kernel_rfl) (by kernel_rfl) (by kernel_rfl) rfl (fun _ _ _ _ h => h) rfl (fun K hK => ?_)
    go_big_quiet_op
    first | refine hK _ ?_ | refine ⟨_, fun _ _ => rfl, hK _ ?_⟩
    clear hK K
    refine takeE 60 rfl (by kernel_rfl) (by kernel_rfl) (by kernel_rfl) rfl (fun _ _ _ _ h => h) rfl (fun K hK => ?_)
    refine quiet_cell _ _ rfl _ rfl _ _ Try.underlying23 rfl (fun W' h => (((HBS.out.keep (hxx.trans h.ext) (by simp)).cell 1).trans HIN.out.s1)) ?_
    refine hK _ ?_
    simp only [Act.put, List.setIfInBounds_toArray, List.set_cons_succ, List.set_cons_zero]
    clear hK K
    refine stepM 58 rfl (by kernel_rfl) rfl (fun K hK => ?_)
    go_simp
    refine (HIN.out.tnn _).mono ?_
    rintro e _ ⟨rfl, rfl⟩
    have hk := Ext.refl w'
    refine hK _ _ (hk) ?_
    clear hK K
    refine stepM 61 rfl (by kernel_rfl) rfl (fun K hK => ?_)
    go_simp
    refine (HIN.out.rtn _).mono ?_
    rintro e _ ⟨rfl, rfl⟩
    have hk := Ext.refl w'
    refine hK _ _ (hk) ?_
    clear hK K
    refine takeE 62 rfl (by kernel_rfl) (by kernel_rfl) (by kernel_rfl) rfl (fun _ _ _ _ h => h) rfl (fun K hK => ?_)
    go_big_quiet_op
    first | refine hK _ ?_ | refine ⟨_, fun _ _ => rfl, hK _ ?_⟩
    clear hK K
    refine takeE 63 rfl (by kernel_rfl) (by kernel_rfl) (by kernel_rfl) rfl (fun _ _ _ _ h => h) rfl (fun K hK => ?_)
    go_big_quiet_op
    first | refine hK _ ?_ | refine ⟨_, fun _ _ => rfl, hK _ ?_⟩
    clear hK K
    refine takeE 64 rfl (by kernel_rfl) (by kernel_rfl) (by kernel_rfl) rfl (fun _ _ _ _ h => h) rfl (fun K hK => ?_)
    go_big_quiet_op
    first | refine hK _ ?_ | refine ⟨_, fun _ _ => rfl, hK _ ?_⟩
    clear hK K
    refine doneM (by kernel_rfl) ?_ _
    go_wp2
    go_ret
    exact ⟨rfl, (HX0.out.trans (HXW.out.trans hxx))⟩

end Go.Proofs.Ytnpolfihbfdggaa
