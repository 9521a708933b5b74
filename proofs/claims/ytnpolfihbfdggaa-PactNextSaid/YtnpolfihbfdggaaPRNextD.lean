/- Walk of the document's Next of layer 12, kind by kind. Conditions: the numbers are in their bounds. -/
import Derived.Test.YtnpolfihbfdggaaPRNextA
import Derived.Test.YtnpolfihbfdggaaPTells2
set_option linter.unusedVariables false
set_option linter.unusedSimpArgs false
set_option linter.unnecessarySimpa false
namespace Go.Proofs.Ytnpolfihbfdggaa
open Go.RowKit

theorem n2_size {n : Nat} (h : n = 2) : (Try.prog.info? 24).map (·.size) = some n := by subst h; kernel_rfl
theorem zRCond : (Try.prog.info? 30).bind (fun i => i.zero.map (·.cells)) = some (condCells (0, 0, 0, List.replicate 32 0, 0, ())).toArray := by kernel_rfl
theorem ownFrom_lt {w : World} {v : Value} {cs : List Cd} (h : OwnFrom w v cs) : ∀ g, v.ownBlock = some g → g < w.heap.size := fun g hg => (World.ownsRow.lt h.2 g hg).2
theorem ownFrom_holds {w : World} {v : Value} {cs : List Cd} (h : OwnFrom w v cs) : Conds w (fun b => v.ownBlock = some b) v cs := by
  obtain ⟨hok, h⟩ := h
  rcases h.2 with ⟨rfl, h0⟩ | ⟨g, cap, cur, rfl, _, hg, hnc, hcm, _, _⟩
  · obtain rfl : cs = [] := List.eq_nil_of_length_eq_zero h0
    exact ⟨none, 0, [], rfl, Nat.le_refl 0, by simp [maxLen], fun _ => rfl, fun h => absurd rfl h, rfl⟩
  · exact ⟨_, cap, _, rfl, hnc, hcm, by simp, fun _ => ⟨_, rfl, rfl, World.ownsRow.cells h rfl⟩, conds_iff.2 ⟨rfl, hok⟩⟩
/-- The payments that are kept of the first j: all but one. -/
def keptM (cs : List Cd) (a : Option Nat) (j : Nat) : List Cd := match a with
  | none => cs.take j
  | some a => (cs.take j).eraseIdx a
theorem kept_zero (cs : List Cd) (a : Option Nat) : keptM cs a 0 = [] := by cases a <;> simp [keptM]
theorem kept_step (cs : List Cd) (a : Option Nat) (j : Nat) (h : j < List.length (α := Cd) cs) (hne : a ≠ some j) : keptM cs a (j + 1) = keptM cs a j ++ [cs[j]] := by
  have ht : cs.take (j + 1) = cs.take j ++ [cs[j]] := List.take_succ_eq_append_getElem h
  cases a with
  | none => exact ht
  | some a =>
    show (cs.take (j + 1)).eraseIdx a = (cs.take j).eraseIdx a ++ [cs[j]]
    rw [ht]
    have hl : List.length (α := Cd) (cs.take j) = j := by rw [List.length_take]; omega
    have hne : a ≠ j := fun e => hne (by rw [e])
    by_cases hlt : a < j
    · rw [List.eraseIdx_append_of_lt_length (by omega)]
    · have h1 : List.length (α := Cd) [cs[j]] = 1 := rfl
      rw [List.eraseIdx_of_length_le (by rw [List.length_append]; omega), List.eraseIdx_of_length_le (by omega)]
theorem kept_skip (cs : List Cd) (j : Nat) (h : j < List.length (α := Cd) cs) : keptM cs (some j) (j + 1) = keptM cs (some j) j := by
  have ht : cs.take (j + 1) = cs.take j ++ [cs[j]] := List.take_succ_eq_append_getElem h
  have hl : List.length (α := Cd) (cs.take j) = j := by rw [List.length_take]; omega
  show (cs.take (j + 1)).eraseIdx j = (cs.take j).eraseIdx j
  have e1 : (cs.take j).eraseIdx j = cs.take j := List.eraseIdx_of_length_le (by omega)
  rw [ht, e1, List.eraseIdx_append_of_length_le (by omega), hl, Nat.sub_self]
  simp
theorem kept_ok {cs : List Cd} (h : ∀ c ∈ cs, CondOk c) (a : Option Nat) (j : Nat) : ∀ c ∈ keptM cs a j, CondOk c := by
  intro c hc
  cases a with
  | none => exact h c (List.mem_of_mem_take hc)
  | some a => exact h c (List.mem_of_mem_take (List.mem_of_mem_eraseIdx hc))
theorem kept_len (cs : List Cd) (a : Option Nat) (j : Nat) : List.length (α := Cd) (keptM cs a j) ≤ List.length (α := Cd) cs := by
  cases a with
  | none => show List.length (α := Cd) (cs.take j) ≤ _; rw [List.length_take]; omega
  | some a => exact Nat.le_trans (List.length_eraseIdx_le ..) (by rw [List.length_take]; omega)
/-- What is kept round by round. -/
structure RInv (w wr : World) (SC PC OC Z : List Value) (g11 : Nat) (n0 : St) (v : Value) (l : List Cd) : Prop where
  ext : Ext w wr
  sc : Blk wr w.heap.size 27 SC
  pc : Blk wr (w.heap.size + 1) 24 PC
  oc : Blk wr (w.heap.size + 2) 32 OC
  z : Blk wr (w.heap.size + 3) 27 Z
  nb : Blk wr g11 27 (stc n0 v)
  own : OwnFrom wr v l
  far : ∀ b, v.ownBlock = some b → w.heap.size + 4 ≤ b ∧ b ≠ g11
theorem RInv.ext' {w wr W : World} {SC PC OC Z : List Value} {g11 : Nat} {n0 : St} {v : Value} {l : List Cd} (h : RInv w wr SC PC OC Z g11 n0 v l) (hx : Ext wr W) : RInv w W SC PC OC Z g11 n0 v l :=
  ⟨h.ext.trans hx, h.sc.keep hx (by simp), h.pc.keep hx (by simp), h.oc.keep hx (by simp), h.z.keep hx (by simp), h.nb.keep hx (by simp), ⟨h.own.1, h.own.2.ext hx⟩, h.far⟩
theorem RInv.grow {w w0 w6 w7 : World} {SC PC OC Z : List Value} {g11 : Nat} {n0 : St} {v' v7 : Value} {l : List Cd} {ck : Cd} (h : RInv w w0 SC PC OC Z g11 n0 v' l) (hx : Ext w0 w6) (hm : Moved w6 w7 v' v7) (ho : Own w7 30 36 v7 (List.length (α := Cd) l + 1) (l.flatMap condCells ++ condCells ck)) (hok : CondOk ck) (hg : w.heap.size + 4 ≤ g11) :
    RInv w (w7.setCell ⟨g11, 6, none⟩ v7) SC PC OC Z g11 n0 v7 (l ++ [ck]) := by
  have h6 := h.ext' hx
  have far7 : ∀ b, v7.ownBlock = some b → w.heap.size + 4 ≤ b ∧ b ≠ g11 := fun b hb => by
    rcases hm.at_ with e | hn
    · exact h.far b (e.symm.trans hb)
    · have h1 := hn b hb
      have h2 := h6.nb.lt
      omega
  have ne : ∀ g, (g < w.heap.size + 4 ∨ g = g11) → some g ≠ v'.ownBlock := fun g hg e => by have := h.far g e.symm; omega
  have nb7 := h6.nb.keep hm.grown (ne g11 (.inr rfl))
  refine ⟨grown_then (grown_then h6.ext hm.grown (.inr fun g hg => by have := h.far g hg; omega)) (only_set 6 _) (.inr (by rintro b ⟨⟩; omega)), (h6.sc.keep hm.grown (ne _ (.inl (by omega)))).keep (only_set 6 _) (by simp; omega), (h6.pc.keep hm.grown (ne _ (.inl (by omega)))).keep (only_set 6 _) (by simp; omega), (h6.oc.keep hm.grown (ne _ (.inl (by omega)))).keep (only_set 6 _) (by simp; omega), (h6.z.keep hm.grown (ne _ (.inl (by omega)))).keep (only_set 6 _) (by simp; omega), ?_, ⟨?_, ?_⟩, far7⟩
  · have := nb7.set 6 v7
    simpa [stc] using this
  · intro c hc
    rcases List.mem_append.1 hc with hc | hc
    · exact h.own.1 c hc
    · rw [List.mem_singleton.1 hc]; exact hok
  · have e1 : (l ++ [ck]).flatMap condCells = l.flatMap condCells ++ condCells ck := by simp
    have e2 : List.length (α := Cd) (l ++ [ck]) = List.length (α := Cd) l + 1 := by rw [List.length_append]; rfl
    rw [e1, e2]
    refine ho.keep (row := some g11) (only_set 6 _) ?_
    cases hvb : v7.ownBlock with
    | none => exact .inl rfl
    | some b => exact .inr (by have := (far7 b hvb).2; simpa using this)
/-- A store into the new state. -/
theorem RInv.put {w W : World} {SC PC OC Z : List Value} {g11 : Nat} {n0 n1 : St} {v' : Value} {l : List Cd} (h : RInv w W SC PC OC Z g11 n0 v' l) (k : Nat) (u : Value) (he : (stc n0 v').set k u = stc n1 v') (hg : w.heap.size + 4 ≤ g11) :
    RInv w (W.setCell ⟨g11, k, none⟩ u) SC PC OC Z g11 n1 v' l :=
  ⟨grown_then h.ext (only_set k _) (.inr (by rintro b ⟨⟩; omega)), h.sc.keep (only_set k _) (by simp; omega), h.pc.keep (only_set k _) (by simp; omega), h.oc.keep (only_set k _) (by simp; omega), h.z.keep (only_set k _) (by simp; omega), by rw [← he]; exact h.nb.set k u,
    ⟨h.own.1, h.own.2.keep (row := some g11) (only_set k _) (by
      cases hvb : v'.ownBlock with
      | none => exact .inl rfl
      | some b => exact .inr (by have := (h.far b hvb).2; simpa using this))⟩, h.far⟩
/-- The end: a state may be, or why not. -/
def finM (m : St) (p0 p1 : Nat) : St × Int := if soundM m p0 p1 ≠ 0 then (.zero, soundM m p0 p1) else (m, 0)
set_option maxRecDepth 100000 in
set_option maxHeartbeats 8000000 in
theorem RNext0 (w : World) (F : Fp) (s : St) (p0 p1 : Nat) (v : Value) (SC PC OC Z : List Value) (sd : Int) (r1 am cid cam oid : Nat) (cside : Int) (fd : Nat → Int) (rm : Nat → Int) (hin : RNextIn w SC PC OC Z sd s.cs s.round r1 am cid cam oid 0 cside 0 fd rm sd) (hr1 : r1 = s.round + 1)
    (hsc : SC = stc s v) (hpc : PC = ptc p0 p1) (hs : StOk s) (hc : Conds w F v s.cs) (hF : ∀ b, F b → b < w.heap.size) (hrd' : s.round < 200) (h8 : List.length (α := Cd) s.cs ≤ 8) (hp0 : p0 < M64) (hp1 : p1 < M64) :
    Calls Try.prog 13 #[.agg SC.toArray, .agg PC.toArray, .int .i64 sd, .agg OC.toArray] w fun e w' => ∃ v', e = .returned (.tuple #[.agg (stc (finM { s with round := r1 } p0 p1).1 v').toArray, .int .i64 (finM { s with round := r1 } p0 p1).2]) ∧ OwnFrom w' v' (finM { s with round := r1 } p0 p1).1.cs ∧ Ext w w' := by
  obtain ⟨i1, z1, hi1, hz1, hi2, hi3, hi4⟩ := partsFrom
  obtain ⟨A, c, xs, rfl, hlc, hcm, hA, hcell, hall⟩ := conds_open hc
  clear hc
  unfold maxLen at hcm
  have hs6 : SC[6]? = some (.slice A (List.length (α := Cd) s.cs) c) := by rw [hsc]; rfl
  have hs0 : SC[0]? = some (.int .u32 (s.chan : Int)) := by rw [hsc]; rfl
  have hsm : (SC.drop 2).take 2 = ptc s.m0 s.m1 := by rw [hsc]; rfl
  have hst : (SC.drop 4).take 2 = ptc s.t0 s.t1 := by rw [hsc]; rfl
  have HPE := Lib.hid hpc
  have HR1 := Lib.hid hr1
  clear hsc hpc hr1
  obtain ⟨rd, hrd⟩ : ∃ rd, rd = s.round := ⟨_, rfl⟩
  rw [← hrd] at hin hrd'
  have hz := hin.zi
  have hzo := hin.zo
  have HZB : Hid (Z = zst) := hin.zE
  have HSL := Lib.hid hin.sl
  have HPL := Lib.hid hin.pl
  have HOL := Lib.hid hin.ol
  have HZL := Lib.hid hin.zl
  have hb0 : Blk ((((w.alloc (.cells SC.toArray 27)).alloc (.cells PC.toArray 24)).alloc (.cells OC.toArray 32)).alloc (.cells Z.toArray 27)) w.heap.size 27 SC := (Blk.new _ _ _).keep ((((Ext.refl _).alloc _).alloc _).alloc _) (by simp)
  have hb1 : Blk ((((w.alloc (.cells SC.toArray 27)).alloc (.cells PC.toArray 24)).alloc (.cells OC.toArray 32)).alloc (.cells Z.toArray 27)) (w.heap.size + 1) 24 PC := (Blk.new_at (by simp) _ _).keep (((Ext.refl _).alloc _).alloc _) (by simp)
  have hb2 : Blk ((((w.alloc (.cells SC.toArray 27)).alloc (.cells PC.toArray 24)).alloc (.cells OC.toArray 32)).alloc (.cells Z.toArray 27)) (w.heap.size + 2) 32 OC := (Blk.new_at (by simp) _ _).keep ((Ext.refl _).alloc _) (by simp)
  have hb3 : Blk ((((w.alloc (.cells SC.toArray 27)).alloc (.cells PC.toArray 24)).alloc (.cells OC.toArray 32)).alloc (.cells Z.toArray 27)) (w.heap.size + 3) 27 Z := Blk.new_at (by simp) _ _
  have hx0 : Ext w ((((w.alloc (.cells SC.toArray 27)).alloc (.cells PC.toArray 24)).alloc (.cells OC.toArray 32)).alloc (.cells Z.toArray 27)) := ((((Ext.refl w).alloc _).alloc _).alloc _).alloc _
  have hcs := hb0.cells
  have hcp := hb1.cells
  have HB0 := Lib.hid hb0
  have HB1 := Lib.hid hb1
  have HB2 := Lib.hid hb2
  have HB3 := Lib.hid hb3
  have HX0 := Lib.hid hx0
  have HIN := Lib.hid hin
  clear hb0 hb1 hb2 hb3 hx0 hin
  have c1' : ∀ W, Ext ((((w.alloc (.cells SC.toArray 27)).alloc (.cells PC.toArray 24)).alloc (.cells OC.toArray 32)).alloc (.cells Z.toArray 27)) W → W.cell? ⟨w.heap.size, 1, none⟩ = some (.int .u64 (rd : Int)) := fun W h => ((HB0.out.keep h (by simp)).cell 1).trans HIN.out.s1
  have C1 := Lib.hid c1'
  have hrb : ((rd : Int) == 200) = false := by rw [beq_eq_false_iff_ne]; omega
  have htb : (sd != sd) = false := bne_self_eq_false _
  have hw1 := HIN.out.w1
  have HRD := Lib.hid hrd
  clear c1' hrd
  go_enter Try.func13, Try.ntmps13
  go_wp2_with (first
    | (refine wpList_alloc _ rfl 27 rfl _ hz ?_)
    | (refine wpList_load_agg _ rfl 27 (.tmp 4) rfl _ rfl SC _ Try.underlying27 rfl (szSFrom HSL.out) hcs ?_)
    | (refine wpList_load_agg _ rfl 24 (.tmp 5) rfl _ rfl PC _ Try.underlying24 rfl (by rw [HPL.out]; kernel_rfl) hcp ?_)
    | fail)
  refine (HIN.out.sn _ HX0.out).mono ?_
  rintro e w1 ⟨rfl, hx1⟩
  have d1 := C1.out w1 hx1
  have hbs := HB0.out.keep hx1 (by simp)
  have d0 := (hbs.cell 0).trans hs0
  have hm2 : Cells w1 ⟨w.heap.size, 2, none⟩ (ptc s.m0 s.m1) := by have h := (hbs.cells.drop 2).take 2; rw [hsm] at h; simpa [Addr.add] using h
  have ht4 : Cells w1 ⟨w.heap.size, 4, none⟩ (ptc s.t0 s.t1) := by have h := (hbs.cells.drop 4).take 2; rw [hst] at h; simpa [Addr.add] using h
  have k0 : (w1.alloc (.cells (stc { s with round := r1, cs := [] } (.slice none 0 0)).toArray 27)).cell? ⟨w.heap.size + 2, 0, none⟩ = some (.int .i64 0) := ((HB2.out.keep (hx1.alloc _) (by simp)).cell 0).trans HIN.out.o0
  have hI : RInv w (w1.alloc (.cells (stc { s with round := r1, cs := [] } (.slice none 0 0)).toArray 27)) SC PC OC Z w1.heap.size { s with round := r1, cs := [] } (.slice none 0 0) [] := by
    have hx := hx1.alloc (.cells (stc { s with round := r1, cs := [] } (.slice none 0 0)).toArray 27)
    exact ⟨HX0.out.trans hx, HB0.out.keep hx (by simp), HB1.out.keep hx (by simp), HB2.out.keep hx (by simp), HB3.out.keep hx (by simp), Blk.new _ _ _, ⟨by simp, Own.nil _ _ _⟩, by simp [Value.ownBlock]⟩
  have hg11 : w.heap.size + 4 ≤ w1.heap.size := by have h1 := HB3.out.lt; have h2 := hx1.size; omega
  have HI := Lib.hid hI
  clear hI hbs
  go_wp2_with (first
    | (go_at_call 30; refine (HIN.out.turn _).mono ?_; rintro e _ ⟨rfl, rfl⟩)
    | (refine wpList_load_agg _ rfl 24 (.tmp 39) rfl _ rfl (ptc s.m0 s.m1) _ Try.underlying24 rfl (n2_size rfl) hm2 ?_)
    | (refine wpList_load_agg _ rfl 24 (.tmp 41) rfl _ rfl (ptc s.t0 s.t1) _ Try.underlying24 rfl (n2_size rfl) ht4 ?_)
    | (refine wpList_build (.inl rfl) 27 _ rfl (.agg (stc { s with round := r1, cs := [] } (.slice none 0 0)).toArray) (by kernel_rfl) ?_)
    | (refine wpList_alloc _ rfl 27 rfl _ hz ?_)
    | (refine wpList_store_new _ rfl 27 (.tmp 11) (.tmp 43) rfl rfl Z (stc { s with round := r1, cs := [] } (.slice none 0 0)) _ rfl (szSFrom rfl) (by rw [HZL.out]; rfl) (stc_one _ _ _ _) ?_)
    | fail
    | fail)
  generalize w1.alloc (.cells (stc { s with round := r1, cs := [] } (.slice none 0 0)).toArray 27) = w2 at *
  generalize w1.heap.size = g11 at *
  clear k0
  go_loopw [13] (fun i wr => ∃ (j : Nat) (v' : Value), j ≤ List.length (α := Cd) s.cs ∧ i = .int .i64 j ∧ RInv w wr SC PC OC Z g11 { s with round := r1, cs := [] } v' (keptM s.cs none j)) (fun i _ => List.length (α := Cd) s.cs - (intOf i).toNat)
  case atStart => exact ⟨0, .slice none 0 0, by omega, rfl, by rw [kept_zero]; exact HI.out⟩
  case round =>
    clear HI
    obtain ⟨j, v', hj, rfl, hI⟩ := hrel
    have HI := Lib.hid hI
    clear hI
    have e6 : wr.cell? ⟨w.heap.size, 6, none⟩ = some (.slice A (List.length (α := Cd) s.cs) c) := (HI.out.sc.cell 6).trans hs6
    by_cases hlt : j < List.length (α := Cd) s.cs
    · obtain ⟨ad, rfl, hf, hcells⟩ := hcell (by omega)
      have hjb : ((j : Int) != -1) = true := by rw [bne_iff_ne]; omega
      obtain ⟨hcc, hok⟩ := conds_at hall (hcells.keep (HI.out.ext.same hF _ hf)) hlt
      have hks := kept_step s.cs none j hlt (by simp)
      have hkl := kept_len s.cs none j
      have hone := condCells_one s.cs[j]
      have HCL := Lib.hid (condCells_len hok)
      generalize hck : s.cs[j] = ck at *
      generalize hCE : condCells ck = C at *
      have HCE := Lib.hid hCE
      have HKS := Lib.hid hks
      have HKL := Lib.hid hkl
      have HOKC := Lib.hid hok
      clear hks hkl hcells hCE hok hck
      go_wp2
      have hcc : Cells wr.drew (ad.add (j * 36)) C := hcc
      have hd6 : wr.drew.cell? ⟨w.heap.size, 6, none⟩ = some (.slice (some ad) (List.length (α := Cd) s.cs) c) := e6
      have HI := Lib.hid (HI.out.ext' (Ext.refl wr).drew)
      refine startL 10 (KeepB fun b => b = g11 ∨ b ≤ w.heap.size) (by kernel_rfl) ?_
      (try simp only [Act.put, List.setIfInBounds_toArray, List.set_cons_succ, List.set_cons_zero])
      generalize wr.drew = w0 at *
      have hc6 : w0.cell? ⟨g11, 6, none⟩ = some v' := (HI.out.nb.cell 6).trans rfl
      have C6 := Lib.hid hc6
      have D6 := Lib.hid hd6
      have HCC := Lib.hid hcc
      clear hc6 hd6 hcc e6
      refine takeN (fun _ _ _ => rfl) 0 rfl (by kernel_rfl) (by kernel_rfl) (by kernel_rfl) rfl (fun _ _ _ _ h => h) rfl (fun K hK => ?_)
      go_big_quiet_op
      first | refine hK _ ?_ | refine ⟨_, fun _ _ => rfl, hK _ ?_⟩
      clear hK K
      refine takeL (fun _ _ _ => rfl) (fun _ _ _ h1 h2 b hb => (h2 b hb).trans (h1 b hb)) 1 [10] rfl (by kernel_rfl) (by kernel_rfl) (by kernel_rfl) (by kernel_rfl) rfl (fun _ _ _ _ h => h) rfl (fun K hK => ?_)
      refine quiet_cell _ _ rfl _ rfl _ _ Try.underlying25 rfl (fun W' h => KeepB.cell h C6.out (by simp)) ?_
      refine hK _ ?_
      simp only [Act.put, List.setIfInBounds_toArray, List.set_cons_succ, List.set_cons_zero]
      clear hK K
      refine takeN (fun _ _ _ => rfl) 2 rfl (by kernel_rfl) (by kernel_rfl) (by kernel_rfl) rfl (fun _ _ _ _ h => h) rfl (fun K hK => ?_)
      go_big_quiet_op
      first | refine hK _ ?_ | refine ⟨_, fun _ _ => rfl, hK _ ?_⟩
      clear hK K
      refine takeL (fun _ _ _ => rfl) (fun _ _ _ h1 h2 b hb => (h2 b hb).trans (h1 b hb)) 3 [10] rfl (by kernel_rfl) (by kernel_rfl) (by kernel_rfl) (by kernel_rfl) rfl (fun _ _ _ _ h => h) rfl (fun K hK => ?_)
      refine quiet_cell _ _ rfl _ rfl _ _ Try.underlying25 rfl (fun W' h => KeepB.cell h D6.out (by simp)) ?_
      refine hK _ ?_
      simp only [Act.put, List.setIfInBounds_toArray, List.set_cons_succ, List.set_cons_zero]
      clear hK K
      refine takeN (fun _ _ _ => rfl) 4 rfl (by kernel_rfl) (by kernel_rfl) (by kernel_rfl) rfl (fun _ _ _ _ h => h) rfl (fun K hK => ?_)
      go_big_quiet_op
      first | refine hK _ ?_ | refine ⟨_, fun _ _ => rfl, hK _ ?_⟩
      clear hK K
      refine takeN (fun _ _ _ => rfl) 5 rfl (by kernel_rfl) (by kernel_rfl) (by kernel_rfl) rfl (fun _ _ _ _ h => h) rfl (fun K hK => ?_)
      go_big_quiet_op
      first | refine hK _ ?_ | refine ⟨_, fun _ _ => rfl, hK _ ?_⟩
      clear hK K
      refine takeL (fun _ _ _ => rfl) (fun _ _ _ h1 h2 b hb => (h2 b hb).trans (h1 b hb)) 6 [10] rfl (by kernel_rfl) (by kernel_rfl) (by kernel_rfl) (by kernel_rfl) rfl (fun _ _ _ _ h => h) rfl (fun K hK => ?_)
      refine quiet_agg 30 (.tmp 74) rfl _ rfl C _ Try.underlying30 rfl (szDFrom HCL.out) (fun W' h => KeepB.cells h HCC.out (.inr (by rw [add_block]; have := hF _ hf; omega))) ?_
      refine hK _ ?_
      simp only [Act.put, List.setIfInBounds_toArray, List.set_cons_succ, List.set_cons_zero]
      clear hK K
      refine stepL 7 rfl (by kernel_rfl) rfl (fun K hK => ?_)
      refine wp_one w0 25 (.tmp 75) rfl 30 C Try.underlying25 rfl (szDFrom HCL.out) zDFrom (by rw [HCL.out]; decide) (by rw [HCL.out]; decide) ?_
      refine hK _ _ (fun _ b hb => ((Ext.refl w0).alloc _).block b (by have h1 := HI.out.nb.lt; have h2 := HI.out.sc.lt; rcases hb with rfl | hb <;> omega) (by simp)) ?_
      clear hK K
      (try simp only [Act.put, List.setIfInBounds_toArray, List.set_cons_succ, List.set_cons_zero])
      refine stepL 8 rfl (by kernel_rfl) rfl (fun K hK => ?_)
      refine wp_app _ (.tmp 70) (.tmp 76) _ _ rfl 30 30 i1 z1 36 64 Try.underlying25 Try.underlying25 hi1 hz1 hi2 hi3 hi4 (by decide) _ _ _ rfl (HI.out.own.2.ext ((Ext.refl w0).alloc _)) _ 1 1 C rfl (by rw [HCL.out]) (src_new_at rfl C _ 1) hone (by have := HKL.out; unfold maxLen; omega) (by have := HKL.out; omega) ?_
      intro v7 w7 ho7 hm7
      obtain ⟨A7, c7, hv7⟩ := Own.form ho7
      subst hv7
      refine hK _ _ (fun _ b hb => hm7.grown.block b (by have h1 := HI.out.nb.lt; have h2 := HI.out.sc.lt; simp; rcases hb with rfl | hb <;> omega) (fun e => by have h9 := HI.out.far b e.symm; rcases hb with hb | hb <;> omega)) ?_
      clear hK K
      (try simp only [Act.put, List.setIfInBounds_toArray, List.set_cons_succ, List.set_cons_zero])
      refine takeN (fun _ _ _ => rfl) 9 rfl (by kernel_rfl) (by kernel_rfl) (by kernel_rfl) rfl (fun _ _ _ _ h => h) rfl (fun K hK => ?_)
      go_big_quiet_op
      first | refine hK _ ?_ | refine ⟨_, fun _ _ => rfl, hK _ ?_⟩
      clear hK K
      refine stepL 10 rfl (by kernel_rfl) rfl (fun K hK => ?_)
      have HB7 := Lib.hid ((HI.out.nb.keep ((Ext.refl w0).alloc (.cells C.toArray 30)) (by simp)).keep hm7.grown (fun e => (HI.out.far _ e.symm).2 rfl))
      have s9 : w7.cell? ⟨g11, 6, none⟩ = some v' := (HB7.out.cell 6).trans rfl
      have f9 : w7.frozen? ⟨g11, 6, none⟩ = false := HB7.out.free 6
      go_simp
      refine hK _ _ (fun h => absurd rfl h) ?_
      clear hK K
      refine doneL (by kernel_rfl) ?_ _
      have hI8 := HI.out.grow ((Ext.refl w0).alloc (.cells C.toArray 30)) hm7 (by rw [HCE.out]; exact ho7) HOKC.out hg11
      have HI8 := Lib.hid hI8
      clear hI8 s9 f9 ho7
      go_wp2
      go_roundw
      case rel => exact ⟨j + 1, _, by omega, by go_num, by rw [HKS.out]; exact HI8.out⟩
      case measure => simp [intOf]; omega
    · obtain rfl : j = List.length (α := Cd) s.cs := by omega
      have hkf : keptM s.cs none (List.length (α := Cd) s.cs) = s.cs := List.take_length
      have k0 : wr.cell? ⟨w.heap.size + 2, 0, none⟩ = some (.int .i64 0) := (HI.out.oc.cell 0).trans HIN.out.o0
      have hmo : StOk ({ s with round := r1 } : St) := ⟨hs.chan, by show r1 < M64; rw [HR1.out]; unfold M64; have := HRD.out; omega, hs.m0, hs.m1, hs.t0, hs.t1⟩
      have hnb : Blk wr g11 27 (stc ({ s with round := r1 } : St) v') := HI.out.nb
      have hown : OwnFrom wr v' (St.cs ({ s with round := r1 } : St)) := by have h := HI.out.own; rw [hkf] at h; exact h
      have hsm := RSoundC ({ s with round := r1 } : St) v' p0 p1 wr _ hmo hp0 hp1 (ownFrom_holds hown) (ownFrom_lt hown)
      rw [← HPE.out] at hsm
      have hml : (stc ({ s with round := r1 } : St) v').length = 7 := rfl
      have hmone : ∀ u ∈ stc ({ s with round := r1 } : St) v', u.oneCell' = true := by obtain ⟨A2, c2, h⟩ := hown.2.form; rw [h]; exact stc_one _ _ _ _
      obtain ⟨MC, hMC⟩ : ∃ MC, MC = stc ({ s with round := r1 } : St) v' := ⟨_, rfl⟩
      rw [← hMC] at hnb hsm hml hmone
      obtain ⟨zm, hzm⟩ : ∃ zm, zm = soundM ({ s with round := r1 } : St) p0 p1 := ⟨_, rfl⟩
      rw [← hzm] at hsm
      have hcm2 := hnb.cells
      have hcp2 := HI.out.pc.cells
      have HMC := Lib.hid hMC
      have HZM := Lib.hid hzm
      have HML := Lib.hid hml
      have HNB := Lib.hid hnb
      have HOWN := Lib.hid hown
      clear hMC hzm hml hnb hown hmo
      go_wp2_with (first
        | (refine wpList_load_agg _ rfl 27 (.tmp 11) rfl _ rfl MC _ Try.underlying27 rfl (szSFrom HML.out) hcm2 ?_)
        | (refine wpList_load_agg _ rfl 24 (.tmp 5) rfl _ rfl PC _ Try.underlying24 rfl (n2_size HPL.out) hcp2 ?_)
        | fail)
      refine hsm.mono ?_
      rintro e w5 ⟨rfl, hx5⟩
      have hr8 : w5.heap[w.heap.size + 3]? = some (.cells Z.toArray 27 (0, 0)) := HI.out.z.keep hx5 (by simp)
      have hcm2 := (HNB.out.keep hx5 (by simp)).cells
      by_cases hz0 : zm = 0
      · subst hz0
        go_wp2_with (first
          | (refine wpList_load_agg _ rfl 27 (.tmp 11) rfl _ rfl MC _ Try.underlying27 rfl (szSFrom HML.out) hcm2 ?_)
          | (refine wpList_store_row _ rfl 27 (.tmp 8) (.tmp 198) rfl (w.heap.size + 3) rfl Z MC _ rfl hr8 (szSFrom HML.out) (by rw [HML.out, HZL.out]) hmone ?_)
          | fail)
        have hc9 := Blk.cells (t := 27) (setRow_at (cs' := MC.toArray) hr8)
        (try simp only [Exit.inBlock, Exit.then])
        refine bodyPost_ret (results_agg_tmp rfl _ _ _ _ _ rfl Try.underlying27 rfl (szSFrom HML.out) hc9) rfl ?_
        have hfin : finM ({ s with round := r1 } : St) p0 p1 = (({ s with round := r1 } : St), 0) := by unfold finM; rw [if_neg (by rw [← HZM.out]; simp)]
        refine ⟨v', ?_, ?_, grown_then (HI.out.ext.trans hx5) (setRow_only _) (.inr (by rintro b ⟨⟩; omega))⟩
        · rw [hfin, HMC.out]; rfl
        · rw [hfin]
          exact ⟨HOWN.out.1, (HOWN.out.2.ext hx5).keep (row := some (w.heap.size + 3)) (setRow_only _) (by
            cases hvb : v'.ownBlock with
            | none => exact .inl rfl
            | some b => exact .inr (by have := (HI.out.far b hvb).1; simp; omega))⟩
      · have hzb : (zm != 0) = true := by simpa using hz0
        go_wp2_with (first
          | (refine wpList_build (.inl rfl) 27 _ rfl (.agg zst.toArray) (by kernel_rfl) ?_; rw [← HZB])
          | (refine wpList_store_row _ rfl 27 (.tmp 8) (.tmp 196) rfl (w.heap.size + 3) rfl Z Z _ rfl hr8 (szSFrom HZL.out) rfl hzo ?_)
          | fail)
        have hc9 := Blk.cells (t := 27) (setRow_at (cs' := Z.toArray) hr8)
        (try simp only [Exit.inBlock, Exit.then])
        refine bodyPost_ret (results_agg_tmp rfl _ _ _ _ _ rfl Try.underlying27 rfl (szSFrom HZL.out) hc9) rfl ?_
        have hfin : finM ({ s with round := r1 } : St) p0 p1 = (.zero, zm) := by unfold finM; rw [if_pos (by rw [← HZM.out]; exact hz0), HZM.out]
        refine ⟨.slice none 0 0, ?_, ?_, grown_then (HI.out.ext.trans hx5) (setRow_only _) (.inr (by rintro b ⟨⟩; omega))⟩
        · rw [hfin, HZB.out]; rfl
        · rw [hfin]; exact ⟨by simp [St.zero], Own.nil _ _ _⟩
set_option maxRecDepth 100000 in
set_option maxHeartbeats 8000000 in
theorem RNext4 (w : World) (F : Fp) (s : St) (p0 p1 : Nat) (v : Value) (SC PC OC Z : List Value) (sd : Int) (r1 am cid cam oid : Nat) (cside : Int) (fd : Nat → Int) (rm : Nat → Int) (hin : RNextIn w SC PC OC Z sd s.cs s.round r1 am cid cam oid 4 cside 0 fd rm sd) (at' : Nat) (hat : fd oid = (at' : Int)) (hal : at' < List.length (α := Cd) s.cs) (hr1 : r1 = s.round + 1)
    (hsc : SC = stc s v) (hpc : PC = ptc p0 p1) (hs : StOk s) (hc : Conds w F v s.cs) (hF : ∀ b, F b → b < w.heap.size) (hrd' : s.round < 200) (h8 : List.length (α := Cd) s.cs ≤ 8) (hp0 : p0 < M64) (hp1 : p1 < M64) :
    Calls Try.prog 13 #[.agg SC.toArray, .agg PC.toArray, .int .i64 sd, .agg OC.toArray] w fun e w' => ∃ v', e = .returned (.tuple #[.agg (stc (finM ({ s with round := r1, cs := s.cs.eraseIdx at' } : St) p0 p1).1 v').toArray, .int .i64 (finM ({ s with round := r1, cs := s.cs.eraseIdx at' } : St) p0 p1).2]) ∧ OwnFrom w' v' (finM ({ s with round := r1, cs := s.cs.eraseIdx at' } : St) p0 p1).1.cs ∧ Ext w w' := by
  obtain ⟨i1, z1, hi1, hz1, hi2, hi3, hi4⟩ := partsFrom
  obtain ⟨A, c, xs, rfl, hlc, hcm, hA, hcell, hall⟩ := conds_open hc
  clear hc
  unfold maxLen at hcm
  have hs6 : SC[6]? = some (.slice A (List.length (α := Cd) s.cs) c) := by rw [hsc]; rfl
  have hs0 : SC[0]? = some (.int .u32 (s.chan : Int)) := by rw [hsc]; rfl
  have hsm : (SC.drop 2).take 2 = ptc s.m0 s.m1 := by rw [hsc]; rfl
  have hst : (SC.drop 4).take 2 = ptc s.t0 s.t1 := by rw [hsc]; rfl
  have HPE := Lib.hid hpc
  have HR1 := Lib.hid hr1
  clear hsc hpc hr1
  obtain ⟨rd, hrd⟩ : ∃ rd, rd = s.round := ⟨_, rfl⟩
  rw [← hrd] at hin hrd'
  have hz := hin.zi
  have hzo := hin.zo
  have HZB : Hid (Z = zst) := hin.zE
  have HSL := Lib.hid hin.sl
  have HPL := Lib.hid hin.pl
  have HOL := Lib.hid hin.ol
  have HZL := Lib.hid hin.zl
  have hb0 : Blk ((((w.alloc (.cells SC.toArray 27)).alloc (.cells PC.toArray 24)).alloc (.cells OC.toArray 32)).alloc (.cells Z.toArray 27)) w.heap.size 27 SC := (Blk.new _ _ _).keep ((((Ext.refl _).alloc _).alloc _).alloc _) (by simp)
  have hb1 : Blk ((((w.alloc (.cells SC.toArray 27)).alloc (.cells PC.toArray 24)).alloc (.cells OC.toArray 32)).alloc (.cells Z.toArray 27)) (w.heap.size + 1) 24 PC := (Blk.new_at (by simp) _ _).keep (((Ext.refl _).alloc _).alloc _) (by simp)
  have hb2 : Blk ((((w.alloc (.cells SC.toArray 27)).alloc (.cells PC.toArray 24)).alloc (.cells OC.toArray 32)).alloc (.cells Z.toArray 27)) (w.heap.size + 2) 32 OC := (Blk.new_at (by simp) _ _).keep ((Ext.refl _).alloc _) (by simp)
  have hb3 : Blk ((((w.alloc (.cells SC.toArray 27)).alloc (.cells PC.toArray 24)).alloc (.cells OC.toArray 32)).alloc (.cells Z.toArray 27)) (w.heap.size + 3) 27 Z := Blk.new_at (by simp) _ _
  have hx0 : Ext w ((((w.alloc (.cells SC.toArray 27)).alloc (.cells PC.toArray 24)).alloc (.cells OC.toArray 32)).alloc (.cells Z.toArray 27)) := ((((Ext.refl w).alloc _).alloc _).alloc _).alloc _
  have hcs := hb0.cells
  have hcp := hb1.cells
  have HB0 := Lib.hid hb0
  have HB1 := Lib.hid hb1
  have HB2 := Lib.hid hb2
  have HB3 := Lib.hid hb3
  have HX0 := Lib.hid hx0
  have HIN := Lib.hid hin
  clear hb0 hb1 hb2 hb3 hx0 hin
  have c1' : ∀ W, Ext ((((w.alloc (.cells SC.toArray 27)).alloc (.cells PC.toArray 24)).alloc (.cells OC.toArray 32)).alloc (.cells Z.toArray 27)) W → W.cell? ⟨w.heap.size, 1, none⟩ = some (.int .u64 (rd : Int)) := fun W h => ((HB0.out.keep h (by simp)).cell 1).trans HIN.out.s1
  have C1 := Lib.hid c1'
  have hrb : ((rd : Int) == 200) = false := by rw [beq_eq_false_iff_ne]; omega
  have htb : (sd != sd) = false := bne_self_eq_false _
  have hw1 := HIN.out.w1
  have HRD := Lib.hid hrd
  clear c1' hrd
  go_enter Try.func13, Try.ntmps13
  go_wp2_with (first
    | (refine wpList_alloc _ rfl 27 rfl _ hz ?_)
    | (refine wpList_load_agg _ rfl 27 (.tmp 4) rfl _ rfl SC _ Try.underlying27 rfl (szSFrom HSL.out) hcs ?_)
    | (refine wpList_load_agg _ rfl 24 (.tmp 5) rfl _ rfl PC _ Try.underlying24 rfl (by rw [HPL.out]; kernel_rfl) hcp ?_)
    | fail)
  refine (HIN.out.sn _ HX0.out).mono ?_
  rintro e w1 ⟨rfl, hx1⟩
  have d1 := C1.out w1 hx1
  have hbs := HB0.out.keep hx1 (by simp)
  have d0 := (hbs.cell 0).trans hs0
  have hm2 : Cells w1 ⟨w.heap.size, 2, none⟩ (ptc s.m0 s.m1) := by have h := (hbs.cells.drop 2).take 2; rw [hsm] at h; simpa [Addr.add] using h
  have ht4 : Cells w1 ⟨w.heap.size, 4, none⟩ (ptc s.t0 s.t1) := by have h := (hbs.cells.drop 4).take 2; rw [hst] at h; simpa [Addr.add] using h
  have k0 : (w1.alloc (.cells (stc { s with round := r1, cs := [] } (.slice none 0 0)).toArray 27)).cell? ⟨w.heap.size + 2, 0, none⟩ = some (.int .i64 4) := ((HB2.out.keep (hx1.alloc _) (by simp)).cell 0).trans HIN.out.o0
  have k38 : (w1.alloc (.cells (stc { s with round := r1, cs := [] } (.slice none 0 0)).toArray 27)).cell? ⟨w.heap.size + 2, 38, none⟩ = some (.int .u64 (oid : Int)) := ((HB2.out.keep (hx1.alloc _) (by simp)).cell 38).trans HIN.out.o38
  have hcs2 := (HB0.out.keep (hx1.alloc (.cells (stc { s with round := r1, cs := [] } (.slice none 0 0)).toArray 27)) (by simp)).cells
  have hI : RInv w (w1.alloc (.cells (stc { s with round := r1, cs := [] } (.slice none 0 0)).toArray 27)) SC PC OC Z w1.heap.size { s with round := r1, cs := [] } (.slice none 0 0) [] := by
    have hx := hx1.alloc (.cells (stc { s with round := r1, cs := [] } (.slice none 0 0)).toArray 27)
    exact ⟨HX0.out.trans hx, HB0.out.keep hx (by simp), HB1.out.keep hx (by simp), HB2.out.keep hx (by simp), HB3.out.keep hx (by simp), Blk.new _ _ _, ⟨by simp, Own.nil _ _ _⟩, by simp [Value.ownBlock]⟩
  have hg11 : w.heap.size + 4 ≤ w1.heap.size := by have h1 := HB3.out.lt; have h2 := hx1.size; omega
  have HI := Lib.hid hI
  clear hI hbs
  have hfd := HIN.out.fn _ HI.out.ext oid
  rw [hat] at hfd
  have HFD := Lib.hid hfd
  have hatn : ¬ ((at' : Int) < 0) := by omega
  clear hfd
  go_wp2_with (first
    | (go_at_call 30; refine (HIN.out.turn _).mono ?_; rintro e _ ⟨rfl, rfl⟩)
    | (refine wpList_load_agg _ rfl 24 (.tmp 39) rfl _ rfl (ptc s.m0 s.m1) _ Try.underlying24 rfl (n2_size rfl) hm2 ?_)
    | (refine wpList_load_agg _ rfl 24 (.tmp 41) rfl _ rfl (ptc s.t0 s.t1) _ Try.underlying24 rfl (n2_size rfl) ht4 ?_)
    | (refine wpList_build (.inl rfl) 27 _ rfl (.agg (stc { s with round := r1, cs := [] } (.slice none 0 0)).toArray) (by kernel_rfl) ?_)
    | (refine wpList_alloc _ rfl 27 rfl _ hz ?_)
    | (refine wpList_store_new _ rfl 27 (.tmp 11) (.tmp 43) rfl rfl Z (stc { s with round := r1, cs := [] } (.slice none 0 0)) _ rfl (szSFrom rfl) (by rw [HZL.out]; rfl) (stc_one _ _ _ _) ?_)
    | (refine wpList_load_agg _ rfl 27 (.tmp 4) rfl _ rfl SC _ Try.underlying27 rfl (szSFrom HSL.out) hcs2 ?_)
    | (go_at_call 27; refine HFD.out.mono ?_; rintro e w2 ⟨rfl, hx2⟩)
    | fail)
  have HI := Lib.hid (HI.out.ext' hx2)
  generalize w1.heap.size = g11 at *
  clear k0 k38 hcs2 hx1 hm2 ht4 d0 d1
  go_loopw [13] (fun i wr => ∃ (j : Nat) (v' : Value), j ≤ List.length (α := Cd) s.cs ∧ i = .int .i64 j ∧ RInv w wr SC PC OC Z g11 { s with round := r1, cs := [] } v' (keptM s.cs (some at') j)) (fun i _ => List.length (α := Cd) s.cs - (intOf i).toNat)
  case atStart => exact ⟨0, .slice none 0 0, by omega, rfl, by rw [kept_zero]; exact HI.out⟩
  case round =>
    clear HI
    obtain ⟨j, v', hj, rfl, hI⟩ := hrel
    have HI := Lib.hid hI
    clear hI
    have e6 : wr.cell? ⟨w.heap.size, 6, none⟩ = some (.slice A (List.length (α := Cd) s.cs) c) := (HI.out.sc.cell 6).trans hs6
    by_cases hlt : j < List.length (α := Cd) s.cs
    · obtain ⟨ad, rfl, hf, hcells⟩ := hcell (by omega)
      by_cases hje : at' = j
      · subst hje
        have hjb : ((at' : Int) != (at' : Int)) = false := bne_self_eq_false _
        have hks := kept_skip s.cs at' hlt
        have HKS := Lib.hid hks
        clear hks hcells
        go_wp2
        go_roundw
        case rel => exact ⟨at' + 1, v', by omega, by go_num, by rw [HKS.out]; exact HI.out⟩
        case measure => simp [intOf]; omega
      · have hjb : ((j : Int) != (at' : Int)) = true := by rw [bne_iff_ne]; omega
        have hne : (some at') ≠ some j := fun e => hje (Option.some.inj e)
        obtain ⟨hcc, hok⟩ := conds_at hall (hcells.keep (HI.out.ext.same hF _ hf)) hlt
        have hks := kept_step s.cs (some at') j hlt hne
        have hkl := kept_len s.cs (some at') j
        have hone := condCells_one s.cs[j]
        have HCL := Lib.hid (condCells_len hok)
        generalize hck : s.cs[j] = ck at *
        generalize hCE : condCells ck = C at *
        have HCE := Lib.hid hCE
        have HKS := Lib.hid hks
        have HKL := Lib.hid hkl
        have HOKC := Lib.hid hok
        clear hks hkl hcells hCE hok hck
        go_wp2
        have hcc : Cells wr.drew (ad.add (j * 36)) C := hcc
        have hd6 : wr.drew.cell? ⟨w.heap.size, 6, none⟩ = some (.slice (some ad) (List.length (α := Cd) s.cs) c) := e6
        have HI := Lib.hid (HI.out.ext' (Ext.refl wr).drew)
        refine startL 10 (KeepB fun b => b = g11 ∨ b ≤ w.heap.size) (by kernel_rfl) ?_
        (try simp only [Act.put, List.setIfInBounds_toArray, List.set_cons_succ, List.set_cons_zero])
        generalize wr.drew = w0 at *
        have hc6 : w0.cell? ⟨g11, 6, none⟩ = some v' := (HI.out.nb.cell 6).trans rfl
        have C6 := Lib.hid hc6
        have D6 := Lib.hid hd6
        have HCC := Lib.hid hcc
        clear hc6 hd6 hcc e6
        refine takeN (fun _ _ _ => rfl) 0 rfl (by kernel_rfl) (by kernel_rfl) (by kernel_rfl) rfl (fun _ _ _ _ h => h) rfl (fun K hK => ?_)
        go_big_quiet_op
        first | refine hK _ ?_ | refine ⟨_, fun _ _ => rfl, hK _ ?_⟩
        clear hK K
        refine takeL (fun _ _ _ => rfl) (fun _ _ _ h1 h2 b hb => (h2 b hb).trans (h1 b hb)) 1 [10] rfl (by kernel_rfl) (by kernel_rfl) (by kernel_rfl) (by kernel_rfl) rfl (fun _ _ _ _ h => h) rfl (fun K hK => ?_)
        refine quiet_cell _ _ rfl _ rfl _ _ Try.underlying25 rfl (fun W' h => KeepB.cell h C6.out (by simp)) ?_
        refine hK _ ?_
        simp only [Act.put, List.setIfInBounds_toArray, List.set_cons_succ, List.set_cons_zero]
        clear hK K
        refine takeN (fun _ _ _ => rfl) 2 rfl (by kernel_rfl) (by kernel_rfl) (by kernel_rfl) rfl (fun _ _ _ _ h => h) rfl (fun K hK => ?_)
        go_big_quiet_op
        first | refine hK _ ?_ | refine ⟨_, fun _ _ => rfl, hK _ ?_⟩
        clear hK K
        refine takeL (fun _ _ _ => rfl) (fun _ _ _ h1 h2 b hb => (h2 b hb).trans (h1 b hb)) 3 [10] rfl (by kernel_rfl) (by kernel_rfl) (by kernel_rfl) (by kernel_rfl) rfl (fun _ _ _ _ h => h) rfl (fun K hK => ?_)
        refine quiet_cell _ _ rfl _ rfl _ _ Try.underlying25 rfl (fun W' h => KeepB.cell h D6.out (by simp)) ?_
        refine hK _ ?_
        simp only [Act.put, List.setIfInBounds_toArray, List.set_cons_succ, List.set_cons_zero]
        clear hK K
        refine takeN (fun _ _ _ => rfl) 4 rfl (by kernel_rfl) (by kernel_rfl) (by kernel_rfl) rfl (fun _ _ _ _ h => h) rfl (fun K hK => ?_)
        go_big_quiet_op
        first | refine hK _ ?_ | refine ⟨_, fun _ _ => rfl, hK _ ?_⟩
        clear hK K
        refine takeN (fun _ _ _ => rfl) 5 rfl (by kernel_rfl) (by kernel_rfl) (by kernel_rfl) rfl (fun _ _ _ _ h => h) rfl (fun K hK => ?_)
        go_big_quiet_op
        first | refine hK _ ?_ | refine ⟨_, fun _ _ => rfl, hK _ ?_⟩
        clear hK K
        refine takeL (fun _ _ _ => rfl) (fun _ _ _ h1 h2 b hb => (h2 b hb).trans (h1 b hb)) 6 [10] rfl (by kernel_rfl) (by kernel_rfl) (by kernel_rfl) (by kernel_rfl) rfl (fun _ _ _ _ h => h) rfl (fun K hK => ?_)
        refine quiet_agg 30 (.tmp 74) rfl _ rfl C _ Try.underlying30 rfl (szDFrom HCL.out) (fun W' h => KeepB.cells h HCC.out (.inr (by rw [add_block]; have := hF _ hf; omega))) ?_
        refine hK _ ?_
        simp only [Act.put, List.setIfInBounds_toArray, List.set_cons_succ, List.set_cons_zero]
        clear hK K
        refine stepL 7 rfl (by kernel_rfl) rfl (fun K hK => ?_)
        refine wp_one w0 25 (.tmp 75) rfl 30 C Try.underlying25 rfl (szDFrom HCL.out) zDFrom (by rw [HCL.out]; decide) (by rw [HCL.out]; decide) ?_
        refine hK _ _ (fun _ b hb => ((Ext.refl w0).alloc _).block b (by have h1 := HI.out.nb.lt; have h2 := HI.out.sc.lt; rcases hb with rfl | hb <;> omega) (by simp)) ?_
        clear hK K
        (try simp only [Act.put, List.setIfInBounds_toArray, List.set_cons_succ, List.set_cons_zero])
        refine stepL 8 rfl (by kernel_rfl) rfl (fun K hK => ?_)
        refine wp_app _ (.tmp 70) (.tmp 76) _ _ rfl 30 30 i1 z1 36 64 Try.underlying25 Try.underlying25 hi1 hz1 hi2 hi3 hi4 (by decide) _ _ _ rfl (HI.out.own.2.ext ((Ext.refl w0).alloc _)) _ 1 1 C rfl (by rw [HCL.out]) (src_new_at rfl C _ 1) hone (by have := HKL.out; unfold maxLen; omega) (by have := HKL.out; omega) ?_
        intro v7 w7 ho7 hm7
        obtain ⟨A7, c7, hv7⟩ := Own.form ho7
        subst hv7
        refine hK _ _ (fun _ b hb => hm7.grown.block b (by have h1 := HI.out.nb.lt; have h2 := HI.out.sc.lt; simp; rcases hb with rfl | hb <;> omega) (fun e => by have h9 := HI.out.far b e.symm; rcases hb with hb | hb <;> omega)) ?_
        clear hK K
        (try simp only [Act.put, List.setIfInBounds_toArray, List.set_cons_succ, List.set_cons_zero])
        refine takeN (fun _ _ _ => rfl) 9 rfl (by kernel_rfl) (by kernel_rfl) (by kernel_rfl) rfl (fun _ _ _ _ h => h) rfl (fun K hK => ?_)
        go_big_quiet_op
        first | refine hK _ ?_ | refine ⟨_, fun _ _ => rfl, hK _ ?_⟩
        clear hK K
        refine stepL 10 rfl (by kernel_rfl) rfl (fun K hK => ?_)
        have HB7 := Lib.hid ((HI.out.nb.keep ((Ext.refl w0).alloc (.cells C.toArray 30)) (by simp)).keep hm7.grown (fun e => (HI.out.far _ e.symm).2 rfl))
        have s9 : w7.cell? ⟨g11, 6, none⟩ = some v' := (HB7.out.cell 6).trans rfl
        have f9 : w7.frozen? ⟨g11, 6, none⟩ = false := HB7.out.free 6
        go_simp
        refine hK _ _ (fun h => absurd rfl h) ?_
        clear hK K
        refine doneL (by kernel_rfl) ?_ _
        have hI8 := HI.out.grow ((Ext.refl w0).alloc (.cells C.toArray 30)) hm7 (by rw [HCE.out]; exact ho7) HOKC.out hg11
        have HI8 := Lib.hid hI8
        clear hI8 s9 f9 ho7
        go_wp2
        go_roundw
        case rel => exact ⟨j + 1, _, by omega, by go_num, by rw [HKS.out]; exact HI8.out⟩
        case measure => simp [intOf]; omega
    · obtain rfl : j = List.length (α := Cd) s.cs := by omega
      have hkf : keptM s.cs (some at') (List.length (α := Cd) s.cs) = s.cs.eraseIdx at' := by show (s.cs.take (List.length (α := Cd) s.cs)).eraseIdx at' = _; rw [List.take_length]
      have k0 : wr.cell? ⟨w.heap.size + 2, 0, none⟩ = some (.int .i64 4) := (HI.out.oc.cell 0).trans HIN.out.o0
      have hmo : StOk ({ s with round := r1, cs := s.cs.eraseIdx at' } : St) := ⟨hs.chan, by show r1 < M64; rw [HR1.out]; unfold M64; have := HRD.out; omega, hs.m0, hs.m1, hs.t0, hs.t1⟩
      have hnb : Blk wr g11 27 (stc ({ s with round := r1, cs := s.cs.eraseIdx at' } : St) v') := HI.out.nb
      have hown : OwnFrom wr v' (St.cs ({ s with round := r1, cs := s.cs.eraseIdx at' } : St)) := by have h := HI.out.own; rw [hkf] at h; exact h
      have hsm := RSoundC ({ s with round := r1, cs := s.cs.eraseIdx at' } : St) v' p0 p1 wr _ hmo hp0 hp1 (ownFrom_holds hown) (ownFrom_lt hown)
      rw [← HPE.out] at hsm
      have hml : (stc ({ s with round := r1, cs := s.cs.eraseIdx at' } : St) v').length = 7 := rfl
      have hmone : ∀ u ∈ stc ({ s with round := r1, cs := s.cs.eraseIdx at' } : St) v', u.oneCell' = true := by obtain ⟨A2, c2, h⟩ := hown.2.form; rw [h]; exact stc_one _ _ _ _
      obtain ⟨MC, hMC⟩ : ∃ MC, MC = stc ({ s with round := r1, cs := s.cs.eraseIdx at' } : St) v' := ⟨_, rfl⟩
      rw [← hMC] at hnb hsm hml hmone
      obtain ⟨zm, hzm⟩ : ∃ zm, zm = soundM ({ s with round := r1, cs := s.cs.eraseIdx at' } : St) p0 p1 := ⟨_, rfl⟩
      rw [← hzm] at hsm
      have hcm2 := hnb.cells
      have hcp2 := HI.out.pc.cells
      have HMC := Lib.hid hMC
      have HZM := Lib.hid hzm
      have HML := Lib.hid hml
      have HNB := Lib.hid hnb
      have HOWN := Lib.hid hown
      clear hMC hzm hml hnb hown hmo
      go_wp2_with (first
        | (refine wpList_load_agg _ rfl 27 (.tmp 11) rfl _ rfl MC _ Try.underlying27 rfl (szSFrom HML.out) hcm2 ?_)
        | (refine wpList_load_agg _ rfl 24 (.tmp 5) rfl _ rfl PC _ Try.underlying24 rfl (n2_size HPL.out) hcp2 ?_)
        | fail)
      refine hsm.mono ?_
      rintro e w5 ⟨rfl, hx5⟩
      have hr8 : w5.heap[w.heap.size + 3]? = some (.cells Z.toArray 27 (0, 0)) := HI.out.z.keep hx5 (by simp)
      have hcm2 := (HNB.out.keep hx5 (by simp)).cells
      by_cases hz0 : zm = 0
      · subst hz0
        go_wp2_with (first
          | (refine wpList_load_agg _ rfl 27 (.tmp 11) rfl _ rfl MC _ Try.underlying27 rfl (szSFrom HML.out) hcm2 ?_)
          | (refine wpList_store_row _ rfl 27 (.tmp 8) (.tmp 198) rfl (w.heap.size + 3) rfl Z MC _ rfl hr8 (szSFrom HML.out) (by rw [HML.out, HZL.out]) hmone ?_)
          | fail)
        have hc9 := Blk.cells (t := 27) (setRow_at (cs' := MC.toArray) hr8)
        (try simp only [Exit.inBlock, Exit.then])
        refine bodyPost_ret (results_agg_tmp rfl _ _ _ _ _ rfl Try.underlying27 rfl (szSFrom HML.out) hc9) rfl ?_
        have hfin : finM ({ s with round := r1, cs := s.cs.eraseIdx at' } : St) p0 p1 = (({ s with round := r1, cs := s.cs.eraseIdx at' } : St), 0) := by unfold finM; rw [if_neg (by rw [← HZM.out]; simp)]
        refine ⟨v', ?_, ?_, grown_then (HI.out.ext.trans hx5) (setRow_only _) (.inr (by rintro b ⟨⟩; omega))⟩
        · rw [hfin, HMC.out]; rfl
        · rw [hfin]
          exact ⟨HOWN.out.1, (HOWN.out.2.ext hx5).keep (row := some (w.heap.size + 3)) (setRow_only _) (by
            cases hvb : v'.ownBlock with
            | none => exact .inl rfl
            | some b => exact .inr (by have := (HI.out.far b hvb).1; simp; omega))⟩
      · have hzb : (zm != 0) = true := by simpa using hz0
        go_wp2_with (first
          | (refine wpList_build (.inl rfl) 27 _ rfl (.agg zst.toArray) (by kernel_rfl) ?_; rw [← HZB])
          | (refine wpList_store_row _ rfl 27 (.tmp 8) (.tmp 196) rfl (w.heap.size + 3) rfl Z Z _ rfl hr8 (szSFrom HZL.out) rfl hzo ?_)
          | fail)
        have hc9 := Blk.cells (t := 27) (setRow_at (cs' := Z.toArray) hr8)
        (try simp only [Exit.inBlock, Exit.then])
        refine bodyPost_ret (results_agg_tmp rfl _ _ _ _ _ rfl Try.underlying27 rfl (szSFrom HZL.out) hc9) rfl ?_
        have hfin : finM ({ s with round := r1, cs := s.cs.eraseIdx at' } : St) p0 p1 = (.zero, zm) := by unfold finM; rw [if_pos (by rw [← HZM.out]; exact hz0), HZM.out]
        refine ⟨.slice none 0 0, ?_, ?_, grown_then (HI.out.ext.trans hx5) (setRow_only _) (.inr (by rintro b ⟨⟩; omega))⟩
        · rw [hfin, HZB.out]; rfl
        · rw [hfin]; exact ⟨by simp [St.zero], Own.nil _ _ _⟩
set_option maxRecDepth 100000 in
set_option maxHeartbeats 8000000 in
theorem RNextX (kind : Int) (w : World) (F : Fp) (s : St) (p0 p1 : Nat) (v : Value) (SC PC OC Z : List Value) (sd : Int) (r1 am cid cam oid : Nat) (cside : Int) (fd : Nat → Int) (rm : Nat → Int) (hin : RNextIn w SC PC OC Z sd s.cs s.round r1 am cid cam oid kind cside 0 fd rm sd) (hk0 : kind ≠ 0) (hk1 : kind ≠ 1) (hk2 : kind ≠ 2) (hk3 : kind ≠ 3) (hk4 : kind ≠ 4) (hk5 : kind ≠ 5) (hr1 : r1 = s.round + 1)
    (hsc : SC = stc s v) (hpc : PC = ptc p0 p1) (hs : StOk s) (hc : Conds w F v s.cs) (hF : ∀ b, F b → b < w.heap.size) (hrd' : s.round < 200) (h8 : List.length (α := Cd) s.cs ≤ 8) (hp0 : p0 < M64) (hp1 : p1 < M64) :
    Calls Try.prog 13 #[.agg SC.toArray, .agg PC.toArray, .int .i64 sd, .agg OC.toArray] w fun e w' => ∃ v', e = .returned (.tuple #[.agg (stc (((St.zero, 33) : St × Int)).1 v').toArray, .int .i64 (((St.zero, 33) : St × Int)).2]) ∧ OwnFrom w' v' (((St.zero, 33) : St × Int)).1.cs ∧ Ext w w' := by
  obtain ⟨i1, z1, hi1, hz1, hi2, hi3, hi4⟩ := partsFrom
  obtain ⟨A, c, xs, rfl, hlc, hcm, hA, hcell, hall⟩ := conds_open hc
  clear hc
  have hb0 : (kind == 0) = false := by simpa using hk0
  have hb1 : (kind == 1) = false := by simpa using hk1
  have hb2 : (kind == 2) = false := by simpa using hk2
  have hb3 : (kind == 3) = false := by simpa using hk3
  have hb4 : (kind == 4) = false := by simpa using hk4
  have hb5 : (kind == 5) = false := by simpa using hk5
  unfold maxLen at hcm
  have hs6 : SC[6]? = some (.slice A (List.length (α := Cd) s.cs) c) := by rw [hsc]; rfl
  have hs0 : SC[0]? = some (.int .u32 (s.chan : Int)) := by rw [hsc]; rfl
  have hsm : (SC.drop 2).take 2 = ptc s.m0 s.m1 := by rw [hsc]; rfl
  have hst : (SC.drop 4).take 2 = ptc s.t0 s.t1 := by rw [hsc]; rfl
  have HPE := Lib.hid hpc
  have HR1 := Lib.hid hr1
  clear hsc hpc hr1
  obtain ⟨rd, hrd⟩ : ∃ rd, rd = s.round := ⟨_, rfl⟩
  rw [← hrd] at hin hrd'
  have hz := hin.zi
  have hzo := hin.zo
  have HZB : Hid (Z = zst) := hin.zE
  have HSL := Lib.hid hin.sl
  have HPL := Lib.hid hin.pl
  have HOL := Lib.hid hin.ol
  have HZL := Lib.hid hin.zl
  have hb0 : Blk ((((w.alloc (.cells SC.toArray 27)).alloc (.cells PC.toArray 24)).alloc (.cells OC.toArray 32)).alloc (.cells Z.toArray 27)) w.heap.size 27 SC := (Blk.new _ _ _).keep ((((Ext.refl _).alloc _).alloc _).alloc _) (by simp)
  have hb1 : Blk ((((w.alloc (.cells SC.toArray 27)).alloc (.cells PC.toArray 24)).alloc (.cells OC.toArray 32)).alloc (.cells Z.toArray 27)) (w.heap.size + 1) 24 PC := (Blk.new_at (by simp) _ _).keep (((Ext.refl _).alloc _).alloc _) (by simp)
  have hb2 : Blk ((((w.alloc (.cells SC.toArray 27)).alloc (.cells PC.toArray 24)).alloc (.cells OC.toArray 32)).alloc (.cells Z.toArray 27)) (w.heap.size + 2) 32 OC := (Blk.new_at (by simp) _ _).keep ((Ext.refl _).alloc _) (by simp)
  have hb3 : Blk ((((w.alloc (.cells SC.toArray 27)).alloc (.cells PC.toArray 24)).alloc (.cells OC.toArray 32)).alloc (.cells Z.toArray 27)) (w.heap.size + 3) 27 Z := Blk.new_at (by simp) _ _
  have hx0 : Ext w ((((w.alloc (.cells SC.toArray 27)).alloc (.cells PC.toArray 24)).alloc (.cells OC.toArray 32)).alloc (.cells Z.toArray 27)) := ((((Ext.refl w).alloc _).alloc _).alloc _).alloc _
  have hcs := hb0.cells
  have hcp := hb1.cells
  have HB0 := Lib.hid hb0
  have HB1 := Lib.hid hb1
  have HB2 := Lib.hid hb2
  have HB3 := Lib.hid hb3
  have HX0 := Lib.hid hx0
  have HIN := Lib.hid hin
  clear hb0 hb1 hb2 hb3 hx0 hin
  have c1' : ∀ W, Ext ((((w.alloc (.cells SC.toArray 27)).alloc (.cells PC.toArray 24)).alloc (.cells OC.toArray 32)).alloc (.cells Z.toArray 27)) W → W.cell? ⟨w.heap.size, 1, none⟩ = some (.int .u64 (rd : Int)) := fun W h => ((HB0.out.keep h (by simp)).cell 1).trans HIN.out.s1
  have C1 := Lib.hid c1'
  have hrb : ((rd : Int) == 200) = false := by rw [beq_eq_false_iff_ne]; omega
  have htb : (sd != sd) = false := bne_self_eq_false _
  have hw1 := HIN.out.w1
  have HRD := Lib.hid hrd
  clear c1' hrd
  go_enter Try.func13, Try.ntmps13
  go_wp2_with (first
    | (refine wpList_alloc _ rfl 27 rfl _ hz ?_)
    | (refine wpList_load_agg _ rfl 27 (.tmp 4) rfl _ rfl SC _ Try.underlying27 rfl (szSFrom HSL.out) hcs ?_)
    | (refine wpList_load_agg _ rfl 24 (.tmp 5) rfl _ rfl PC _ Try.underlying24 rfl (by rw [HPL.out]; kernel_rfl) hcp ?_)
    | fail)
  refine (HIN.out.sn _ HX0.out).mono ?_
  rintro e w1 ⟨rfl, hx1⟩
  have d1 := C1.out w1 hx1
  have hbs := HB0.out.keep hx1 (by simp)
  have d0 := (hbs.cell 0).trans hs0
  have hm2 : Cells w1 ⟨w.heap.size, 2, none⟩ (ptc s.m0 s.m1) := by have h := (hbs.cells.drop 2).take 2; rw [hsm] at h; simpa [Addr.add] using h
  have ht4 : Cells w1 ⟨w.heap.size, 4, none⟩ (ptc s.t0 s.t1) := by have h := (hbs.cells.drop 4).take 2; rw [hst] at h; simpa [Addr.add] using h
  have k0 : (w1.alloc (.cells (stc { s with round := r1, cs := [] } (.slice none 0 0)).toArray 27)).cell? ⟨w.heap.size + 2, 0, none⟩ = some (.int .i64 kind) := ((HB2.out.keep (hx1.alloc _) (by simp)).cell 0).trans HIN.out.o0
  have hI : RInv w (w1.alloc (.cells (stc { s with round := r1, cs := [] } (.slice none 0 0)).toArray 27)) SC PC OC Z w1.heap.size { s with round := r1, cs := [] } (.slice none 0 0) [] := by
    have hx := hx1.alloc (.cells (stc { s with round := r1, cs := [] } (.slice none 0 0)).toArray 27)
    exact ⟨HX0.out.trans hx, HB0.out.keep hx (by simp), HB1.out.keep hx (by simp), HB2.out.keep hx (by simp), HB3.out.keep hx (by simp), Blk.new _ _ _, ⟨by simp, Own.nil _ _ _⟩, by simp [Value.ownBlock]⟩
  have hg11 : w.heap.size + 4 ≤ w1.heap.size := by have h1 := HB3.out.lt; have h2 := hx1.size; omega
  have HI := Lib.hid hI
  clear hI hbs
  go_wp2_with (first
    | (go_at_call 30; refine (HIN.out.turn _).mono ?_; rintro e _ ⟨rfl, rfl⟩)
    | (refine wpList_load_agg _ rfl 24 (.tmp 39) rfl _ rfl (ptc s.m0 s.m1) _ Try.underlying24 rfl (n2_size rfl) hm2 ?_)
    | (refine wpList_load_agg _ rfl 24 (.tmp 41) rfl _ rfl (ptc s.t0 s.t1) _ Try.underlying24 rfl (n2_size rfl) ht4 ?_)
    | (refine wpList_build (.inl rfl) 27 _ rfl (.agg (stc { s with round := r1, cs := [] } (.slice none 0 0)).toArray) (by kernel_rfl) ?_)
    | (refine wpList_alloc _ rfl 27 rfl _ hz ?_)
    | (refine wpList_store_new _ rfl 27 (.tmp 11) (.tmp 43) rfl rfl Z (stc { s with round := r1, cs := [] } (.slice none 0 0)) _ rfl (szSFrom rfl) (by rw [HZL.out]; rfl) (stc_one _ _ _ _) ?_)
    | fail
    | fail)
  generalize w1.alloc (.cells (stc { s with round := r1, cs := [] } (.slice none 0 0)).toArray 27) = w2 at *
  generalize w1.heap.size = g11 at *
  clear k0
  go_loopw [13] (fun i wr => ∃ (j : Nat) (v' : Value), j ≤ List.length (α := Cd) s.cs ∧ i = .int .i64 j ∧ RInv w wr SC PC OC Z g11 { s with round := r1, cs := [] } v' (keptM s.cs none j)) (fun i _ => List.length (α := Cd) s.cs - (intOf i).toNat)
  case atStart => exact ⟨0, .slice none 0 0, by omega, rfl, by rw [kept_zero]; exact HI.out⟩
  case round =>
    clear HI
    obtain ⟨j, v', hj, rfl, hI⟩ := hrel
    have HI := Lib.hid hI
    clear hI
    have e6 : wr.cell? ⟨w.heap.size, 6, none⟩ = some (.slice A (List.length (α := Cd) s.cs) c) := (HI.out.sc.cell 6).trans hs6
    by_cases hlt : j < List.length (α := Cd) s.cs
    · obtain ⟨ad, rfl, hf, hcells⟩ := hcell (by omega)
      have hjb : ((j : Int) != -1) = true := by rw [bne_iff_ne]; omega
      obtain ⟨hcc, hok⟩ := conds_at hall (hcells.keep (HI.out.ext.same hF _ hf)) hlt
      have hks := kept_step s.cs none j hlt (by simp)
      have hkl := kept_len s.cs none j
      have hone := condCells_one s.cs[j]
      have HCL := Lib.hid (condCells_len hok)
      generalize hck : s.cs[j] = ck at *
      generalize hCE : condCells ck = C at *
      have HCE := Lib.hid hCE
      have HKS := Lib.hid hks
      have HKL := Lib.hid hkl
      have HOKC := Lib.hid hok
      clear hks hkl hcells hCE hok hck
      go_wp2
      have hcc : Cells wr.drew (ad.add (j * 36)) C := hcc
      have hd6 : wr.drew.cell? ⟨w.heap.size, 6, none⟩ = some (.slice (some ad) (List.length (α := Cd) s.cs) c) := e6
      have HI := Lib.hid (HI.out.ext' (Ext.refl wr).drew)
      refine startL 10 (KeepB fun b => b = g11 ∨ b ≤ w.heap.size) (by kernel_rfl) ?_
      (try simp only [Act.put, List.setIfInBounds_toArray, List.set_cons_succ, List.set_cons_zero])
      generalize wr.drew = w0 at *
      have hc6 : w0.cell? ⟨g11, 6, none⟩ = some v' := (HI.out.nb.cell 6).trans rfl
      have C6 := Lib.hid hc6
      have D6 := Lib.hid hd6
      have HCC := Lib.hid hcc
      clear hc6 hd6 hcc e6
      refine takeN (fun _ _ _ => rfl) 0 rfl (by kernel_rfl) (by kernel_rfl) (by kernel_rfl) rfl (fun _ _ _ _ h => h) rfl (fun K hK => ?_)
      go_big_quiet_op
      first | refine hK _ ?_ | refine ⟨_, fun _ _ => rfl, hK _ ?_⟩
      clear hK K
      refine takeL (fun _ _ _ => rfl) (fun _ _ _ h1 h2 b hb => (h2 b hb).trans (h1 b hb)) 1 [10] rfl (by kernel_rfl) (by kernel_rfl) (by kernel_rfl) (by kernel_rfl) rfl (fun _ _ _ _ h => h) rfl (fun K hK => ?_)
      refine quiet_cell _ _ rfl _ rfl _ _ Try.underlying25 rfl (fun W' h => KeepB.cell h C6.out (by simp)) ?_
      refine hK _ ?_
      simp only [Act.put, List.setIfInBounds_toArray, List.set_cons_succ, List.set_cons_zero]
      clear hK K
      refine takeN (fun _ _ _ => rfl) 2 rfl (by kernel_rfl) (by kernel_rfl) (by kernel_rfl) rfl (fun _ _ _ _ h => h) rfl (fun K hK => ?_)
      go_big_quiet_op
      first | refine hK _ ?_ | refine ⟨_, fun _ _ => rfl, hK _ ?_⟩
      clear hK K
      refine takeL (fun _ _ _ => rfl) (fun _ _ _ h1 h2 b hb => (h2 b hb).trans (h1 b hb)) 3 [10] rfl (by kernel_rfl) (by kernel_rfl) (by kernel_rfl) (by kernel_rfl) rfl (fun _ _ _ _ h => h) rfl (fun K hK => ?_)
      refine quiet_cell _ _ rfl _ rfl _ _ Try.underlying25 rfl (fun W' h => KeepB.cell h D6.out (by simp)) ?_
      refine hK _ ?_
      simp only [Act.put, List.setIfInBounds_toArray, List.set_cons_succ, List.set_cons_zero]
      clear hK K
      refine takeN (fun _ _ _ => rfl) 4 rfl (by kernel_rfl) (by kernel_rfl) (by kernel_rfl) rfl (fun _ _ _ _ h => h) rfl (fun K hK => ?_)
      go_big_quiet_op
      first | refine hK _ ?_ | refine ⟨_, fun _ _ => rfl, hK _ ?_⟩
      clear hK K
      refine takeN (fun _ _ _ => rfl) 5 rfl (by kernel_rfl) (by kernel_rfl) (by kernel_rfl) rfl (fun _ _ _ _ h => h) rfl (fun K hK => ?_)
      go_big_quiet_op
      first | refine hK _ ?_ | refine ⟨_, fun _ _ => rfl, hK _ ?_⟩
      clear hK K
      refine takeL (fun _ _ _ => rfl) (fun _ _ _ h1 h2 b hb => (h2 b hb).trans (h1 b hb)) 6 [10] rfl (by kernel_rfl) (by kernel_rfl) (by kernel_rfl) (by kernel_rfl) rfl (fun _ _ _ _ h => h) rfl (fun K hK => ?_)
      refine quiet_agg 30 (.tmp 74) rfl _ rfl C _ Try.underlying30 rfl (szDFrom HCL.out) (fun W' h => KeepB.cells h HCC.out (.inr (by rw [add_block]; have := hF _ hf; omega))) ?_
      refine hK _ ?_
      simp only [Act.put, List.setIfInBounds_toArray, List.set_cons_succ, List.set_cons_zero]
      clear hK K
      refine stepL 7 rfl (by kernel_rfl) rfl (fun K hK => ?_)
      refine wp_one w0 25 (.tmp 75) rfl 30 C Try.underlying25 rfl (szDFrom HCL.out) zDFrom (by rw [HCL.out]; decide) (by rw [HCL.out]; decide) ?_
      refine hK _ _ (fun _ b hb => ((Ext.refl w0).alloc _).block b (by have h1 := HI.out.nb.lt; have h2 := HI.out.sc.lt; rcases hb with rfl | hb <;> omega) (by simp)) ?_
      clear hK K
      (try simp only [Act.put, List.setIfInBounds_toArray, List.set_cons_succ, List.set_cons_zero])
      refine stepL 8 rfl (by kernel_rfl) rfl (fun K hK => ?_)
      refine wp_app _ (.tmp 70) (.tmp 76) _ _ rfl 30 30 i1 z1 36 64 Try.underlying25 Try.underlying25 hi1 hz1 hi2 hi3 hi4 (by decide) _ _ _ rfl (HI.out.own.2.ext ((Ext.refl w0).alloc _)) _ 1 1 C rfl (by rw [HCL.out]) (src_new_at rfl C _ 1) hone (by have := HKL.out; unfold maxLen; omega) (by have := HKL.out; omega) ?_
      intro v7 w7 ho7 hm7
      obtain ⟨A7, c7, hv7⟩ := Own.form ho7
      subst hv7
      refine hK _ _ (fun _ b hb => hm7.grown.block b (by have h1 := HI.out.nb.lt; have h2 := HI.out.sc.lt; simp; rcases hb with rfl | hb <;> omega) (fun e => by have h9 := HI.out.far b e.symm; rcases hb with hb | hb <;> omega)) ?_
      clear hK K
      (try simp only [Act.put, List.setIfInBounds_toArray, List.set_cons_succ, List.set_cons_zero])
      refine takeN (fun _ _ _ => rfl) 9 rfl (by kernel_rfl) (by kernel_rfl) (by kernel_rfl) rfl (fun _ _ _ _ h => h) rfl (fun K hK => ?_)
      go_big_quiet_op
      first | refine hK _ ?_ | refine ⟨_, fun _ _ => rfl, hK _ ?_⟩
      clear hK K
      refine stepL 10 rfl (by kernel_rfl) rfl (fun K hK => ?_)
      have HB7 := Lib.hid ((HI.out.nb.keep ((Ext.refl w0).alloc (.cells C.toArray 30)) (by simp)).keep hm7.grown (fun e => (HI.out.far _ e.symm).2 rfl))
      have s9 : w7.cell? ⟨g11, 6, none⟩ = some v' := (HB7.out.cell 6).trans rfl
      have f9 : w7.frozen? ⟨g11, 6, none⟩ = false := HB7.out.free 6
      go_simp
      refine hK _ _ (fun h => absurd rfl h) ?_
      clear hK K
      refine doneL (by kernel_rfl) ?_ _
      have hI8 := HI.out.grow ((Ext.refl w0).alloc (.cells C.toArray 30)) hm7 (by rw [HCE.out]; exact ho7) HOKC.out hg11
      have HI8 := Lib.hid hI8
      clear hI8 s9 f9 ho7
      go_wp2
      go_roundw
      case rel => exact ⟨j + 1, _, by omega, by go_num, by rw [HKS.out]; exact HI8.out⟩
      case measure => simp [intOf]; omega
    · obtain rfl : j = List.length (α := Cd) s.cs := by omega
      have k0 : wr.cell? ⟨w.heap.size + 2, 0, none⟩ = some (.int .i64 kind) := (HI.out.oc.cell 0).trans HIN.out.o0
      have hr8 : wr.heap[w.heap.size + 3]? = some (.cells Z.toArray 27 (0, 0)) := HI.out.z
      go_wp2_with (first
        | (refine wpList_build (.inl rfl) 27 _ rfl (.agg zst.toArray) (by kernel_rfl) ?_; rw [← HZB])
        | (refine wpList_store_row _ rfl 27 (.tmp 8) (.tmp 81) rfl (w.heap.size + 3) rfl Z Z _ rfl hr8 (szSFrom HZL.out) rfl hzo ?_)
        | fail)
      have hc9 := Blk.cells (t := 27) (setRow_at (cs' := Z.toArray) hr8)
      (try simp only [Exit.inBlock, Exit.then])
      refine bodyPost_ret (results_agg_tmp rfl _ _ _ _ _ rfl Try.underlying27 rfl (szSFrom HZL.out) hc9) rfl ?_
      exact ⟨.slice none 0 0, by rw [HZB]; rfl, ⟨by simp [St.zero], Own.nil _ _ _⟩, grown_then HI.out.ext (setRow_only _) (.inr (by rintro b ⟨⟩; omega))⟩
set_option maxRecDepth 100000 in
set_option maxHeartbeats 8000000 in
theorem RNext1s0 (w : World) (F : Fp) (s : St) (p0 p1 : Nat) (v : Value) (SC PC OC Z : List Value) (sd : Int) (r1 am cid cam oid : Nat) (cside : Int) (fd : Nat → Int) (rm : Nat → Int) (hin : RNextIn w SC PC OC Z sd s.cs s.round r1 am cid cam oid 1 cside 0 fd rm sd) (hsd : sd = 0) (T : St × Int) (ham : am < M64) (hfin0 : rm am = 0 → s.m0 + am < M64 → T = finM ({ s with round := r1, m0 := s.m0 + am } : St) p0 p1) (hfin1 : rm am = 0 → ¬ s.m0 + am < M64 → T = (.zero, 11)) (hfin2 : rm am ≠ 0 → T = (.zero, rm am)) (hr1 : r1 = s.round + 1)
    (hsc : SC = stc s v) (hpc : PC = ptc p0 p1) (hs : StOk s) (hc : Conds w F v s.cs) (hF : ∀ b, F b → b < w.heap.size) (hrd' : s.round < 200) (h8 : List.length (α := Cd) s.cs ≤ 8) (hp0 : p0 < M64) (hp1 : p1 < M64) :
    Calls Try.prog 13 #[.agg SC.toArray, .agg PC.toArray, .int .i64 sd, .agg OC.toArray] w fun e w' => ∃ v', e = .returned (.tuple #[.agg (stc (T).1 v').toArray, .int .i64 (T).2]) ∧ OwnFrom w' v' (T).1.cs ∧ Ext w w' := by
  subst hsd
  obtain ⟨i1, z1, hi1, hz1, hi2, hi3, hi4⟩ := partsFrom
  obtain ⟨A, c, xs, rfl, hlc, hcm, hA, hcell, hall⟩ := conds_open hc
  clear hc
  unfold maxLen at hcm
  have hs6 : SC[6]? = some (.slice A (List.length (α := Cd) s.cs) c) := by rw [hsc]; rfl
  have hs0 : SC[0]? = some (.int .u32 (s.chan : Int)) := by rw [hsc]; rfl
  have hsm : (SC.drop 2).take 2 = ptc s.m0 s.m1 := by rw [hsc]; rfl
  have hst : (SC.drop 4).take 2 = ptc s.t0 s.t1 := by rw [hsc]; rfl
  have HPE := Lib.hid hpc
  have HR1 := Lib.hid hr1
  clear hsc hpc hr1
  obtain ⟨rd, hrd⟩ : ∃ rd, rd = s.round := ⟨_, rfl⟩
  rw [← hrd] at hin hrd'
  have hz := hin.zi
  have hzo := hin.zo
  have HZB : Hid (Z = zst) := hin.zE
  have HSL := Lib.hid hin.sl
  have HPL := Lib.hid hin.pl
  have HOL := Lib.hid hin.ol
  have HZL := Lib.hid hin.zl
  have hb0 : Blk ((((w.alloc (.cells SC.toArray 27)).alloc (.cells PC.toArray 24)).alloc (.cells OC.toArray 32)).alloc (.cells Z.toArray 27)) w.heap.size 27 SC := (Blk.new _ _ _).keep ((((Ext.refl _).alloc _).alloc _).alloc _) (by simp)
  have hb1 : Blk ((((w.alloc (.cells SC.toArray 27)).alloc (.cells PC.toArray 24)).alloc (.cells OC.toArray 32)).alloc (.cells Z.toArray 27)) (w.heap.size + 1) 24 PC := (Blk.new_at (by simp) _ _).keep (((Ext.refl _).alloc _).alloc _) (by simp)
  have hb2 : Blk ((((w.alloc (.cells SC.toArray 27)).alloc (.cells PC.toArray 24)).alloc (.cells OC.toArray 32)).alloc (.cells Z.toArray 27)) (w.heap.size + 2) 32 OC := (Blk.new_at (by simp) _ _).keep ((Ext.refl _).alloc _) (by simp)
  have hb3 : Blk ((((w.alloc (.cells SC.toArray 27)).alloc (.cells PC.toArray 24)).alloc (.cells OC.toArray 32)).alloc (.cells Z.toArray 27)) (w.heap.size + 3) 27 Z := Blk.new_at (by simp) _ _
  have hx0 : Ext w ((((w.alloc (.cells SC.toArray 27)).alloc (.cells PC.toArray 24)).alloc (.cells OC.toArray 32)).alloc (.cells Z.toArray 27)) := ((((Ext.refl w).alloc _).alloc _).alloc _).alloc _
  have hcs := hb0.cells
  have hcp := hb1.cells
  have HB0 := Lib.hid hb0
  have HB1 := Lib.hid hb1
  have HB2 := Lib.hid hb2
  have HB3 := Lib.hid hb3
  have HX0 := Lib.hid hx0
  have HIN := Lib.hid hin
  clear hb0 hb1 hb2 hb3 hx0 hin
  have c1' : ∀ W, Ext ((((w.alloc (.cells SC.toArray 27)).alloc (.cells PC.toArray 24)).alloc (.cells OC.toArray 32)).alloc (.cells Z.toArray 27)) W → W.cell? ⟨w.heap.size, 1, none⟩ = some (.int .u64 (rd : Int)) := fun W h => ((HB0.out.keep h (by simp)).cell 1).trans HIN.out.s1
  have C1 := Lib.hid c1'
  have hrb : ((rd : Int) == 200) = false := by rw [beq_eq_false_iff_ne]; omega
  have htb : (((0 : Int)) != 0) = false := bne_self_eq_false _
  have hw1 := HIN.out.w1
  have HRD := Lib.hid hrd
  clear c1' hrd
  go_enter Try.func13, Try.ntmps13
  go_wp2_with (first
    | (refine wpList_alloc _ rfl 27 rfl _ hz ?_)
    | (refine wpList_load_agg _ rfl 27 (.tmp 4) rfl _ rfl SC _ Try.underlying27 rfl (szSFrom HSL.out) hcs ?_)
    | (refine wpList_load_agg _ rfl 24 (.tmp 5) rfl _ rfl PC _ Try.underlying24 rfl (by rw [HPL.out]; kernel_rfl) hcp ?_)
    | fail)
  refine (HIN.out.sn _ HX0.out).mono ?_
  rintro e w1 ⟨rfl, hx1⟩
  have d1 := C1.out w1 hx1
  have hbs := HB0.out.keep hx1 (by simp)
  have d0 := (hbs.cell 0).trans hs0
  have hm2 : Cells w1 ⟨w.heap.size, 2, none⟩ (ptc s.m0 s.m1) := by have h := (hbs.cells.drop 2).take 2; rw [hsm] at h; simpa [Addr.add] using h
  have ht4 : Cells w1 ⟨w.heap.size, 4, none⟩ (ptc s.t0 s.t1) := by have h := (hbs.cells.drop 4).take 2; rw [hst] at h; simpa [Addr.add] using h
  have k0 : (w1.alloc (.cells (stc { s with round := r1, cs := [] } (.slice none 0 0)).toArray 27)).cell? ⟨w.heap.size + 2, 0, none⟩ = some (.int .i64 1) := ((HB2.out.keep (hx1.alloc _) (by simp)).cell 0).trans HIN.out.o0
  have hI : RInv w (w1.alloc (.cells (stc { s with round := r1, cs := [] } (.slice none 0 0)).toArray 27)) SC PC OC Z w1.heap.size { s with round := r1, cs := [] } (.slice none 0 0) [] := by
    have hx := hx1.alloc (.cells (stc { s with round := r1, cs := [] } (.slice none 0 0)).toArray 27)
    exact ⟨HX0.out.trans hx, HB0.out.keep hx (by simp), HB1.out.keep hx (by simp), HB2.out.keep hx (by simp), HB3.out.keep hx (by simp), Blk.new _ _ _, ⟨by simp, Own.nil _ _ _⟩, by simp [Value.ownBlock]⟩
  have hg11 : w.heap.size + 4 ≤ w1.heap.size := by have h1 := HB3.out.lt; have h2 := hx1.size; omega
  have HI := Lib.hid hI
  clear hI hbs
  go_wp2_with (first
    | (go_at_call 30; refine (HIN.out.turn _).mono ?_; rintro e _ ⟨rfl, rfl⟩)
    | (refine wpList_load_agg _ rfl 24 (.tmp 39) rfl _ rfl (ptc s.m0 s.m1) _ Try.underlying24 rfl (n2_size rfl) hm2 ?_)
    | (refine wpList_load_agg _ rfl 24 (.tmp 41) rfl _ rfl (ptc s.t0 s.t1) _ Try.underlying24 rfl (n2_size rfl) ht4 ?_)
    | (refine wpList_build (.inl rfl) 27 _ rfl (.agg (stc { s with round := r1, cs := [] } (.slice none 0 0)).toArray) (by kernel_rfl) ?_)
    | (refine wpList_alloc _ rfl 27 rfl _ hz ?_)
    | (refine wpList_store_new _ rfl 27 (.tmp 11) (.tmp 43) rfl rfl Z (stc { s with round := r1, cs := [] } (.slice none 0 0)) _ rfl (szSFrom rfl) (by rw [HZL.out]; rfl) (stc_one _ _ _ _) ?_)
    | fail
    | fail)
  generalize w1.alloc (.cells (stc { s with round := r1, cs := [] } (.slice none 0 0)).toArray 27) = w2 at *
  generalize w1.heap.size = g11 at *
  clear k0
  go_loopw [13] (fun i wr => ∃ (j : Nat) (v' : Value), j ≤ List.length (α := Cd) s.cs ∧ i = .int .i64 j ∧ RInv w wr SC PC OC Z g11 { s with round := r1, cs := [] } v' (keptM s.cs none j)) (fun i _ => List.length (α := Cd) s.cs - (intOf i).toNat)
  case atStart => exact ⟨0, .slice none 0 0, by omega, rfl, by rw [kept_zero]; exact HI.out⟩
  case round =>
    clear HI
    obtain ⟨j, v', hj, rfl, hI⟩ := hrel
    have HI := Lib.hid hI
    clear hI
    have e6 : wr.cell? ⟨w.heap.size, 6, none⟩ = some (.slice A (List.length (α := Cd) s.cs) c) := (HI.out.sc.cell 6).trans hs6
    by_cases hlt : j < List.length (α := Cd) s.cs
    · obtain ⟨ad, rfl, hf, hcells⟩ := hcell (by omega)
      have hjb : ((j : Int) != -1) = true := by rw [bne_iff_ne]; omega
      obtain ⟨hcc, hok⟩ := conds_at hall (hcells.keep (HI.out.ext.same hF _ hf)) hlt
      have hks := kept_step s.cs none j hlt (by simp)
      have hkl := kept_len s.cs none j
      have hone := condCells_one s.cs[j]
      have HCL := Lib.hid (condCells_len hok)
      generalize hck : s.cs[j] = ck at *
      generalize hCE : condCells ck = C at *
      have HCE := Lib.hid hCE
      have HKS := Lib.hid hks
      have HKL := Lib.hid hkl
      have HOKC := Lib.hid hok
      clear hks hkl hcells hCE hok hck
      go_wp2
      have hcc : Cells wr.drew (ad.add (j * 36)) C := hcc
      have hd6 : wr.drew.cell? ⟨w.heap.size, 6, none⟩ = some (.slice (some ad) (List.length (α := Cd) s.cs) c) := e6
      have HI := Lib.hid (HI.out.ext' (Ext.refl wr).drew)
      refine startL 10 (KeepB fun b => b = g11 ∨ b ≤ w.heap.size) (by kernel_rfl) ?_
      (try simp only [Act.put, List.setIfInBounds_toArray, List.set_cons_succ, List.set_cons_zero])
      generalize wr.drew = w0 at *
      have hc6 : w0.cell? ⟨g11, 6, none⟩ = some v' := (HI.out.nb.cell 6).trans rfl
      have C6 := Lib.hid hc6
      have D6 := Lib.hid hd6
      have HCC := Lib.hid hcc
      clear hc6 hd6 hcc e6
      refine takeN (fun _ _ _ => rfl) 0 rfl (by kernel_rfl) (by kernel_rfl) (by kernel_rfl) rfl (fun _ _ _ _ h => h) rfl (fun K hK => ?_)
      go_big_quiet_op
      first | refine hK _ ?_ | refine ⟨_, fun _ _ => rfl, hK _ ?_⟩
      clear hK K
      refine takeL (fun _ _ _ => rfl) (fun _ _ _ h1 h2 b hb => (h2 b hb).trans (h1 b hb)) 1 [10] rfl (by kernel_rfl) (by kernel_rfl) (by kernel_rfl) (by kernel_rfl) rfl (fun _ _ _ _ h => h) rfl (fun K hK => ?_)
      refine quiet_cell _ _ rfl _ rfl _ _ Try.underlying25 rfl (fun W' h => KeepB.cell h C6.out (by simp)) ?_
      refine hK _ ?_
      simp only [Act.put, List.setIfInBounds_toArray, List.set_cons_succ, List.set_cons_zero]
      clear hK K
      refine takeN (fun _ _ _ => rfl) 2 rfl (by kernel_rfl) (by kernel_rfl) (by kernel_rfl) rfl (fun _ _ _ _ h => h) rfl (fun K hK => ?_)
      go_big_quiet_op
      first | refine hK _ ?_ | refine ⟨_, fun _ _ => rfl, hK _ ?_⟩
      clear hK K
      refine takeL (fun _ _ _ => rfl) (fun _ _ _ h1 h2 b hb => (h2 b hb).trans (h1 b hb)) 3 [10] rfl (by kernel_rfl) (by kernel_rfl) (by kernel_rfl) (by kernel_rfl) rfl (fun _ _ _ _ h => h) rfl (fun K hK => ?_)
      refine quiet_cell _ _ rfl _ rfl _ _ Try.underlying25 rfl (fun W' h => KeepB.cell h D6.out (by simp)) ?_
      refine hK _ ?_
      simp only [Act.put, List.setIfInBounds_toArray, List.set_cons_succ, List.set_cons_zero]
      clear hK K
      refine takeN (fun _ _ _ => rfl) 4 rfl (by kernel_rfl) (by kernel_rfl) (by kernel_rfl) rfl (fun _ _ _ _ h => h) rfl (fun K hK => ?_)
      go_big_quiet_op
      first | refine hK _ ?_ | refine ⟨_, fun _ _ => rfl, hK _ ?_⟩
      clear hK K
      refine takeN (fun _ _ _ => rfl) 5 rfl (by kernel_rfl) (by kernel_rfl) (by kernel_rfl) rfl (fun _ _ _ _ h => h) rfl (fun K hK => ?_)
      go_big_quiet_op
      first | refine hK _ ?_ | refine ⟨_, fun _ _ => rfl, hK _ ?_⟩
      clear hK K
      refine takeL (fun _ _ _ => rfl) (fun _ _ _ h1 h2 b hb => (h2 b hb).trans (h1 b hb)) 6 [10] rfl (by kernel_rfl) (by kernel_rfl) (by kernel_rfl) (by kernel_rfl) rfl (fun _ _ _ _ h => h) rfl (fun K hK => ?_)
      refine quiet_agg 30 (.tmp 74) rfl _ rfl C _ Try.underlying30 rfl (szDFrom HCL.out) (fun W' h => KeepB.cells h HCC.out (.inr (by rw [add_block]; have := hF _ hf; omega))) ?_
      refine hK _ ?_
      simp only [Act.put, List.setIfInBounds_toArray, List.set_cons_succ, List.set_cons_zero]
      clear hK K
      refine stepL 7 rfl (by kernel_rfl) rfl (fun K hK => ?_)
      refine wp_one w0 25 (.tmp 75) rfl 30 C Try.underlying25 rfl (szDFrom HCL.out) zDFrom (by rw [HCL.out]; decide) (by rw [HCL.out]; decide) ?_
      refine hK _ _ (fun _ b hb => ((Ext.refl w0).alloc _).block b (by have h1 := HI.out.nb.lt; have h2 := HI.out.sc.lt; rcases hb with rfl | hb <;> omega) (by simp)) ?_
      clear hK K
      (try simp only [Act.put, List.setIfInBounds_toArray, List.set_cons_succ, List.set_cons_zero])
      refine stepL 8 rfl (by kernel_rfl) rfl (fun K hK => ?_)
      refine wp_app _ (.tmp 70) (.tmp 76) _ _ rfl 30 30 i1 z1 36 64 Try.underlying25 Try.underlying25 hi1 hz1 hi2 hi3 hi4 (by decide) _ _ _ rfl (HI.out.own.2.ext ((Ext.refl w0).alloc _)) _ 1 1 C rfl (by rw [HCL.out]) (src_new_at rfl C _ 1) hone (by have := HKL.out; unfold maxLen; omega) (by have := HKL.out; omega) ?_
      intro v7 w7 ho7 hm7
      obtain ⟨A7, c7, hv7⟩ := Own.form ho7
      subst hv7
      refine hK _ _ (fun _ b hb => hm7.grown.block b (by have h1 := HI.out.nb.lt; have h2 := HI.out.sc.lt; simp; rcases hb with rfl | hb <;> omega) (fun e => by have h9 := HI.out.far b e.symm; rcases hb with hb | hb <;> omega)) ?_
      clear hK K
      (try simp only [Act.put, List.setIfInBounds_toArray, List.set_cons_succ, List.set_cons_zero])
      refine takeN (fun _ _ _ => rfl) 9 rfl (by kernel_rfl) (by kernel_rfl) (by kernel_rfl) rfl (fun _ _ _ _ h => h) rfl (fun K hK => ?_)
      go_big_quiet_op
      first | refine hK _ ?_ | refine ⟨_, fun _ _ => rfl, hK _ ?_⟩
      clear hK K
      refine stepL 10 rfl (by kernel_rfl) rfl (fun K hK => ?_)
      have HB7 := Lib.hid ((HI.out.nb.keep ((Ext.refl w0).alloc (.cells C.toArray 30)) (by simp)).keep hm7.grown (fun e => (HI.out.far _ e.symm).2 rfl))
      have s9 : w7.cell? ⟨g11, 6, none⟩ = some v' := (HB7.out.cell 6).trans rfl
      have f9 : w7.frozen? ⟨g11, 6, none⟩ = false := HB7.out.free 6
      go_simp
      refine hK _ _ (fun h => absurd rfl h) ?_
      clear hK K
      refine doneL (by kernel_rfl) ?_ _
      have hI8 := HI.out.grow ((Ext.refl w0).alloc (.cells C.toArray 30)) hm7 (by rw [HCE.out]; exact ho7) HOKC.out hg11
      have HI8 := Lib.hid hI8
      clear hI8 s9 f9 ho7
      go_wp2
      go_roundw
      case rel => exact ⟨j + 1, _, by omega, by go_num, by rw [HKS.out]; exact HI8.out⟩
      case measure => simp [intOf]; omega
    · obtain rfl : j = List.length (α := Cd) s.cs := by omega
      have hkf : keptM s.cs none (List.length (α := Cd) s.cs) = s.cs := List.take_length
      have k0 : wr.cell? ⟨w.heap.size + 2, 0, none⟩ = some (.int .i64 1) := (HI.out.oc.cell 0).trans HIN.out.o0
      have k1 : wr.cell? ⟨w.heap.size + 2, 1, none⟩ = some (.int .u64 (am : Int)) := (HI.out.oc.cell 1).trans HIN.out.o1
      have hcs3 := HI.out.sc.cells
      have hcp3 := HI.out.pc.cells
      have hrm := HIN.out.room wr HI.out.ext am ham
      go_wp2_with (first
        | (refine wpList_load_agg _ rfl 27 (.tmp 4) rfl _ rfl SC _ Try.underlying27 rfl (szSFrom HSL.out) hcs3 ?_)
        | (refine wpList_load_agg _ rfl 24 (.tmp 5) rfl _ rfl PC _ Try.underlying24 rfl (n2_size HPL.out) hcp3 ?_)
        | fail)
      refine hrm.mono ?_
      rintro e w6 ⟨rfl, hx6⟩
      have HI := Lib.hid (HI.out.ext' hx6)
      clear k0 k1 hcs3 hcp3 hx6 hrm
      generalize w6 = wr at *
      have k0 : wr.cell? ⟨w.heap.size + 2, 0, none⟩ = some (.int .i64 1) := (HI.out.oc.cell 0).trans HIN.out.o0
      obtain ⟨zr, hzr⟩ : ∃ zr, zr = rm am := ⟨_, rfl⟩
      rw [← hzr]
      have HZR := Lib.hid hzr
      clear hzr
      by_cases hzz : zr = 0
      · subst hzz
        have hadd := fun W => RAdd s.m0 am W hs.m0 ham
        by_cases hov : s.m0 + am < M64
        · have ea : addM s.m0 am = (s.m0 + am, 0) := by unfold addM; rw [if_pos hov]
          have htl := hfin0 HZR.out.symm hov
          rw [ea] at hadd
          simp only [numErr] at hadd
          have HADD := Lib.hid hadd
          clear hadd ea
          go_wp2
          refine startL 13 Since (by kernel_rfl) ?_
          (try simp only [Act.put, List.setIfInBounds_toArray, List.set_cons_succ, List.set_cons_zero])
          have HI := Lib.hid (HI.out.ext' (Ext.refl _).drew)
          generalize World.drew _ = w0 at *
          have cM : w0.cell? ⟨g11, 2, none⟩ = some (.int .u64 (s.m0 : Int)) := (HI.out.nb.cell 2).trans rfl
          have cA : w0.cell? ⟨w.heap.size + 2, 1, none⟩ = some (.int .u64 (am : Int)) := (HI.out.oc.cell 1).trans HIN.out.o1
          refine takeN (fun _ => Ext.refl _) 0 rfl (by kernel_rfl) (by kernel_rfl) (by kernel_rfl) rfl (fun _ _ _ _ h => h) rfl (fun K hK => ?_)
          go_big_quiet_op
          first | refine hK _ ?_ | refine ⟨_, fun _ _ => rfl, hK _ ?_⟩
          clear hK K
          refine takeN (fun _ => Ext.refl _) 1 rfl (by kernel_rfl) (by kernel_rfl) (by kernel_rfl) rfl (fun _ _ _ _ h => h) rfl (fun K hK => ?_)
          go_big_quiet_op
          first | refine hK _ ?_ | refine ⟨_, fun _ _ => rfl, hK _ ?_⟩
          clear hK K
          refine takeN (fun _ => Ext.refl _) 2 rfl (by kernel_rfl) (by kernel_rfl) (by kernel_rfl) rfl (fun _ _ _ _ h => h) rfl (fun K hK => ?_)
          go_big_quiet_op
          first | refine hK _ ?_ | refine ⟨_, fun _ _ => rfl, hK _ ?_⟩
          clear hK K
          refine takeN (fun _ => Ext.refl _) 3 rfl (by kernel_rfl) (by kernel_rfl) (by kernel_rfl) rfl (fun _ _ _ _ h => h) rfl (fun K hK => ?_)
          go_big_quiet_op
          first | refine hK _ ?_ | refine ⟨_, fun _ _ => rfl, hK _ ?_⟩
          clear hK K
          refine takeL (fun _ => Ext.refl _) (fun _ _ _ h1 h2 => Ext.trans h1 h2) 4 [13] rfl (by kernel_rfl) (by kernel_rfl) (by kernel_rfl) (by kernel_rfl) rfl (fun _ _ _ _ h => h) rfl (fun K hK => ?_)
          refine quiet_cell _ _ rfl _ rfl _ _ Try.underlying23 rfl (fun W' h => World.grownBy.cell h cM (by simp)) ?_
          refine hK _ ?_
          simp only [Act.put, List.setIfInBounds_toArray, List.set_cons_succ, List.set_cons_zero]
          clear hK K
          refine takeN (fun _ => Ext.refl _) 5 rfl (by kernel_rfl) (by kernel_rfl) (by kernel_rfl) rfl (fun _ _ _ _ h => h) rfl (fun K hK => ?_)
          go_big_quiet_op
          first | refine hK _ ?_ | refine ⟨_, fun _ _ => rfl, hK _ ?_⟩
          clear hK K
          refine takeL (fun _ => Ext.refl _) (fun _ _ _ h1 h2 => Ext.trans h1 h2) 6 [13] rfl (by kernel_rfl) (by kernel_rfl) (by kernel_rfl) (by kernel_rfl) rfl (fun _ _ _ _ h => h) rfl (fun K hK => ?_)
          refine quiet_cell _ _ rfl _ rfl _ _ Try.underlying23 rfl (fun W' h => World.grownBy.cell h cA (by simp)) ?_
          refine hK _ ?_
          simp only [Act.put, List.setIfInBounds_toArray, List.set_cons_succ, List.set_cons_zero]
          clear hK K
          refine takeN (fun _ => Ext.refl _) 11 rfl (by kernel_rfl) (by kernel_rfl) (by kernel_rfl) rfl (fun _ _ _ _ h => h) rfl (fun K hK => ?_)
          go_big_quiet_op
          first | refine hK _ ?_ | refine ⟨_, fun _ _ => rfl, hK _ ?_⟩
          clear hK K
          refine stepL 7 rfl (by kernel_rfl) rfl (fun K hK => ?_)
          go_simp
          refine (HADD.out _).mono ?_
          rintro e w5 ⟨rfl, hx5⟩
          obtain rfl := hx5
          refine hK _ _ (fun _ => Ext.refl _) ?_
          clear hK K
          refine takeN (fun _ => Ext.refl _) 8 rfl (by kernel_rfl) (by kernel_rfl) (by kernel_rfl) rfl (fun _ _ _ _ h => h) rfl (fun K hK => ?_)
          go_big_quiet_op
          first | refine hK _ ?_ | refine ⟨_, fun _ _ => rfl, hK _ ?_⟩
          clear hK K
          refine takeN (fun _ => Ext.refl _) 9 rfl (by kernel_rfl) (by kernel_rfl) (by kernel_rfl) rfl (fun _ _ _ _ h => h) rfl (fun K hK => ?_)
          go_big_quiet_op
          first | refine hK _ ?_ | refine ⟨_, fun _ _ => rfl, hK _ ?_⟩
          clear hK K
          refine takeN (fun _ => Ext.refl _) 10 rfl (by kernel_rfl) (by kernel_rfl) (by kernel_rfl) rfl (fun _ _ _ _ h => h) rfl (fun K hK => ?_)
          go_big_quiet_op
          first | refine hK _ ?_ | refine ⟨_, fun _ _ => rfl, hK _ ?_⟩
          clear hK K
          refine takeN (fun _ => Ext.refl _) 12 rfl (by kernel_rfl) (by kernel_rfl) (by kernel_rfl) rfl (fun _ _ _ _ h => h) rfl (fun K hK => ?_)
          go_big_quiet_op
          first | refine hK _ ?_ | refine ⟨_, fun _ _ => rfl, hK _ ?_⟩
          clear hK K
          refine stepL 13 rfl (by kernel_rfl) rfl (fun K hK => ?_)
          have s9 : w0.cell? ⟨g11, 2, none⟩ = some (.int .u64 (s.m0 : Int)) := cM
          have f9 : w0.frozen? ⟨g11, 2, none⟩ = false := HI.out.nb.free 2
          go_simp
          refine hK _ _ (fun h => absurd rfl h) ?_
          clear hK K
          refine takeN (fun _ => Ext.refl _) 14 rfl (by kernel_rfl) (by kernel_rfl) (by kernel_rfl) rfl (fun _ _ _ _ h => h) rfl (fun K hK => ?_)
          go_big_quiet_op
          first | refine hK _ ?_ | refine ⟨_, fun _ _ => rfl, hK _ ?_⟩
          clear hK K
          refine doneL (by kernel_rfl) ?_ _
          have hI9 := HI.out.put (n1 := ({ s with round := r1, m0 := s.m0 + am, cs := [] } : St)) 2 (.int .u64 ((s.m0 : Int) + (am : Int) : Int)) (by simp [stc]) hg11
          generalize w0.setCell ⟨g11, 2, none⟩ (.int .u64 ((s.m0 : Int) + (am : Int) : Int)) = wr at *
          have HI := Lib.hid hI9
          clear hI9 cM cA s9 f9
          have hmo : StOk ({ s with round := r1, m0 := s.m0 + am } : St) := ⟨hs.chan, by show r1 < M64; rw [HR1.out]; unfold M64; have := HRD.out; omega, (by show s.m0 + am < M64; exact hov), hs.m1, hs.t0, hs.t1⟩
          have hnb : Blk wr g11 27 (stc ({ s with round := r1, m0 := s.m0 + am } : St) v') := HI.out.nb
          have hown : OwnFrom wr v' (St.cs ({ s with round := r1, m0 := s.m0 + am } : St)) := by have h := HI.out.own; rw [hkf] at h; exact h
          have hsm := RSoundC ({ s with round := r1, m0 := s.m0 + am } : St) v' p0 p1 wr _ hmo hp0 hp1 (ownFrom_holds hown) (ownFrom_lt hown)
          rw [← HPE.out] at hsm
          have hml : (stc ({ s with round := r1, m0 := s.m0 + am } : St) v').length = 7 := rfl
          have hmone : ∀ u ∈ stc ({ s with round := r1, m0 := s.m0 + am } : St) v', u.oneCell' = true := by obtain ⟨A2, c2, h⟩ := hown.2.form; rw [h]; exact stc_one _ _ _ _
          obtain ⟨MC, hMC⟩ : ∃ MC, MC = stc ({ s with round := r1, m0 := s.m0 + am } : St) v' := ⟨_, rfl⟩
          rw [← hMC] at hnb hsm hml hmone
          obtain ⟨zm, hzm⟩ : ∃ zm, zm = soundM ({ s with round := r1, m0 := s.m0 + am } : St) p0 p1 := ⟨_, rfl⟩
          rw [← hzm] at hsm
          have hcm2 := hnb.cells
          have hcp2 := HI.out.pc.cells
          have HMC := Lib.hid hMC
          have HZM := Lib.hid hzm
          have HML := Lib.hid hml
          have HNB := Lib.hid hnb
          have HOWN := Lib.hid hown
          clear hMC hzm hml hnb hown hmo
          go_wp2_with (first
            | (refine wpList_load_agg _ rfl 27 (.tmp 11) rfl _ rfl MC _ Try.underlying27 rfl (szSFrom HML.out) hcm2 ?_)
            | (refine wpList_load_agg _ rfl 24 (.tmp 5) rfl _ rfl PC _ Try.underlying24 rfl (n2_size HPL.out) hcp2 ?_)
            | fail)
          refine hsm.mono ?_
          rintro e w5 ⟨rfl, hx5⟩
          have hr8 : w5.heap[w.heap.size + 3]? = some (.cells Z.toArray 27 (0, 0)) := HI.out.z.keep hx5 (by simp)
          have hcm2 := (HNB.out.keep hx5 (by simp)).cells
          by_cases hz0 : zm = 0
          · subst hz0
            go_wp2_with (first
              | (refine wpList_load_agg _ rfl 27 (.tmp 11) rfl _ rfl MC _ Try.underlying27 rfl (szSFrom HML.out) hcm2 ?_)
              | (refine wpList_store_row _ rfl 27 (.tmp 8) (.tmp 198) rfl (w.heap.size + 3) rfl Z MC _ rfl hr8 (szSFrom HML.out) (by rw [HML.out, HZL.out]) hmone ?_)
              | fail)
            have hc9 := Blk.cells (t := 27) (setRow_at (cs' := MC.toArray) hr8)
            (try simp only [Exit.inBlock, Exit.then])
            refine bodyPost_ret (results_agg_tmp rfl _ _ _ _ _ rfl Try.underlying27 rfl (szSFrom HML.out) hc9) rfl ?_
            have hfin : finM ({ s with round := r1, m0 := s.m0 + am } : St) p0 p1 = (({ s with round := r1, m0 := s.m0 + am } : St), 0) := by unfold finM; rw [if_neg (by rw [← HZM.out]; simp)]
            refine ⟨v', ?_, ?_, grown_then (HI.out.ext.trans hx5) (setRow_only _) (.inr (by rintro b ⟨⟩; omega))⟩
            · rw [htl, hfin, HMC.out]; rfl
            · rw [htl, hfin]
              exact ⟨HOWN.out.1, (HOWN.out.2.ext hx5).keep (row := some (w.heap.size + 3)) (setRow_only _) (by
                cases hvb : v'.ownBlock with
                | none => exact .inl rfl
                | some b => exact .inr (by have := (HI.out.far b hvb).1; simp; omega))⟩
          · have hzb : (zm != 0) = true := by simpa using hz0
            go_wp2_with (first
              | (refine wpList_build (.inl rfl) 27 _ rfl (.agg zst.toArray) (by kernel_rfl) ?_; rw [← HZB])
              | (refine wpList_store_row _ rfl 27 (.tmp 8) (.tmp 196) rfl (w.heap.size + 3) rfl Z Z _ rfl hr8 (szSFrom HZL.out) rfl hzo ?_)
              | fail)
            have hc9 := Blk.cells (t := 27) (setRow_at (cs' := Z.toArray) hr8)
            (try simp only [Exit.inBlock, Exit.then])
            refine bodyPost_ret (results_agg_tmp rfl _ _ _ _ _ rfl Try.underlying27 rfl (szSFrom HZL.out) hc9) rfl ?_
            have hfin : finM ({ s with round := r1, m0 := s.m0 + am } : St) p0 p1 = (.zero, zm) := by unfold finM; rw [if_pos (by rw [← HZM.out]; exact hz0), HZM.out]
            refine ⟨.slice none 0 0, ?_, ?_, grown_then (HI.out.ext.trans hx5) (setRow_only _) (.inr (by rintro b ⟨⟩; omega))⟩
            · rw [htl, hfin, HZB.out]; rfl
            · rw [htl, hfin]; exact ⟨by simp [St.zero], Own.nil _ _ _⟩
        · have ea : addM s.m0 am = (0, 11) := by unfold addM; rw [if_neg hov]
          have htl := hfin1 HZR.out.symm hov
          rw [ea] at hadd
          simp only [numErr] at hadd
          have HADD := Lib.hid hadd
          clear hadd ea
          go_wp2
          refine startL 13 Since (by kernel_rfl) ?_
          (try simp only [Act.put, List.setIfInBounds_toArray, List.set_cons_succ, List.set_cons_zero])
          have HI := Lib.hid (HI.out.ext' (Ext.refl _).drew)
          generalize World.drew _ = w0 at *
          have cM : w0.cell? ⟨g11, 2, none⟩ = some (.int .u64 (s.m0 : Int)) := (HI.out.nb.cell 2).trans rfl
          have cA : w0.cell? ⟨w.heap.size + 2, 1, none⟩ = some (.int .u64 (am : Int)) := (HI.out.oc.cell 1).trans HIN.out.o1
          refine takeN (fun _ => Ext.refl _) 0 rfl (by kernel_rfl) (by kernel_rfl) (by kernel_rfl) rfl (fun _ _ _ _ h => h) rfl (fun K hK => ?_)
          go_big_quiet_op
          first | refine hK _ ?_ | refine ⟨_, fun _ _ => rfl, hK _ ?_⟩
          clear hK K
          refine takeN (fun _ => Ext.refl _) 1 rfl (by kernel_rfl) (by kernel_rfl) (by kernel_rfl) rfl (fun _ _ _ _ h => h) rfl (fun K hK => ?_)
          go_big_quiet_op
          first | refine hK _ ?_ | refine ⟨_, fun _ _ => rfl, hK _ ?_⟩
          clear hK K
          refine takeN (fun _ => Ext.refl _) 2 rfl (by kernel_rfl) (by kernel_rfl) (by kernel_rfl) rfl (fun _ _ _ _ h => h) rfl (fun K hK => ?_)
          go_big_quiet_op
          first | refine hK _ ?_ | refine ⟨_, fun _ _ => rfl, hK _ ?_⟩
          clear hK K
          refine takeN (fun _ => Ext.refl _) 3 rfl (by kernel_rfl) (by kernel_rfl) (by kernel_rfl) rfl (fun _ _ _ _ h => h) rfl (fun K hK => ?_)
          go_big_quiet_op
          first | refine hK _ ?_ | refine ⟨_, fun _ _ => rfl, hK _ ?_⟩
          clear hK K
          refine takeL (fun _ => Ext.refl _) (fun _ _ _ h1 h2 => Ext.trans h1 h2) 4 [13] rfl (by kernel_rfl) (by kernel_rfl) (by kernel_rfl) (by kernel_rfl) rfl (fun _ _ _ _ h => h) rfl (fun K hK => ?_)
          refine quiet_cell _ _ rfl _ rfl _ _ Try.underlying23 rfl (fun W' h => World.grownBy.cell h cM (by simp)) ?_
          refine hK _ ?_
          simp only [Act.put, List.setIfInBounds_toArray, List.set_cons_succ, List.set_cons_zero]
          clear hK K
          refine takeN (fun _ => Ext.refl _) 5 rfl (by kernel_rfl) (by kernel_rfl) (by kernel_rfl) rfl (fun _ _ _ _ h => h) rfl (fun K hK => ?_)
          go_big_quiet_op
          first | refine hK _ ?_ | refine ⟨_, fun _ _ => rfl, hK _ ?_⟩
          clear hK K
          refine takeL (fun _ => Ext.refl _) (fun _ _ _ h1 h2 => Ext.trans h1 h2) 6 [13] rfl (by kernel_rfl) (by kernel_rfl) (by kernel_rfl) (by kernel_rfl) rfl (fun _ _ _ _ h => h) rfl (fun K hK => ?_)
          refine quiet_cell _ _ rfl _ rfl _ _ Try.underlying23 rfl (fun W' h => World.grownBy.cell h cA (by simp)) ?_
          refine hK _ ?_
          simp only [Act.put, List.setIfInBounds_toArray, List.set_cons_succ, List.set_cons_zero]
          clear hK K
          refine takeN (fun _ => Ext.refl _) 11 rfl (by kernel_rfl) (by kernel_rfl) (by kernel_rfl) rfl (fun _ _ _ _ h => h) rfl (fun K hK => ?_)
          go_big_quiet_op
          first | refine hK _ ?_ | refine ⟨_, fun _ _ => rfl, hK _ ?_⟩
          clear hK K
          refine stepL 7 rfl (by kernel_rfl) rfl (fun K hK => ?_)
          go_simp
          refine (HADD.out _).mono ?_
          rintro e w5 ⟨rfl, hx5⟩
          obtain rfl := hx5
          refine hK _ _ (fun _ => Ext.refl _) ?_
          clear hK K
          refine takeN (fun _ => Ext.refl _) 8 rfl (by kernel_rfl) (by kernel_rfl) (by kernel_rfl) rfl (fun _ _ _ _ h => h) rfl (fun K hK => ?_)
          go_big_quiet_op
          first | refine hK _ ?_ | refine ⟨_, fun _ _ => rfl, hK _ ?_⟩
          clear hK K
          refine takeN (fun _ => Ext.refl _) 9 rfl (by kernel_rfl) (by kernel_rfl) (by kernel_rfl) rfl (fun _ _ _ _ h => h) rfl (fun K hK => ?_)
          go_big_quiet_op
          first | refine hK _ ?_ | refine ⟨_, fun _ _ => rfl, hK _ ?_⟩
          clear hK K
          refine takeN (fun _ => Ext.refl _) 10 rfl (by kernel_rfl) (by kernel_rfl) (by kernel_rfl) rfl (fun _ _ _ _ h => h) rfl (fun K hK => ?_)
          go_big_quiet_op
          first | refine hK _ ?_ | refine ⟨_, fun _ _ => rfl, hK _ ?_⟩
          clear hK K
          refine takeN (fun _ => Ext.refl _) 12 rfl (by kernel_rfl) (by kernel_rfl) (by kernel_rfl) rfl (fun _ _ _ _ h => h) rfl (fun K hK => ?_)
          go_big_quiet_op
          first | refine hK _ ?_ | refine ⟨_, fun _ _ => rfl, hK _ ?_⟩
          clear hK K
          refine stepL 13 rfl (by kernel_rfl) rfl (fun K hK => ?_)
          have s9 : w0.cell? ⟨g11, 2, none⟩ = some (.int .u64 (s.m0 : Int)) := cM
          have f9 : w0.frozen? ⟨g11, 2, none⟩ = false := HI.out.nb.free 2
          go_simp
          refine hK _ _ (fun h => absurd rfl h) ?_
          clear hK K
          refine takeN (fun _ => Ext.refl _) 14 rfl (by kernel_rfl) (by kernel_rfl) (by kernel_rfl) rfl (fun _ _ _ _ h => h) rfl (fun K hK => ?_)
          go_big_quiet_op
          first | refine hK _ ?_ | refine ⟨_, fun _ _ => rfl, hK _ ?_⟩
          clear hK K
          refine doneL (by kernel_rfl) ?_ _
          have hI9 := HI.out.put (n1 := ({ s with round := r1, m0 := 0, cs := [] } : St)) 2 (.int .u64 ((0 : Nat) : Int)) (by simp [stc]) hg11
          generalize w0.setCell ⟨g11, 2, none⟩ (.int .u64 ((0 : Nat) : Int)) = wr at *
          have HI := Lib.hid hI9
          clear hI9 cM cA s9 f9
          have hr8 : wr.heap[w.heap.size + 3]? = some (.cells Z.toArray 27 (0, 0)) := HI.out.z
          go_wp2_with (first
            | (refine wpList_build (.inl rfl) 27 _ rfl (.agg zst.toArray) (by kernel_rfl) ?_; rw [← HZB])
            | (refine wpList_store_row _ rfl 27 (.tmp 8) (.tmp 189) rfl (w.heap.size + 3) rfl Z Z _ rfl hr8 (szSFrom HZL.out) rfl hzo ?_)
            | fail)
          have hc9 := Blk.cells (t := 27) (setRow_at (cs' := Z.toArray) hr8)
          (try simp only [Exit.inBlock, Exit.then])
          refine bodyPost_ret (results_agg_tmp rfl _ _ _ _ _ rfl Try.underlying27 rfl (szSFrom HZL.out) hc9) rfl ?_
          refine ⟨.slice none 0 0, ?_, ?_, grown_then HI.out.ext (setRow_only _) (.inr (by rintro b ⟨⟩; omega))⟩
          · rw [htl, HZB]; rfl
          · rw [htl]; exact ⟨by simp [St.zero], Own.nil _ _ _⟩
      · have hzb : (zr != 0) = true := by simpa using hzz
        have htl := hfin2 (by rw [← HZR.out]; exact hzz)
        rw [← HZR.out] at htl
        have hr8 : wr.heap[w.heap.size + 3]? = some (.cells Z.toArray 27 (0, 0)) := HI.out.z
        go_wp2_with (first
          | (refine wpList_build (.inl rfl) 27 _ rfl (.agg zst.toArray) (by kernel_rfl) ?_; rw [← HZB])
          | (refine wpList_store_row _ rfl 27 (.tmp 8) (.tmp 96) rfl (w.heap.size + 3) rfl Z Z _ rfl hr8 (szSFrom HZL.out) rfl hzo ?_)
          | fail)
        have hc9 := Blk.cells (t := 27) (setRow_at (cs' := Z.toArray) hr8)
        (try simp only [Exit.inBlock, Exit.then])
        refine bodyPost_ret (results_agg_tmp rfl _ _ _ _ _ rfl Try.underlying27 rfl (szSFrom HZL.out) hc9) rfl ?_
        refine ⟨.slice none 0 0, ?_, ?_, grown_then HI.out.ext (setRow_only _) (.inr (by rintro b ⟨⟩; omega))⟩
        · rw [htl, HZB]; rfl
        · rw [htl]; exact ⟨by simp [St.zero], Own.nil _ _ _⟩
set_option maxRecDepth 100000 in
set_option maxHeartbeats 8000000 in
theorem RNext1s1 (w : World) (F : Fp) (s : St) (p0 p1 : Nat) (v : Value) (SC PC OC Z : List Value) (sd : Int) (r1 am cid cam oid : Nat) (cside : Int) (fd : Nat → Int) (rm : Nat → Int) (hin : RNextIn w SC PC OC Z sd s.cs s.round r1 am cid cam oid 1 cside 0 fd rm sd) (hsd : sd = 1) (T : St × Int) (ham : am < M64) (hfin0 : rm am = 0 → s.m1 + am < M64 → T = finM ({ s with round := r1, m1 := s.m1 + am } : St) p0 p1) (hfin1 : rm am = 0 → ¬ s.m1 + am < M64 → T = (.zero, 11)) (hfin2 : rm am ≠ 0 → T = (.zero, rm am)) (hr1 : r1 = s.round + 1)
    (hsc : SC = stc s v) (hpc : PC = ptc p0 p1) (hs : StOk s) (hc : Conds w F v s.cs) (hF : ∀ b, F b → b < w.heap.size) (hrd' : s.round < 200) (h8 : List.length (α := Cd) s.cs ≤ 8) (hp0 : p0 < M64) (hp1 : p1 < M64) :
    Calls Try.prog 13 #[.agg SC.toArray, .agg PC.toArray, .int .i64 sd, .agg OC.toArray] w fun e w' => ∃ v', e = .returned (.tuple #[.agg (stc (T).1 v').toArray, .int .i64 (T).2]) ∧ OwnFrom w' v' (T).1.cs ∧ Ext w w' := by
  subst hsd
  obtain ⟨i1, z1, hi1, hz1, hi2, hi3, hi4⟩ := partsFrom
  obtain ⟨A, c, xs, rfl, hlc, hcm, hA, hcell, hall⟩ := conds_open hc
  clear hc
  unfold maxLen at hcm
  have hs6 : SC[6]? = some (.slice A (List.length (α := Cd) s.cs) c) := by rw [hsc]; rfl
  have hs0 : SC[0]? = some (.int .u32 (s.chan : Int)) := by rw [hsc]; rfl
  have hsm : (SC.drop 2).take 2 = ptc s.m0 s.m1 := by rw [hsc]; rfl
  have hst : (SC.drop 4).take 2 = ptc s.t0 s.t1 := by rw [hsc]; rfl
  have HPE := Lib.hid hpc
  have HR1 := Lib.hid hr1
  clear hsc hpc hr1
  obtain ⟨rd, hrd⟩ : ∃ rd, rd = s.round := ⟨_, rfl⟩
  rw [← hrd] at hin hrd'
  have hz := hin.zi
  have hzo := hin.zo
  have HZB : Hid (Z = zst) := hin.zE
  have HSL := Lib.hid hin.sl
  have HPL := Lib.hid hin.pl
  have HOL := Lib.hid hin.ol
  have HZL := Lib.hid hin.zl
  have hb0 : Blk ((((w.alloc (.cells SC.toArray 27)).alloc (.cells PC.toArray 24)).alloc (.cells OC.toArray 32)).alloc (.cells Z.toArray 27)) w.heap.size 27 SC := (Blk.new _ _ _).keep ((((Ext.refl _).alloc _).alloc _).alloc _) (by simp)
  have hb1 : Blk ((((w.alloc (.cells SC.toArray 27)).alloc (.cells PC.toArray 24)).alloc (.cells OC.toArray 32)).alloc (.cells Z.toArray 27)) (w.heap.size + 1) 24 PC := (Blk.new_at (by simp) _ _).keep (((Ext.refl _).alloc _).alloc _) (by simp)
  have hb2 : Blk ((((w.alloc (.cells SC.toArray 27)).alloc (.cells PC.toArray 24)).alloc (.cells OC.toArray 32)).alloc (.cells Z.toArray 27)) (w.heap.size + 2) 32 OC := (Blk.new_at (by simp) _ _).keep ((Ext.refl _).alloc _) (by simp)
  have hb3 : Blk ((((w.alloc (.cells SC.toArray 27)).alloc (.cells PC.toArray 24)).alloc (.cells OC.toArray 32)).alloc (.cells Z.toArray 27)) (w.heap.size + 3) 27 Z := Blk.new_at (by simp) _ _
  have hx0 : Ext w ((((w.alloc (.cells SC.toArray 27)).alloc (.cells PC.toArray 24)).alloc (.cells OC.toArray 32)).alloc (.cells Z.toArray 27)) := ((((Ext.refl w).alloc _).alloc _).alloc _).alloc _
  have hcs := hb0.cells
  have hcp := hb1.cells
  have HB0 := Lib.hid hb0
  have HB1 := Lib.hid hb1
  have HB2 := Lib.hid hb2
  have HB3 := Lib.hid hb3
  have HX0 := Lib.hid hx0
  have HIN := Lib.hid hin
  clear hb0 hb1 hb2 hb3 hx0 hin
  have c1' : ∀ W, Ext ((((w.alloc (.cells SC.toArray 27)).alloc (.cells PC.toArray 24)).alloc (.cells OC.toArray 32)).alloc (.cells Z.toArray 27)) W → W.cell? ⟨w.heap.size, 1, none⟩ = some (.int .u64 (rd : Int)) := fun W h => ((HB0.out.keep h (by simp)).cell 1).trans HIN.out.s1
  have C1 := Lib.hid c1'
  have hrb : ((rd : Int) == 200) = false := by rw [beq_eq_false_iff_ne]; omega
  have htb : (((1 : Int)) != 1) = false := bne_self_eq_false _
  have hw1 := HIN.out.w1
  have HRD := Lib.hid hrd
  clear c1' hrd
  go_enter Try.func13, Try.ntmps13
  go_wp2_with (first
    | (refine wpList_alloc _ rfl 27 rfl _ hz ?_)
    | (refine wpList_load_agg _ rfl 27 (.tmp 4) rfl _ rfl SC _ Try.underlying27 rfl (szSFrom HSL.out) hcs ?_)
    | (refine wpList_load_agg _ rfl 24 (.tmp 5) rfl _ rfl PC _ Try.underlying24 rfl (by rw [HPL.out]; kernel_rfl) hcp ?_)
    | fail)
  refine (HIN.out.sn _ HX0.out).mono ?_
  rintro e w1 ⟨rfl, hx1⟩
  have d1 := C1.out w1 hx1
  have hbs := HB0.out.keep hx1 (by simp)
  have d0 := (hbs.cell 0).trans hs0
  have hm2 : Cells w1 ⟨w.heap.size, 2, none⟩ (ptc s.m0 s.m1) := by have h := (hbs.cells.drop 2).take 2; rw [hsm] at h; simpa [Addr.add] using h
  have ht4 : Cells w1 ⟨w.heap.size, 4, none⟩ (ptc s.t0 s.t1) := by have h := (hbs.cells.drop 4).take 2; rw [hst] at h; simpa [Addr.add] using h
  have k0 : (w1.alloc (.cells (stc { s with round := r1, cs := [] } (.slice none 0 0)).toArray 27)).cell? ⟨w.heap.size + 2, 0, none⟩ = some (.int .i64 1) := ((HB2.out.keep (hx1.alloc _) (by simp)).cell 0).trans HIN.out.o0
  have hI : RInv w (w1.alloc (.cells (stc { s with round := r1, cs := [] } (.slice none 0 0)).toArray 27)) SC PC OC Z w1.heap.size { s with round := r1, cs := [] } (.slice none 0 0) [] := by
    have hx := hx1.alloc (.cells (stc { s with round := r1, cs := [] } (.slice none 0 0)).toArray 27)
    exact ⟨HX0.out.trans hx, HB0.out.keep hx (by simp), HB1.out.keep hx (by simp), HB2.out.keep hx (by simp), HB3.out.keep hx (by simp), Blk.new _ _ _, ⟨by simp, Own.nil _ _ _⟩, by simp [Value.ownBlock]⟩
  have hg11 : w.heap.size + 4 ≤ w1.heap.size := by have h1 := HB3.out.lt; have h2 := hx1.size; omega
  have HI := Lib.hid hI
  clear hI hbs
  go_wp2_with (first
    | (go_at_call 30; refine (HIN.out.turn _).mono ?_; rintro e _ ⟨rfl, rfl⟩)
    | (refine wpList_load_agg _ rfl 24 (.tmp 39) rfl _ rfl (ptc s.m0 s.m1) _ Try.underlying24 rfl (n2_size rfl) hm2 ?_)
    | (refine wpList_load_agg _ rfl 24 (.tmp 41) rfl _ rfl (ptc s.t0 s.t1) _ Try.underlying24 rfl (n2_size rfl) ht4 ?_)
    | (refine wpList_build (.inl rfl) 27 _ rfl (.agg (stc { s with round := r1, cs := [] } (.slice none 0 0)).toArray) (by kernel_rfl) ?_)
    | (refine wpList_alloc _ rfl 27 rfl _ hz ?_)
    | (refine wpList_store_new _ rfl 27 (.tmp 11) (.tmp 43) rfl rfl Z (stc { s with round := r1, cs := [] } (.slice none 0 0)) _ rfl (szSFrom rfl) (by rw [HZL.out]; rfl) (stc_one _ _ _ _) ?_)
    | fail
    | fail)
  generalize w1.alloc (.cells (stc { s with round := r1, cs := [] } (.slice none 0 0)).toArray 27) = w2 at *
  generalize w1.heap.size = g11 at *
  clear k0
  go_loopw [13] (fun i wr => ∃ (j : Nat) (v' : Value), j ≤ List.length (α := Cd) s.cs ∧ i = .int .i64 j ∧ RInv w wr SC PC OC Z g11 { s with round := r1, cs := [] } v' (keptM s.cs none j)) (fun i _ => List.length (α := Cd) s.cs - (intOf i).toNat)
  case atStart => exact ⟨0, .slice none 0 0, by omega, rfl, by rw [kept_zero]; exact HI.out⟩
  case round =>
    clear HI
    obtain ⟨j, v', hj, rfl, hI⟩ := hrel
    have HI := Lib.hid hI
    clear hI
    have e6 : wr.cell? ⟨w.heap.size, 6, none⟩ = some (.slice A (List.length (α := Cd) s.cs) c) := (HI.out.sc.cell 6).trans hs6
    by_cases hlt : j < List.length (α := Cd) s.cs
    · obtain ⟨ad, rfl, hf, hcells⟩ := hcell (by omega)
      have hjb : ((j : Int) != -1) = true := by rw [bne_iff_ne]; omega
      obtain ⟨hcc, hok⟩ := conds_at hall (hcells.keep (HI.out.ext.same hF _ hf)) hlt
      have hks := kept_step s.cs none j hlt (by simp)
      have hkl := kept_len s.cs none j
      have hone := condCells_one s.cs[j]
      have HCL := Lib.hid (condCells_len hok)
      generalize hck : s.cs[j] = ck at *
      generalize hCE : condCells ck = C at *
      have HCE := Lib.hid hCE
      have HKS := Lib.hid hks
      have HKL := Lib.hid hkl
      have HOKC := Lib.hid hok
      clear hks hkl hcells hCE hok hck
      go_wp2
      have hcc : Cells wr.drew (ad.add (j * 36)) C := hcc
      have hd6 : wr.drew.cell? ⟨w.heap.size, 6, none⟩ = some (.slice (some ad) (List.length (α := Cd) s.cs) c) := e6
      have HI := Lib.hid (HI.out.ext' (Ext.refl wr).drew)
      refine startL 10 (KeepB fun b => b = g11 ∨ b ≤ w.heap.size) (by kernel_rfl) ?_
      (try simp only [Act.put, List.setIfInBounds_toArray, List.set_cons_succ, List.set_cons_zero])
      generalize wr.drew = w0 at *
      have hc6 : w0.cell? ⟨g11, 6, none⟩ = some v' := (HI.out.nb.cell 6).trans rfl
      have C6 := Lib.hid hc6
      have D6 := Lib.hid hd6
      have HCC := Lib.hid hcc
      clear hc6 hd6 hcc e6
      refine takeN (fun _ _ _ => rfl) 0 rfl (by kernel_rfl) (by kernel_rfl) (by kernel_rfl) rfl (fun _ _ _ _ h => h) rfl (fun K hK => ?_)
      go_big_quiet_op
      first | refine hK _ ?_ | refine ⟨_, fun _ _ => rfl, hK _ ?_⟩
      clear hK K
      refine takeL (fun _ _ _ => rfl) (fun _ _ _ h1 h2 b hb => (h2 b hb).trans (h1 b hb)) 1 [10] rfl (by kernel_rfl) (by kernel_rfl) (by kernel_rfl) (by kernel_rfl) rfl (fun _ _ _ _ h => h) rfl (fun K hK => ?_)
      refine quiet_cell _ _ rfl _ rfl _ _ Try.underlying25 rfl (fun W' h => KeepB.cell h C6.out (by simp)) ?_
      refine hK _ ?_
      simp only [Act.put, List.setIfInBounds_toArray, List.set_cons_succ, List.set_cons_zero]
      clear hK K
      refine takeN (fun _ _ _ => rfl) 2 rfl (by kernel_rfl) (by kernel_rfl) (by kernel_rfl) rfl (fun _ _ _ _ h => h) rfl (fun K hK => ?_)
      go_big_quiet_op
      first | refine hK _ ?_ | refine ⟨_, fun _ _ => rfl, hK _ ?_⟩
      clear hK K
      refine takeL (fun _ _ _ => rfl) (fun _ _ _ h1 h2 b hb => (h2 b hb).trans (h1 b hb)) 3 [10] rfl (by kernel_rfl) (by kernel_rfl) (by kernel_rfl) (by kernel_rfl) rfl (fun _ _ _ _ h => h) rfl (fun K hK => ?_)
      refine quiet_cell _ _ rfl _ rfl _ _ Try.underlying25 rfl (fun W' h => KeepB.cell h D6.out (by simp)) ?_
      refine hK _ ?_
      simp only [Act.put, List.setIfInBounds_toArray, List.set_cons_succ, List.set_cons_zero]
      clear hK K
      refine takeN (fun _ _ _ => rfl) 4 rfl (by kernel_rfl) (by kernel_rfl) (by kernel_rfl) rfl (fun _ _ _ _ h => h) rfl (fun K hK => ?_)
      go_big_quiet_op
      first | refine hK _ ?_ | refine ⟨_, fun _ _ => rfl, hK _ ?_⟩
      clear hK K
      refine takeN (fun _ _ _ => rfl) 5 rfl (by kernel_rfl) (by kernel_rfl) (by kernel_rfl) rfl (fun _ _ _ _ h => h) rfl (fun K hK => ?_)
      go_big_quiet_op
      first | refine hK _ ?_ | refine ⟨_, fun _ _ => rfl, hK _ ?_⟩
      clear hK K
      refine takeL (fun _ _ _ => rfl) (fun _ _ _ h1 h2 b hb => (h2 b hb).trans (h1 b hb)) 6 [10] rfl (by kernel_rfl) (by kernel_rfl) (by kernel_rfl) (by kernel_rfl) rfl (fun _ _ _ _ h => h) rfl (fun K hK => ?_)
      refine quiet_agg 30 (.tmp 74) rfl _ rfl C _ Try.underlying30 rfl (szDFrom HCL.out) (fun W' h => KeepB.cells h HCC.out (.inr (by rw [add_block]; have := hF _ hf; omega))) ?_
      refine hK _ ?_
      simp only [Act.put, List.setIfInBounds_toArray, List.set_cons_succ, List.set_cons_zero]
      clear hK K
      refine stepL 7 rfl (by kernel_rfl) rfl (fun K hK => ?_)
      refine wp_one w0 25 (.tmp 75) rfl 30 C Try.underlying25 rfl (szDFrom HCL.out) zDFrom (by rw [HCL.out]; decide) (by rw [HCL.out]; decide) ?_
      refine hK _ _ (fun _ b hb => ((Ext.refl w0).alloc _).block b (by have h1 := HI.out.nb.lt; have h2 := HI.out.sc.lt; rcases hb with rfl | hb <;> omega) (by simp)) ?_
      clear hK K
      (try simp only [Act.put, List.setIfInBounds_toArray, List.set_cons_succ, List.set_cons_zero])
      refine stepL 8 rfl (by kernel_rfl) rfl (fun K hK => ?_)
      refine wp_app _ (.tmp 70) (.tmp 76) _ _ rfl 30 30 i1 z1 36 64 Try.underlying25 Try.underlying25 hi1 hz1 hi2 hi3 hi4 (by decide) _ _ _ rfl (HI.out.own.2.ext ((Ext.refl w0).alloc _)) _ 1 1 C rfl (by rw [HCL.out]) (src_new_at rfl C _ 1) hone (by have := HKL.out; unfold maxLen; omega) (by have := HKL.out; omega) ?_
      intro v7 w7 ho7 hm7
      obtain ⟨A7, c7, hv7⟩ := Own.form ho7
      subst hv7
      refine hK _ _ (fun _ b hb => hm7.grown.block b (by have h1 := HI.out.nb.lt; have h2 := HI.out.sc.lt; simp; rcases hb with rfl | hb <;> omega) (fun e => by have h9 := HI.out.far b e.symm; rcases hb with hb | hb <;> omega)) ?_
      clear hK K
      (try simp only [Act.put, List.setIfInBounds_toArray, List.set_cons_succ, List.set_cons_zero])
      refine takeN (fun _ _ _ => rfl) 9 rfl (by kernel_rfl) (by kernel_rfl) (by kernel_rfl) rfl (fun _ _ _ _ h => h) rfl (fun K hK => ?_)
      go_big_quiet_op
      first | refine hK _ ?_ | refine ⟨_, fun _ _ => rfl, hK _ ?_⟩
      clear hK K
      refine stepL 10 rfl (by kernel_rfl) rfl (fun K hK => ?_)
      have HB7 := Lib.hid ((HI.out.nb.keep ((Ext.refl w0).alloc (.cells C.toArray 30)) (by simp)).keep hm7.grown (fun e => (HI.out.far _ e.symm).2 rfl))
      have s9 : w7.cell? ⟨g11, 6, none⟩ = some v' := (HB7.out.cell 6).trans rfl
      have f9 : w7.frozen? ⟨g11, 6, none⟩ = false := HB7.out.free 6
      go_simp
      refine hK _ _ (fun h => absurd rfl h) ?_
      clear hK K
      refine doneL (by kernel_rfl) ?_ _
      have hI8 := HI.out.grow ((Ext.refl w0).alloc (.cells C.toArray 30)) hm7 (by rw [HCE.out]; exact ho7) HOKC.out hg11
      have HI8 := Lib.hid hI8
      clear hI8 s9 f9 ho7
      go_wp2
      go_roundw
      case rel => exact ⟨j + 1, _, by omega, by go_num, by rw [HKS.out]; exact HI8.out⟩
      case measure => simp [intOf]; omega
    · obtain rfl : j = List.length (α := Cd) s.cs := by omega
      have hkf : keptM s.cs none (List.length (α := Cd) s.cs) = s.cs := List.take_length
      have k0 : wr.cell? ⟨w.heap.size + 2, 0, none⟩ = some (.int .i64 1) := (HI.out.oc.cell 0).trans HIN.out.o0
      have k1 : wr.cell? ⟨w.heap.size + 2, 1, none⟩ = some (.int .u64 (am : Int)) := (HI.out.oc.cell 1).trans HIN.out.o1
      have hcs3 := HI.out.sc.cells
      have hcp3 := HI.out.pc.cells
      have hrm := HIN.out.room wr HI.out.ext am ham
      go_wp2_with (first
        | (refine wpList_load_agg _ rfl 27 (.tmp 4) rfl _ rfl SC _ Try.underlying27 rfl (szSFrom HSL.out) hcs3 ?_)
        | (refine wpList_load_agg _ rfl 24 (.tmp 5) rfl _ rfl PC _ Try.underlying24 rfl (n2_size HPL.out) hcp3 ?_)
        | fail)
      refine hrm.mono ?_
      rintro e w6 ⟨rfl, hx6⟩
      have HI := Lib.hid (HI.out.ext' hx6)
      clear k0 k1 hcs3 hcp3 hx6 hrm
      generalize w6 = wr at *
      have k0 : wr.cell? ⟨w.heap.size + 2, 0, none⟩ = some (.int .i64 1) := (HI.out.oc.cell 0).trans HIN.out.o0
      obtain ⟨zr, hzr⟩ : ∃ zr, zr = rm am := ⟨_, rfl⟩
      rw [← hzr]
      have HZR := Lib.hid hzr
      clear hzr
      by_cases hzz : zr = 0
      · subst hzz
        have hadd := fun W => RAdd s.m1 am W hs.m1 ham
        by_cases hov : s.m1 + am < M64
        · have ea : addM s.m1 am = (s.m1 + am, 0) := by unfold addM; rw [if_pos hov]
          have htl := hfin0 HZR.out.symm hov
          rw [ea] at hadd
          simp only [numErr] at hadd
          have HADD := Lib.hid hadd
          clear hadd ea
          go_wp2
          refine startL 13 Since (by kernel_rfl) ?_
          (try simp only [Act.put, List.setIfInBounds_toArray, List.set_cons_succ, List.set_cons_zero])
          have HI := Lib.hid (HI.out.ext' (Ext.refl _).drew)
          generalize World.drew _ = w0 at *
          have cM : w0.cell? ⟨g11, 3, none⟩ = some (.int .u64 (s.m1 : Int)) := (HI.out.nb.cell 3).trans rfl
          have cA : w0.cell? ⟨w.heap.size + 2, 1, none⟩ = some (.int .u64 (am : Int)) := (HI.out.oc.cell 1).trans HIN.out.o1
          refine takeN (fun _ => Ext.refl _) 0 rfl (by kernel_rfl) (by kernel_rfl) (by kernel_rfl) rfl (fun _ _ _ _ h => h) rfl (fun K hK => ?_)
          go_big_quiet_op
          first | refine hK _ ?_ | refine ⟨_, fun _ _ => rfl, hK _ ?_⟩
          clear hK K
          refine takeN (fun _ => Ext.refl _) 1 rfl (by kernel_rfl) (by kernel_rfl) (by kernel_rfl) rfl (fun _ _ _ _ h => h) rfl (fun K hK => ?_)
          go_big_quiet_op
          first | refine hK _ ?_ | refine ⟨_, fun _ _ => rfl, hK _ ?_⟩
          clear hK K
          refine takeN (fun _ => Ext.refl _) 2 rfl (by kernel_rfl) (by kernel_rfl) (by kernel_rfl) rfl (fun _ _ _ _ h => h) rfl (fun K hK => ?_)
          go_big_quiet_op
          first | refine hK _ ?_ | refine ⟨_, fun _ _ => rfl, hK _ ?_⟩
          clear hK K
          refine takeN (fun _ => Ext.refl _) 3 rfl (by kernel_rfl) (by kernel_rfl) (by kernel_rfl) rfl (fun _ _ _ _ h => h) rfl (fun K hK => ?_)
          go_big_quiet_op
          first | refine hK _ ?_ | refine ⟨_, fun _ _ => rfl, hK _ ?_⟩
          clear hK K
          refine takeL (fun _ => Ext.refl _) (fun _ _ _ h1 h2 => Ext.trans h1 h2) 4 [13] rfl (by kernel_rfl) (by kernel_rfl) (by kernel_rfl) (by kernel_rfl) rfl (fun _ _ _ _ h => h) rfl (fun K hK => ?_)
          refine quiet_cell _ _ rfl _ rfl _ _ Try.underlying23 rfl (fun W' h => World.grownBy.cell h cM (by simp)) ?_
          refine hK _ ?_
          simp only [Act.put, List.setIfInBounds_toArray, List.set_cons_succ, List.set_cons_zero]
          clear hK K
          refine takeN (fun _ => Ext.refl _) 5 rfl (by kernel_rfl) (by kernel_rfl) (by kernel_rfl) rfl (fun _ _ _ _ h => h) rfl (fun K hK => ?_)
          go_big_quiet_op
          first | refine hK _ ?_ | refine ⟨_, fun _ _ => rfl, hK _ ?_⟩
          clear hK K
          refine takeL (fun _ => Ext.refl _) (fun _ _ _ h1 h2 => Ext.trans h1 h2) 6 [13] rfl (by kernel_rfl) (by kernel_rfl) (by kernel_rfl) (by kernel_rfl) rfl (fun _ _ _ _ h => h) rfl (fun K hK => ?_)
          refine quiet_cell _ _ rfl _ rfl _ _ Try.underlying23 rfl (fun W' h => World.grownBy.cell h cA (by simp)) ?_
          refine hK _ ?_
          simp only [Act.put, List.setIfInBounds_toArray, List.set_cons_succ, List.set_cons_zero]
          clear hK K
          refine takeN (fun _ => Ext.refl _) 11 rfl (by kernel_rfl) (by kernel_rfl) (by kernel_rfl) rfl (fun _ _ _ _ h => h) rfl (fun K hK => ?_)
          go_big_quiet_op
          first | refine hK _ ?_ | refine ⟨_, fun _ _ => rfl, hK _ ?_⟩
          clear hK K
          refine stepL 7 rfl (by kernel_rfl) rfl (fun K hK => ?_)
          go_simp
          refine (HADD.out _).mono ?_
          rintro e w5 ⟨rfl, hx5⟩
          obtain rfl := hx5
          refine hK _ _ (fun _ => Ext.refl _) ?_
          clear hK K
          refine takeN (fun _ => Ext.refl _) 8 rfl (by kernel_rfl) (by kernel_rfl) (by kernel_rfl) rfl (fun _ _ _ _ h => h) rfl (fun K hK => ?_)
          go_big_quiet_op
          first | refine hK _ ?_ | refine ⟨_, fun _ _ => rfl, hK _ ?_⟩
          clear hK K
          refine takeN (fun _ => Ext.refl _) 9 rfl (by kernel_rfl) (by kernel_rfl) (by kernel_rfl) rfl (fun _ _ _ _ h => h) rfl (fun K hK => ?_)
          go_big_quiet_op
          first | refine hK _ ?_ | refine ⟨_, fun _ _ => rfl, hK _ ?_⟩
          clear hK K
          refine takeN (fun _ => Ext.refl _) 10 rfl (by kernel_rfl) (by kernel_rfl) (by kernel_rfl) rfl (fun _ _ _ _ h => h) rfl (fun K hK => ?_)
          go_big_quiet_op
          first | refine hK _ ?_ | refine ⟨_, fun _ _ => rfl, hK _ ?_⟩
          clear hK K
          refine takeN (fun _ => Ext.refl _) 12 rfl (by kernel_rfl) (by kernel_rfl) (by kernel_rfl) rfl (fun _ _ _ _ h => h) rfl (fun K hK => ?_)
          go_big_quiet_op
          first | refine hK _ ?_ | refine ⟨_, fun _ _ => rfl, hK _ ?_⟩
          clear hK K
          refine stepL 13 rfl (by kernel_rfl) rfl (fun K hK => ?_)
          have s9 : w0.cell? ⟨g11, 3, none⟩ = some (.int .u64 (s.m1 : Int)) := cM
          have f9 : w0.frozen? ⟨g11, 3, none⟩ = false := HI.out.nb.free 3
          go_simp
          refine hK _ _ (fun h => absurd rfl h) ?_
          clear hK K
          refine takeN (fun _ => Ext.refl _) 14 rfl (by kernel_rfl) (by kernel_rfl) (by kernel_rfl) rfl (fun _ _ _ _ h => h) rfl (fun K hK => ?_)
          go_big_quiet_op
          first | refine hK _ ?_ | refine ⟨_, fun _ _ => rfl, hK _ ?_⟩
          clear hK K
          refine doneL (by kernel_rfl) ?_ _
          have hI9 := HI.out.put (n1 := ({ s with round := r1, m1 := s.m1 + am, cs := [] } : St)) 3 (.int .u64 ((s.m1 : Int) + (am : Int) : Int)) (by simp [stc]) hg11
          generalize w0.setCell ⟨g11, 3, none⟩ (.int .u64 ((s.m1 : Int) + (am : Int) : Int)) = wr at *
          have HI := Lib.hid hI9
          clear hI9 cM cA s9 f9
          have hmo : StOk ({ s with round := r1, m1 := s.m1 + am } : St) := ⟨hs.chan, by show r1 < M64; rw [HR1.out]; unfold M64; have := HRD.out; omega, hs.m0, (by show s.m1 + am < M64; exact hov), hs.t0, hs.t1⟩
          have hnb : Blk wr g11 27 (stc ({ s with round := r1, m1 := s.m1 + am } : St) v') := HI.out.nb
          have hown : OwnFrom wr v' (St.cs ({ s with round := r1, m1 := s.m1 + am } : St)) := by have h := HI.out.own; rw [hkf] at h; exact h
          have hsm := RSoundC ({ s with round := r1, m1 := s.m1 + am } : St) v' p0 p1 wr _ hmo hp0 hp1 (ownFrom_holds hown) (ownFrom_lt hown)
          rw [← HPE.out] at hsm
          have hml : (stc ({ s with round := r1, m1 := s.m1 + am } : St) v').length = 7 := rfl
          have hmone : ∀ u ∈ stc ({ s with round := r1, m1 := s.m1 + am } : St) v', u.oneCell' = true := by obtain ⟨A2, c2, h⟩ := hown.2.form; rw [h]; exact stc_one _ _ _ _
          obtain ⟨MC, hMC⟩ : ∃ MC, MC = stc ({ s with round := r1, m1 := s.m1 + am } : St) v' := ⟨_, rfl⟩
          rw [← hMC] at hnb hsm hml hmone
          obtain ⟨zm, hzm⟩ : ∃ zm, zm = soundM ({ s with round := r1, m1 := s.m1 + am } : St) p0 p1 := ⟨_, rfl⟩
          rw [← hzm] at hsm
          have hcm2 := hnb.cells
          have hcp2 := HI.out.pc.cells
          have HMC := Lib.hid hMC
          have HZM := Lib.hid hzm
          have HML := Lib.hid hml
          have HNB := Lib.hid hnb
          have HOWN := Lib.hid hown
          clear hMC hzm hml hnb hown hmo
          go_wp2_with (first
            | (refine wpList_load_agg _ rfl 27 (.tmp 11) rfl _ rfl MC _ Try.underlying27 rfl (szSFrom HML.out) hcm2 ?_)
            | (refine wpList_load_agg _ rfl 24 (.tmp 5) rfl _ rfl PC _ Try.underlying24 rfl (n2_size HPL.out) hcp2 ?_)
            | fail)
          refine hsm.mono ?_
          rintro e w5 ⟨rfl, hx5⟩
          have hr8 : w5.heap[w.heap.size + 3]? = some (.cells Z.toArray 27 (0, 0)) := HI.out.z.keep hx5 (by simp)
          have hcm2 := (HNB.out.keep hx5 (by simp)).cells
          by_cases hz0 : zm = 0
          · subst hz0
            go_wp2_with (first
              | (refine wpList_load_agg _ rfl 27 (.tmp 11) rfl _ rfl MC _ Try.underlying27 rfl (szSFrom HML.out) hcm2 ?_)
              | (refine wpList_store_row _ rfl 27 (.tmp 8) (.tmp 198) rfl (w.heap.size + 3) rfl Z MC _ rfl hr8 (szSFrom HML.out) (by rw [HML.out, HZL.out]) hmone ?_)
              | fail)
            have hc9 := Blk.cells (t := 27) (setRow_at (cs' := MC.toArray) hr8)
            (try simp only [Exit.inBlock, Exit.then])
            refine bodyPost_ret (results_agg_tmp rfl _ _ _ _ _ rfl Try.underlying27 rfl (szSFrom HML.out) hc9) rfl ?_
            have hfin : finM ({ s with round := r1, m1 := s.m1 + am } : St) p0 p1 = (({ s with round := r1, m1 := s.m1 + am } : St), 0) := by unfold finM; rw [if_neg (by rw [← HZM.out]; simp)]
            refine ⟨v', ?_, ?_, grown_then (HI.out.ext.trans hx5) (setRow_only _) (.inr (by rintro b ⟨⟩; omega))⟩
            · rw [htl, hfin, HMC.out]; rfl
            · rw [htl, hfin]
              exact ⟨HOWN.out.1, (HOWN.out.2.ext hx5).keep (row := some (w.heap.size + 3)) (setRow_only _) (by
                cases hvb : v'.ownBlock with
                | none => exact .inl rfl
                | some b => exact .inr (by have := (HI.out.far b hvb).1; simp; omega))⟩
          · have hzb : (zm != 0) = true := by simpa using hz0
            go_wp2_with (first
              | (refine wpList_build (.inl rfl) 27 _ rfl (.agg zst.toArray) (by kernel_rfl) ?_; rw [← HZB])
              | (refine wpList_store_row _ rfl 27 (.tmp 8) (.tmp 196) rfl (w.heap.size + 3) rfl Z Z _ rfl hr8 (szSFrom HZL.out) rfl hzo ?_)
              | fail)
            have hc9 := Blk.cells (t := 27) (setRow_at (cs' := Z.toArray) hr8)
            (try simp only [Exit.inBlock, Exit.then])
            refine bodyPost_ret (results_agg_tmp rfl _ _ _ _ _ rfl Try.underlying27 rfl (szSFrom HZL.out) hc9) rfl ?_
            have hfin : finM ({ s with round := r1, m1 := s.m1 + am } : St) p0 p1 = (.zero, zm) := by unfold finM; rw [if_pos (by rw [← HZM.out]; exact hz0), HZM.out]
            refine ⟨.slice none 0 0, ?_, ?_, grown_then (HI.out.ext.trans hx5) (setRow_only _) (.inr (by rintro b ⟨⟩; omega))⟩
            · rw [htl, hfin, HZB.out]; rfl
            · rw [htl, hfin]; exact ⟨by simp [St.zero], Own.nil _ _ _⟩
        · have ea : addM s.m1 am = (0, 11) := by unfold addM; rw [if_neg hov]
          have htl := hfin1 HZR.out.symm hov
          rw [ea] at hadd
          simp only [numErr] at hadd
          have HADD := Lib.hid hadd
          clear hadd ea
          go_wp2
          refine startL 13 Since (by kernel_rfl) ?_
          (try simp only [Act.put, List.setIfInBounds_toArray, List.set_cons_succ, List.set_cons_zero])
          have HI := Lib.hid (HI.out.ext' (Ext.refl _).drew)
          generalize World.drew _ = w0 at *
          have cM : w0.cell? ⟨g11, 3, none⟩ = some (.int .u64 (s.m1 : Int)) := (HI.out.nb.cell 3).trans rfl
          have cA : w0.cell? ⟨w.heap.size + 2, 1, none⟩ = some (.int .u64 (am : Int)) := (HI.out.oc.cell 1).trans HIN.out.o1
          refine takeN (fun _ => Ext.refl _) 0 rfl (by kernel_rfl) (by kernel_rfl) (by kernel_rfl) rfl (fun _ _ _ _ h => h) rfl (fun K hK => ?_)
          go_big_quiet_op
          first | refine hK _ ?_ | refine ⟨_, fun _ _ => rfl, hK _ ?_⟩
          clear hK K
          refine takeN (fun _ => Ext.refl _) 1 rfl (by kernel_rfl) (by kernel_rfl) (by kernel_rfl) rfl (fun _ _ _ _ h => h) rfl (fun K hK => ?_)
          go_big_quiet_op
          first | refine hK _ ?_ | refine ⟨_, fun _ _ => rfl, hK _ ?_⟩
          clear hK K
          refine takeN (fun _ => Ext.refl _) 2 rfl (by kernel_rfl) (by kernel_rfl) (by kernel_rfl) rfl (fun _ _ _ _ h => h) rfl (fun K hK => ?_)
          go_big_quiet_op
          first | refine hK _ ?_ | refine ⟨_, fun _ _ => rfl, hK _ ?_⟩
          clear hK K
          refine takeN (fun _ => Ext.refl _) 3 rfl (by kernel_rfl) (by kernel_rfl) (by kernel_rfl) rfl (fun _ _ _ _ h => h) rfl (fun K hK => ?_)
          go_big_quiet_op
          first | refine hK _ ?_ | refine ⟨_, fun _ _ => rfl, hK _ ?_⟩
          clear hK K
          refine takeL (fun _ => Ext.refl _) (fun _ _ _ h1 h2 => Ext.trans h1 h2) 4 [13] rfl (by kernel_rfl) (by kernel_rfl) (by kernel_rfl) (by kernel_rfl) rfl (fun _ _ _ _ h => h) rfl (fun K hK => ?_)
          refine quiet_cell _ _ rfl _ rfl _ _ Try.underlying23 rfl (fun W' h => World.grownBy.cell h cM (by simp)) ?_
          refine hK _ ?_
          simp only [Act.put, List.setIfInBounds_toArray, List.set_cons_succ, List.set_cons_zero]
          clear hK K
          refine takeN (fun _ => Ext.refl _) 5 rfl (by kernel_rfl) (by kernel_rfl) (by kernel_rfl) rfl (fun _ _ _ _ h => h) rfl (fun K hK => ?_)
          go_big_quiet_op
          first | refine hK _ ?_ | refine ⟨_, fun _ _ => rfl, hK _ ?_⟩
          clear hK K
          refine takeL (fun _ => Ext.refl _) (fun _ _ _ h1 h2 => Ext.trans h1 h2) 6 [13] rfl (by kernel_rfl) (by kernel_rfl) (by kernel_rfl) (by kernel_rfl) rfl (fun _ _ _ _ h => h) rfl (fun K hK => ?_)
          refine quiet_cell _ _ rfl _ rfl _ _ Try.underlying23 rfl (fun W' h => World.grownBy.cell h cA (by simp)) ?_
          refine hK _ ?_
          simp only [Act.put, List.setIfInBounds_toArray, List.set_cons_succ, List.set_cons_zero]
          clear hK K
          refine takeN (fun _ => Ext.refl _) 11 rfl (by kernel_rfl) (by kernel_rfl) (by kernel_rfl) rfl (fun _ _ _ _ h => h) rfl (fun K hK => ?_)
          go_big_quiet_op
          first | refine hK _ ?_ | refine ⟨_, fun _ _ => rfl, hK _ ?_⟩
          clear hK K
          refine stepL 7 rfl (by kernel_rfl) rfl (fun K hK => ?_)
          go_simp
          refine (HADD.out _).mono ?_
          rintro e w5 ⟨rfl, hx5⟩
          obtain rfl := hx5
          refine hK _ _ (fun _ => Ext.refl _) ?_
          clear hK K
          refine takeN (fun _ => Ext.refl _) 8 rfl (by kernel_rfl) (by kernel_rfl) (by kernel_rfl) rfl (fun _ _ _ _ h => h) rfl (fun K hK => ?_)
          go_big_quiet_op
          first | refine hK _ ?_ | refine ⟨_, fun _ _ => rfl, hK _ ?_⟩
          clear hK K
          refine takeN (fun _ => Ext.refl _) 9 rfl (by kernel_rfl) (by kernel_rfl) (by kernel_rfl) rfl (fun _ _ _ _ h => h) rfl (fun K hK => ?_)
          go_big_quiet_op
          first | refine hK _ ?_ | refine ⟨_, fun _ _ => rfl, hK _ ?_⟩
          clear hK K
          refine takeN (fun _ => Ext.refl _) 10 rfl (by kernel_rfl) (by kernel_rfl) (by kernel_rfl) rfl (fun _ _ _ _ h => h) rfl (fun K hK => ?_)
          go_big_quiet_op
          first | refine hK _ ?_ | refine ⟨_, fun _ _ => rfl, hK _ ?_⟩
          clear hK K
          refine takeN (fun _ => Ext.refl _) 12 rfl (by kernel_rfl) (by kernel_rfl) (by kernel_rfl) rfl (fun _ _ _ _ h => h) rfl (fun K hK => ?_)
          go_big_quiet_op
          first | refine hK _ ?_ | refine ⟨_, fun _ _ => rfl, hK _ ?_⟩
          clear hK K
          refine stepL 13 rfl (by kernel_rfl) rfl (fun K hK => ?_)
          have s9 : w0.cell? ⟨g11, 3, none⟩ = some (.int .u64 (s.m1 : Int)) := cM
          have f9 : w0.frozen? ⟨g11, 3, none⟩ = false := HI.out.nb.free 3
          go_simp
          refine hK _ _ (fun h => absurd rfl h) ?_
          clear hK K
          refine takeN (fun _ => Ext.refl _) 14 rfl (by kernel_rfl) (by kernel_rfl) (by kernel_rfl) rfl (fun _ _ _ _ h => h) rfl (fun K hK => ?_)
          go_big_quiet_op
          first | refine hK _ ?_ | refine ⟨_, fun _ _ => rfl, hK _ ?_⟩
          clear hK K
          refine doneL (by kernel_rfl) ?_ _
          have hI9 := HI.out.put (n1 := ({ s with round := r1, m1 := 0, cs := [] } : St)) 3 (.int .u64 ((0 : Nat) : Int)) (by simp [stc]) hg11
          generalize w0.setCell ⟨g11, 3, none⟩ (.int .u64 ((0 : Nat) : Int)) = wr at *
          have HI := Lib.hid hI9
          clear hI9 cM cA s9 f9
          have hr8 : wr.heap[w.heap.size + 3]? = some (.cells Z.toArray 27 (0, 0)) := HI.out.z
          go_wp2_with (first
            | (refine wpList_build (.inl rfl) 27 _ rfl (.agg zst.toArray) (by kernel_rfl) ?_; rw [← HZB])
            | (refine wpList_store_row _ rfl 27 (.tmp 8) (.tmp 189) rfl (w.heap.size + 3) rfl Z Z _ rfl hr8 (szSFrom HZL.out) rfl hzo ?_)
            | fail)
          have hc9 := Blk.cells (t := 27) (setRow_at (cs' := Z.toArray) hr8)
          (try simp only [Exit.inBlock, Exit.then])
          refine bodyPost_ret (results_agg_tmp rfl _ _ _ _ _ rfl Try.underlying27 rfl (szSFrom HZL.out) hc9) rfl ?_
          refine ⟨.slice none 0 0, ?_, ?_, grown_then HI.out.ext (setRow_only _) (.inr (by rintro b ⟨⟩; omega))⟩
          · rw [htl, HZB]; rfl
          · rw [htl]; exact ⟨by simp [St.zero], Own.nil _ _ _⟩
      · have hzb : (zr != 0) = true := by simpa using hzz
        have htl := hfin2 (by rw [← HZR.out]; exact hzz)
        rw [← HZR.out] at htl
        have hr8 : wr.heap[w.heap.size + 3]? = some (.cells Z.toArray 27 (0, 0)) := HI.out.z
        go_wp2_with (first
          | (refine wpList_build (.inl rfl) 27 _ rfl (.agg zst.toArray) (by kernel_rfl) ?_; rw [← HZB])
          | (refine wpList_store_row _ rfl 27 (.tmp 8) (.tmp 96) rfl (w.heap.size + 3) rfl Z Z _ rfl hr8 (szSFrom HZL.out) rfl hzo ?_)
          | fail)
        have hc9 := Blk.cells (t := 27) (setRow_at (cs' := Z.toArray) hr8)
        (try simp only [Exit.inBlock, Exit.then])
        refine bodyPost_ret (results_agg_tmp rfl _ _ _ _ _ rfl Try.underlying27 rfl (szSFrom HZL.out) hc9) rfl ?_
        refine ⟨.slice none 0 0, ?_, ?_, grown_then HI.out.ext (setRow_only _) (.inr (by rintro b ⟨⟩; omega))⟩
        · rw [htl, HZB]; rfl
        · rw [htl]; exact ⟨by simp [St.zero], Own.nil _ _ _⟩
set_option maxRecDepth 100000 in
set_option maxHeartbeats 8000000 in
theorem RNext5s0 (w : World) (F : Fp) (s : St) (p0 p1 : Nat) (v : Value) (SC PC OC Z : List Value) (sd : Int) (r1 am cid cam oid : Nat) (cside : Int) (fd : Nat → Int) (rm : Nat → Int) (hin : RNextIn w SC PC OC Z sd s.cs s.round r1 am cid cam oid 5 cside 0 fd rm sd) (hsd : sd = 0) (T : St × Int) (ham : am < M64) (hfin0 : rm am = 0 → s.t0 + am < M64 → T = finM ({ s with round := r1, t0 := s.t0 + am } : St) p0 p1) (hfin1 : rm am = 0 → ¬ s.t0 + am < M64 → T = (.zero, 11)) (hfin2 : rm am ≠ 0 → T = (.zero, rm am)) (hr1 : r1 = s.round + 1)
    (hsc : SC = stc s v) (hpc : PC = ptc p0 p1) (hs : StOk s) (hc : Conds w F v s.cs) (hF : ∀ b, F b → b < w.heap.size) (hrd' : s.round < 200) (h8 : List.length (α := Cd) s.cs ≤ 8) (hp0 : p0 < M64) (hp1 : p1 < M64) :
    Calls Try.prog 13 #[.agg SC.toArray, .agg PC.toArray, .int .i64 sd, .agg OC.toArray] w fun e w' => ∃ v', e = .returned (.tuple #[.agg (stc (T).1 v').toArray, .int .i64 (T).2]) ∧ OwnFrom w' v' (T).1.cs ∧ Ext w w' := by
  subst hsd
  obtain ⟨i1, z1, hi1, hz1, hi2, hi3, hi4⟩ := partsFrom
  obtain ⟨A, c, xs, rfl, hlc, hcm, hA, hcell, hall⟩ := conds_open hc
  clear hc
  unfold maxLen at hcm
  have hs6 : SC[6]? = some (.slice A (List.length (α := Cd) s.cs) c) := by rw [hsc]; rfl
  have hs0 : SC[0]? = some (.int .u32 (s.chan : Int)) := by rw [hsc]; rfl
  have hsm : (SC.drop 2).take 2 = ptc s.m0 s.m1 := by rw [hsc]; rfl
  have hst : (SC.drop 4).take 2 = ptc s.t0 s.t1 := by rw [hsc]; rfl
  have HPE := Lib.hid hpc
  have HR1 := Lib.hid hr1
  clear hsc hpc hr1
  obtain ⟨rd, hrd⟩ : ∃ rd, rd = s.round := ⟨_, rfl⟩
  rw [← hrd] at hin hrd'
  have hz := hin.zi
  have hzo := hin.zo
  have HZB : Hid (Z = zst) := hin.zE
  have HSL := Lib.hid hin.sl
  have HPL := Lib.hid hin.pl
  have HOL := Lib.hid hin.ol
  have HZL := Lib.hid hin.zl
  have hb0 : Blk ((((w.alloc (.cells SC.toArray 27)).alloc (.cells PC.toArray 24)).alloc (.cells OC.toArray 32)).alloc (.cells Z.toArray 27)) w.heap.size 27 SC := (Blk.new _ _ _).keep ((((Ext.refl _).alloc _).alloc _).alloc _) (by simp)
  have hb1 : Blk ((((w.alloc (.cells SC.toArray 27)).alloc (.cells PC.toArray 24)).alloc (.cells OC.toArray 32)).alloc (.cells Z.toArray 27)) (w.heap.size + 1) 24 PC := (Blk.new_at (by simp) _ _).keep (((Ext.refl _).alloc _).alloc _) (by simp)
  have hb2 : Blk ((((w.alloc (.cells SC.toArray 27)).alloc (.cells PC.toArray 24)).alloc (.cells OC.toArray 32)).alloc (.cells Z.toArray 27)) (w.heap.size + 2) 32 OC := (Blk.new_at (by simp) _ _).keep ((Ext.refl _).alloc _) (by simp)
  have hb3 : Blk ((((w.alloc (.cells SC.toArray 27)).alloc (.cells PC.toArray 24)).alloc (.cells OC.toArray 32)).alloc (.cells Z.toArray 27)) (w.heap.size + 3) 27 Z := Blk.new_at (by simp) _ _
  have hx0 : Ext w ((((w.alloc (.cells SC.toArray 27)).alloc (.cells PC.toArray 24)).alloc (.cells OC.toArray 32)).alloc (.cells Z.toArray 27)) := ((((Ext.refl w).alloc _).alloc _).alloc _).alloc _
  have hcs := hb0.cells
  have hcp := hb1.cells
  have HB0 := Lib.hid hb0
  have HB1 := Lib.hid hb1
  have HB2 := Lib.hid hb2
  have HB3 := Lib.hid hb3
  have HX0 := Lib.hid hx0
  have HIN := Lib.hid hin
  clear hb0 hb1 hb2 hb3 hx0 hin
  have c1' : ∀ W, Ext ((((w.alloc (.cells SC.toArray 27)).alloc (.cells PC.toArray 24)).alloc (.cells OC.toArray 32)).alloc (.cells Z.toArray 27)) W → W.cell? ⟨w.heap.size, 1, none⟩ = some (.int .u64 (rd : Int)) := fun W h => ((HB0.out.keep h (by simp)).cell 1).trans HIN.out.s1
  have C1 := Lib.hid c1'
  have hrb : ((rd : Int) == 200) = false := by rw [beq_eq_false_iff_ne]; omega
  have htb : (((0 : Int)) != 0) = false := bne_self_eq_false _
  have hw1 := HIN.out.w1
  have HRD := Lib.hid hrd
  clear c1' hrd
  go_enter Try.func13, Try.ntmps13
  go_wp2_with (first
    | (refine wpList_alloc _ rfl 27 rfl _ hz ?_)
    | (refine wpList_load_agg _ rfl 27 (.tmp 4) rfl _ rfl SC _ Try.underlying27 rfl (szSFrom HSL.out) hcs ?_)
    | (refine wpList_load_agg _ rfl 24 (.tmp 5) rfl _ rfl PC _ Try.underlying24 rfl (by rw [HPL.out]; kernel_rfl) hcp ?_)
    | fail)
  refine (HIN.out.sn _ HX0.out).mono ?_
  rintro e w1 ⟨rfl, hx1⟩
  have d1 := C1.out w1 hx1
  have hbs := HB0.out.keep hx1 (by simp)
  have d0 := (hbs.cell 0).trans hs0
  have hm2 : Cells w1 ⟨w.heap.size, 2, none⟩ (ptc s.m0 s.m1) := by have h := (hbs.cells.drop 2).take 2; rw [hsm] at h; simpa [Addr.add] using h
  have ht4 : Cells w1 ⟨w.heap.size, 4, none⟩ (ptc s.t0 s.t1) := by have h := (hbs.cells.drop 4).take 2; rw [hst] at h; simpa [Addr.add] using h
  have k0 : (w1.alloc (.cells (stc { s with round := r1, cs := [] } (.slice none 0 0)).toArray 27)).cell? ⟨w.heap.size + 2, 0, none⟩ = some (.int .i64 5) := ((HB2.out.keep (hx1.alloc _) (by simp)).cell 0).trans HIN.out.o0
  have hI : RInv w (w1.alloc (.cells (stc { s with round := r1, cs := [] } (.slice none 0 0)).toArray 27)) SC PC OC Z w1.heap.size { s with round := r1, cs := [] } (.slice none 0 0) [] := by
    have hx := hx1.alloc (.cells (stc { s with round := r1, cs := [] } (.slice none 0 0)).toArray 27)
    exact ⟨HX0.out.trans hx, HB0.out.keep hx (by simp), HB1.out.keep hx (by simp), HB2.out.keep hx (by simp), HB3.out.keep hx (by simp), Blk.new _ _ _, ⟨by simp, Own.nil _ _ _⟩, by simp [Value.ownBlock]⟩
  have hg11 : w.heap.size + 4 ≤ w1.heap.size := by have h1 := HB3.out.lt; have h2 := hx1.size; omega
  have HI := Lib.hid hI
  clear hI hbs
  go_wp2_with (first
    | (go_at_call 30; refine (HIN.out.turn _).mono ?_; rintro e _ ⟨rfl, rfl⟩)
    | (refine wpList_load_agg _ rfl 24 (.tmp 39) rfl _ rfl (ptc s.m0 s.m1) _ Try.underlying24 rfl (n2_size rfl) hm2 ?_)
    | (refine wpList_load_agg _ rfl 24 (.tmp 41) rfl _ rfl (ptc s.t0 s.t1) _ Try.underlying24 rfl (n2_size rfl) ht4 ?_)
    | (refine wpList_build (.inl rfl) 27 _ rfl (.agg (stc { s with round := r1, cs := [] } (.slice none 0 0)).toArray) (by kernel_rfl) ?_)
    | (refine wpList_alloc _ rfl 27 rfl _ hz ?_)
    | (refine wpList_store_new _ rfl 27 (.tmp 11) (.tmp 43) rfl rfl Z (stc { s with round := r1, cs := [] } (.slice none 0 0)) _ rfl (szSFrom rfl) (by rw [HZL.out]; rfl) (stc_one _ _ _ _) ?_)
    | fail
    | fail)
  generalize w1.alloc (.cells (stc { s with round := r1, cs := [] } (.slice none 0 0)).toArray 27) = w2 at *
  generalize w1.heap.size = g11 at *
  clear k0
  go_loopw [13] (fun i wr => ∃ (j : Nat) (v' : Value), j ≤ List.length (α := Cd) s.cs ∧ i = .int .i64 j ∧ RInv w wr SC PC OC Z g11 { s with round := r1, cs := [] } v' (keptM s.cs none j)) (fun i _ => List.length (α := Cd) s.cs - (intOf i).toNat)
  case atStart => exact ⟨0, .slice none 0 0, by omega, rfl, by rw [kept_zero]; exact HI.out⟩
  case round =>
    clear HI
    obtain ⟨j, v', hj, rfl, hI⟩ := hrel
    have HI := Lib.hid hI
    clear hI
    have e6 : wr.cell? ⟨w.heap.size, 6, none⟩ = some (.slice A (List.length (α := Cd) s.cs) c) := (HI.out.sc.cell 6).trans hs6
    by_cases hlt : j < List.length (α := Cd) s.cs
    · obtain ⟨ad, rfl, hf, hcells⟩ := hcell (by omega)
      have hjb : ((j : Int) != -1) = true := by rw [bne_iff_ne]; omega
      obtain ⟨hcc, hok⟩ := conds_at hall (hcells.keep (HI.out.ext.same hF _ hf)) hlt
      have hks := kept_step s.cs none j hlt (by simp)
      have hkl := kept_len s.cs none j
      have hone := condCells_one s.cs[j]
      have HCL := Lib.hid (condCells_len hok)
      generalize hck : s.cs[j] = ck at *
      generalize hCE : condCells ck = C at *
      have HCE := Lib.hid hCE
      have HKS := Lib.hid hks
      have HKL := Lib.hid hkl
      have HOKC := Lib.hid hok
      clear hks hkl hcells hCE hok hck
      go_wp2
      have hcc : Cells wr.drew (ad.add (j * 36)) C := hcc
      have hd6 : wr.drew.cell? ⟨w.heap.size, 6, none⟩ = some (.slice (some ad) (List.length (α := Cd) s.cs) c) := e6
      have HI := Lib.hid (HI.out.ext' (Ext.refl wr).drew)
      refine startL 10 (KeepB fun b => b = g11 ∨ b ≤ w.heap.size) (by kernel_rfl) ?_
      (try simp only [Act.put, List.setIfInBounds_toArray, List.set_cons_succ, List.set_cons_zero])
      generalize wr.drew = w0 at *
      have hc6 : w0.cell? ⟨g11, 6, none⟩ = some v' := (HI.out.nb.cell 6).trans rfl
      have C6 := Lib.hid hc6
      have D6 := Lib.hid hd6
      have HCC := Lib.hid hcc
      clear hc6 hd6 hcc e6
      refine takeN (fun _ _ _ => rfl) 0 rfl (by kernel_rfl) (by kernel_rfl) (by kernel_rfl) rfl (fun _ _ _ _ h => h) rfl (fun K hK => ?_)
      go_big_quiet_op
      first | refine hK _ ?_ | refine ⟨_, fun _ _ => rfl, hK _ ?_⟩
      clear hK K
      refine takeL (fun _ _ _ => rfl) (fun _ _ _ h1 h2 b hb => (h2 b hb).trans (h1 b hb)) 1 [10] rfl (by kernel_rfl) (by kernel_rfl) (by kernel_rfl) (by kernel_rfl) rfl (fun _ _ _ _ h => h) rfl (fun K hK => ?_)
      refine quiet_cell _ _ rfl _ rfl _ _ Try.underlying25 rfl (fun W' h => KeepB.cell h C6.out (by simp)) ?_
      refine hK _ ?_
      simp only [Act.put, List.setIfInBounds_toArray, List.set_cons_succ, List.set_cons_zero]
      clear hK K
      refine takeN (fun _ _ _ => rfl) 2 rfl (by kernel_rfl) (by kernel_rfl) (by kernel_rfl) rfl (fun _ _ _ _ h => h) rfl (fun K hK => ?_)
      go_big_quiet_op
      first | refine hK _ ?_ | refine ⟨_, fun _ _ => rfl, hK _ ?_⟩
      clear hK K
      refine takeL (fun _ _ _ => rfl) (fun _ _ _ h1 h2 b hb => (h2 b hb).trans (h1 b hb)) 3 [10] rfl (by kernel_rfl) (by kernel_rfl) (by kernel_rfl) (by kernel_rfl) rfl (fun _ _ _ _ h => h) rfl (fun K hK => ?_)
      refine quiet_cell _ _ rfl _ rfl _ _ Try.underlying25 rfl (fun W' h => KeepB.cell h D6.out (by simp)) ?_
      refine hK _ ?_
      simp only [Act.put, List.setIfInBounds_toArray, List.set_cons_succ, List.set_cons_zero]
      clear hK K
      refine takeN (fun _ _ _ => rfl) 4 rfl (by kernel_rfl) (by kernel_rfl) (by kernel_rfl) rfl (fun _ _ _ _ h => h) rfl (fun K hK => ?_)
      go_big_quiet_op
      first | refine hK _ ?_ | refine ⟨_, fun _ _ => rfl, hK _ ?_⟩
      clear hK K
      refine takeN (fun _ _ _ => rfl) 5 rfl (by kernel_rfl) (by kernel_rfl) (by kernel_rfl) rfl (fun _ _ _ _ h => h) rfl (fun K hK => ?_)
      go_big_quiet_op
      first | refine hK _ ?_ | refine ⟨_, fun _ _ => rfl, hK _ ?_⟩
      clear hK K
      refine takeL (fun _ _ _ => rfl) (fun _ _ _ h1 h2 b hb => (h2 b hb).trans (h1 b hb)) 6 [10] rfl (by kernel_rfl) (by kernel_rfl) (by kernel_rfl) (by kernel_rfl) rfl (fun _ _ _ _ h => h) rfl (fun K hK => ?_)
      refine quiet_agg 30 (.tmp 74) rfl _ rfl C _ Try.underlying30 rfl (szDFrom HCL.out) (fun W' h => KeepB.cells h HCC.out (.inr (by rw [add_block]; have := hF _ hf; omega))) ?_
      refine hK _ ?_
      simp only [Act.put, List.setIfInBounds_toArray, List.set_cons_succ, List.set_cons_zero]
      clear hK K
      refine stepL 7 rfl (by kernel_rfl) rfl (fun K hK => ?_)
      refine wp_one w0 25 (.tmp 75) rfl 30 C Try.underlying25 rfl (szDFrom HCL.out) zDFrom (by rw [HCL.out]; decide) (by rw [HCL.out]; decide) ?_
      refine hK _ _ (fun _ b hb => ((Ext.refl w0).alloc _).block b (by have h1 := HI.out.nb.lt; have h2 := HI.out.sc.lt; rcases hb with rfl | hb <;> omega) (by simp)) ?_
      clear hK K
      (try simp only [Act.put, List.setIfInBounds_toArray, List.set_cons_succ, List.set_cons_zero])
      refine stepL 8 rfl (by kernel_rfl) rfl (fun K hK => ?_)
      refine wp_app _ (.tmp 70) (.tmp 76) _ _ rfl 30 30 i1 z1 36 64 Try.underlying25 Try.underlying25 hi1 hz1 hi2 hi3 hi4 (by decide) _ _ _ rfl (HI.out.own.2.ext ((Ext.refl w0).alloc _)) _ 1 1 C rfl (by rw [HCL.out]) (src_new_at rfl C _ 1) hone (by have := HKL.out; unfold maxLen; omega) (by have := HKL.out; omega) ?_
      intro v7 w7 ho7 hm7
      obtain ⟨A7, c7, hv7⟩ := Own.form ho7
      subst hv7
      refine hK _ _ (fun _ b hb => hm7.grown.block b (by have h1 := HI.out.nb.lt; have h2 := HI.out.sc.lt; simp; rcases hb with rfl | hb <;> omega) (fun e => by have h9 := HI.out.far b e.symm; rcases hb with hb | hb <;> omega)) ?_
      clear hK K
      (try simp only [Act.put, List.setIfInBounds_toArray, List.set_cons_succ, List.set_cons_zero])
      refine takeN (fun _ _ _ => rfl) 9 rfl (by kernel_rfl) (by kernel_rfl) (by kernel_rfl) rfl (fun _ _ _ _ h => h) rfl (fun K hK => ?_)
      go_big_quiet_op
      first | refine hK _ ?_ | refine ⟨_, fun _ _ => rfl, hK _ ?_⟩
      clear hK K
      refine stepL 10 rfl (by kernel_rfl) rfl (fun K hK => ?_)
      have HB7 := Lib.hid ((HI.out.nb.keep ((Ext.refl w0).alloc (.cells C.toArray 30)) (by simp)).keep hm7.grown (fun e => (HI.out.far _ e.symm).2 rfl))
      have s9 : w7.cell? ⟨g11, 6, none⟩ = some v' := (HB7.out.cell 6).trans rfl
      have f9 : w7.frozen? ⟨g11, 6, none⟩ = false := HB7.out.free 6
      go_simp
      refine hK _ _ (fun h => absurd rfl h) ?_
      clear hK K
      refine doneL (by kernel_rfl) ?_ _
      have hI8 := HI.out.grow ((Ext.refl w0).alloc (.cells C.toArray 30)) hm7 (by rw [HCE.out]; exact ho7) HOKC.out hg11
      have HI8 := Lib.hid hI8
      clear hI8 s9 f9 ho7
      go_wp2
      go_roundw
      case rel => exact ⟨j + 1, _, by omega, by go_num, by rw [HKS.out]; exact HI8.out⟩
      case measure => simp [intOf]; omega
    · obtain rfl : j = List.length (α := Cd) s.cs := by omega
      have hkf : keptM s.cs none (List.length (α := Cd) s.cs) = s.cs := List.take_length
      have k0 : wr.cell? ⟨w.heap.size + 2, 0, none⟩ = some (.int .i64 5) := (HI.out.oc.cell 0).trans HIN.out.o0
      have k1 : wr.cell? ⟨w.heap.size + 2, 1, none⟩ = some (.int .u64 (am : Int)) := (HI.out.oc.cell 1).trans HIN.out.o1
      have hcs3 := HI.out.sc.cells
      have hcp3 := HI.out.pc.cells
      have hrm := HIN.out.room wr HI.out.ext am ham
      go_wp2_with (first
        | (refine wpList_load_agg _ rfl 27 (.tmp 4) rfl _ rfl SC _ Try.underlying27 rfl (szSFrom HSL.out) hcs3 ?_)
        | (refine wpList_load_agg _ rfl 24 (.tmp 5) rfl _ rfl PC _ Try.underlying24 rfl (n2_size HPL.out) hcp3 ?_)
        | fail)
      refine hrm.mono ?_
      rintro e w6 ⟨rfl, hx6⟩
      have HI := Lib.hid (HI.out.ext' hx6)
      clear k0 k1 hcs3 hcp3 hx6 hrm
      generalize w6 = wr at *
      have k0 : wr.cell? ⟨w.heap.size + 2, 0, none⟩ = some (.int .i64 5) := (HI.out.oc.cell 0).trans HIN.out.o0
      obtain ⟨zr, hzr⟩ : ∃ zr, zr = rm am := ⟨_, rfl⟩
      rw [← hzr]
      have HZR := Lib.hid hzr
      clear hzr
      by_cases hzz : zr = 0
      · subst hzz
        have hadd := fun W => RAdd s.t0 am W hs.t0 ham
        by_cases hov : s.t0 + am < M64
        · have ea : addM s.t0 am = (s.t0 + am, 0) := by unfold addM; rw [if_pos hov]
          have htl := hfin0 HZR.out.symm hov
          rw [ea] at hadd
          simp only [numErr] at hadd
          have HADD := Lib.hid hadd
          clear hadd ea
          go_wp2
          refine startL 13 Since (by kernel_rfl) ?_
          (try simp only [Act.put, List.setIfInBounds_toArray, List.set_cons_succ, List.set_cons_zero])
          have HI := Lib.hid (HI.out.ext' (Ext.refl _).drew)
          generalize World.drew _ = w0 at *
          have cM : w0.cell? ⟨g11, 4, none⟩ = some (.int .u64 (s.t0 : Int)) := (HI.out.nb.cell 4).trans rfl
          have cA : w0.cell? ⟨w.heap.size + 2, 1, none⟩ = some (.int .u64 (am : Int)) := (HI.out.oc.cell 1).trans HIN.out.o1
          refine takeN (fun _ => Ext.refl _) 0 rfl (by kernel_rfl) (by kernel_rfl) (by kernel_rfl) rfl (fun _ _ _ _ h => h) rfl (fun K hK => ?_)
          go_big_quiet_op
          first | refine hK _ ?_ | refine ⟨_, fun _ _ => rfl, hK _ ?_⟩
          clear hK K
          refine takeN (fun _ => Ext.refl _) 1 rfl (by kernel_rfl) (by kernel_rfl) (by kernel_rfl) rfl (fun _ _ _ _ h => h) rfl (fun K hK => ?_)
          go_big_quiet_op
          first | refine hK _ ?_ | refine ⟨_, fun _ _ => rfl, hK _ ?_⟩
          clear hK K
          refine takeN (fun _ => Ext.refl _) 2 rfl (by kernel_rfl) (by kernel_rfl) (by kernel_rfl) rfl (fun _ _ _ _ h => h) rfl (fun K hK => ?_)
          go_big_quiet_op
          first | refine hK _ ?_ | refine ⟨_, fun _ _ => rfl, hK _ ?_⟩
          clear hK K
          refine takeN (fun _ => Ext.refl _) 3 rfl (by kernel_rfl) (by kernel_rfl) (by kernel_rfl) rfl (fun _ _ _ _ h => h) rfl (fun K hK => ?_)
          go_big_quiet_op
          first | refine hK _ ?_ | refine ⟨_, fun _ _ => rfl, hK _ ?_⟩
          clear hK K
          refine takeL (fun _ => Ext.refl _) (fun _ _ _ h1 h2 => Ext.trans h1 h2) 4 [13] rfl (by kernel_rfl) (by kernel_rfl) (by kernel_rfl) (by kernel_rfl) rfl (fun _ _ _ _ h => h) rfl (fun K hK => ?_)
          refine quiet_cell _ _ rfl _ rfl _ _ Try.underlying23 rfl (fun W' h => World.grownBy.cell h cM (by simp)) ?_
          refine hK _ ?_
          simp only [Act.put, List.setIfInBounds_toArray, List.set_cons_succ, List.set_cons_zero]
          clear hK K
          refine takeN (fun _ => Ext.refl _) 5 rfl (by kernel_rfl) (by kernel_rfl) (by kernel_rfl) rfl (fun _ _ _ _ h => h) rfl (fun K hK => ?_)
          go_big_quiet_op
          first | refine hK _ ?_ | refine ⟨_, fun _ _ => rfl, hK _ ?_⟩
          clear hK K
          refine takeL (fun _ => Ext.refl _) (fun _ _ _ h1 h2 => Ext.trans h1 h2) 6 [13] rfl (by kernel_rfl) (by kernel_rfl) (by kernel_rfl) (by kernel_rfl) rfl (fun _ _ _ _ h => h) rfl (fun K hK => ?_)
          refine quiet_cell _ _ rfl _ rfl _ _ Try.underlying23 rfl (fun W' h => World.grownBy.cell h cA (by simp)) ?_
          refine hK _ ?_
          simp only [Act.put, List.setIfInBounds_toArray, List.set_cons_succ, List.set_cons_zero]
          clear hK K
          refine takeN (fun _ => Ext.refl _) 11 rfl (by kernel_rfl) (by kernel_rfl) (by kernel_rfl) rfl (fun _ _ _ _ h => h) rfl (fun K hK => ?_)
          go_big_quiet_op
          first | refine hK _ ?_ | refine ⟨_, fun _ _ => rfl, hK _ ?_⟩
          clear hK K
          refine stepL 7 rfl (by kernel_rfl) rfl (fun K hK => ?_)
          go_simp
          refine (HADD.out _).mono ?_
          rintro e w5 ⟨rfl, hx5⟩
          obtain rfl := hx5
          refine hK _ _ (fun _ => Ext.refl _) ?_
          clear hK K
          refine takeN (fun _ => Ext.refl _) 8 rfl (by kernel_rfl) (by kernel_rfl) (by kernel_rfl) rfl (fun _ _ _ _ h => h) rfl (fun K hK => ?_)
          go_big_quiet_op
          first | refine hK _ ?_ | refine ⟨_, fun _ _ => rfl, hK _ ?_⟩
          clear hK K
          refine takeN (fun _ => Ext.refl _) 9 rfl (by kernel_rfl) (by kernel_rfl) (by kernel_rfl) rfl (fun _ _ _ _ h => h) rfl (fun K hK => ?_)
          go_big_quiet_op
          first | refine hK _ ?_ | refine ⟨_, fun _ _ => rfl, hK _ ?_⟩
          clear hK K
          refine takeN (fun _ => Ext.refl _) 10 rfl (by kernel_rfl) (by kernel_rfl) (by kernel_rfl) rfl (fun _ _ _ _ h => h) rfl (fun K hK => ?_)
          go_big_quiet_op
          first | refine hK _ ?_ | refine ⟨_, fun _ _ => rfl, hK _ ?_⟩
          clear hK K
          refine takeN (fun _ => Ext.refl _) 12 rfl (by kernel_rfl) (by kernel_rfl) (by kernel_rfl) rfl (fun _ _ _ _ h => h) rfl (fun K hK => ?_)
          go_big_quiet_op
          first | refine hK _ ?_ | refine ⟨_, fun _ _ => rfl, hK _ ?_⟩
          clear hK K
          refine stepL 13 rfl (by kernel_rfl) rfl (fun K hK => ?_)
          have s9 : w0.cell? ⟨g11, 4, none⟩ = some (.int .u64 (s.t0 : Int)) := cM
          have f9 : w0.frozen? ⟨g11, 4, none⟩ = false := HI.out.nb.free 4
          go_simp
          refine hK _ _ (fun h => absurd rfl h) ?_
          clear hK K
          refine takeN (fun _ => Ext.refl _) 14 rfl (by kernel_rfl) (by kernel_rfl) (by kernel_rfl) rfl (fun _ _ _ _ h => h) rfl (fun K hK => ?_)
          go_big_quiet_op
          first | refine hK _ ?_ | refine ⟨_, fun _ _ => rfl, hK _ ?_⟩
          clear hK K
          refine doneL (by kernel_rfl) ?_ _
          have hI9 := HI.out.put (n1 := ({ s with round := r1, t0 := s.t0 + am, cs := [] } : St)) 4 (.int .u64 ((s.t0 : Int) + (am : Int) : Int)) (by simp [stc]) hg11
          generalize w0.setCell ⟨g11, 4, none⟩ (.int .u64 ((s.t0 : Int) + (am : Int) : Int)) = wr at *
          have HI := Lib.hid hI9
          clear hI9 cM cA s9 f9
          have hmo : StOk ({ s with round := r1, t0 := s.t0 + am } : St) := ⟨hs.chan, by show r1 < M64; rw [HR1.out]; unfold M64; have := HRD.out; omega, hs.m0, hs.m1, (by show s.t0 + am < M64; exact hov), hs.t1⟩
          have hnb : Blk wr g11 27 (stc ({ s with round := r1, t0 := s.t0 + am } : St) v') := HI.out.nb
          have hown : OwnFrom wr v' (St.cs ({ s with round := r1, t0 := s.t0 + am } : St)) := by have h := HI.out.own; rw [hkf] at h; exact h
          have hsm := RSoundC ({ s with round := r1, t0 := s.t0 + am } : St) v' p0 p1 wr _ hmo hp0 hp1 (ownFrom_holds hown) (ownFrom_lt hown)
          rw [← HPE.out] at hsm
          have hml : (stc ({ s with round := r1, t0 := s.t0 + am } : St) v').length = 7 := rfl
          have hmone : ∀ u ∈ stc ({ s with round := r1, t0 := s.t0 + am } : St) v', u.oneCell' = true := by obtain ⟨A2, c2, h⟩ := hown.2.form; rw [h]; exact stc_one _ _ _ _
          obtain ⟨MC, hMC⟩ : ∃ MC, MC = stc ({ s with round := r1, t0 := s.t0 + am } : St) v' := ⟨_, rfl⟩
          rw [← hMC] at hnb hsm hml hmone
          obtain ⟨zm, hzm⟩ : ∃ zm, zm = soundM ({ s with round := r1, t0 := s.t0 + am } : St) p0 p1 := ⟨_, rfl⟩
          rw [← hzm] at hsm
          have hcm2 := hnb.cells
          have hcp2 := HI.out.pc.cells
          have HMC := Lib.hid hMC
          have HZM := Lib.hid hzm
          have HML := Lib.hid hml
          have HNB := Lib.hid hnb
          have HOWN := Lib.hid hown
          clear hMC hzm hml hnb hown hmo
          go_wp2_with (first
            | (refine wpList_load_agg _ rfl 27 (.tmp 11) rfl _ rfl MC _ Try.underlying27 rfl (szSFrom HML.out) hcm2 ?_)
            | (refine wpList_load_agg _ rfl 24 (.tmp 5) rfl _ rfl PC _ Try.underlying24 rfl (n2_size HPL.out) hcp2 ?_)
            | fail)
          refine hsm.mono ?_
          rintro e w5 ⟨rfl, hx5⟩
          have hr8 : w5.heap[w.heap.size + 3]? = some (.cells Z.toArray 27 (0, 0)) := HI.out.z.keep hx5 (by simp)
          have hcm2 := (HNB.out.keep hx5 (by simp)).cells
          by_cases hz0 : zm = 0
          · subst hz0
            go_wp2_with (first
              | (refine wpList_load_agg _ rfl 27 (.tmp 11) rfl _ rfl MC _ Try.underlying27 rfl (szSFrom HML.out) hcm2 ?_)
              | (refine wpList_store_row _ rfl 27 (.tmp 8) (.tmp 198) rfl (w.heap.size + 3) rfl Z MC _ rfl hr8 (szSFrom HML.out) (by rw [HML.out, HZL.out]) hmone ?_)
              | fail)
            have hc9 := Blk.cells (t := 27) (setRow_at (cs' := MC.toArray) hr8)
            (try simp only [Exit.inBlock, Exit.then])
            refine bodyPost_ret (results_agg_tmp rfl _ _ _ _ _ rfl Try.underlying27 rfl (szSFrom HML.out) hc9) rfl ?_
            have hfin : finM ({ s with round := r1, t0 := s.t0 + am } : St) p0 p1 = (({ s with round := r1, t0 := s.t0 + am } : St), 0) := by unfold finM; rw [if_neg (by rw [← HZM.out]; simp)]
            refine ⟨v', ?_, ?_, grown_then (HI.out.ext.trans hx5) (setRow_only _) (.inr (by rintro b ⟨⟩; omega))⟩
            · rw [htl, hfin, HMC.out]; rfl
            · rw [htl, hfin]
              exact ⟨HOWN.out.1, (HOWN.out.2.ext hx5).keep (row := some (w.heap.size + 3)) (setRow_only _) (by
                cases hvb : v'.ownBlock with
                | none => exact .inl rfl
                | some b => exact .inr (by have := (HI.out.far b hvb).1; simp; omega))⟩
          · have hzb : (zm != 0) = true := by simpa using hz0
            go_wp2_with (first
              | (refine wpList_build (.inl rfl) 27 _ rfl (.agg zst.toArray) (by kernel_rfl) ?_; rw [← HZB])
              | (refine wpList_store_row _ rfl 27 (.tmp 8) (.tmp 196) rfl (w.heap.size + 3) rfl Z Z _ rfl hr8 (szSFrom HZL.out) rfl hzo ?_)
              | fail)
            have hc9 := Blk.cells (t := 27) (setRow_at (cs' := Z.toArray) hr8)
            (try simp only [Exit.inBlock, Exit.then])
            refine bodyPost_ret (results_agg_tmp rfl _ _ _ _ _ rfl Try.underlying27 rfl (szSFrom HZL.out) hc9) rfl ?_
            have hfin : finM ({ s with round := r1, t0 := s.t0 + am } : St) p0 p1 = (.zero, zm) := by unfold finM; rw [if_pos (by rw [← HZM.out]; exact hz0), HZM.out]
            refine ⟨.slice none 0 0, ?_, ?_, grown_then (HI.out.ext.trans hx5) (setRow_only _) (.inr (by rintro b ⟨⟩; omega))⟩
            · rw [htl, hfin, HZB.out]; rfl
            · rw [htl, hfin]; exact ⟨by simp [St.zero], Own.nil _ _ _⟩
        · have ea : addM s.t0 am = (0, 11) := by unfold addM; rw [if_neg hov]
          have htl := hfin1 HZR.out.symm hov
          rw [ea] at hadd
          simp only [numErr] at hadd
          have HADD := Lib.hid hadd
          clear hadd ea
          go_wp2
          refine startL 13 Since (by kernel_rfl) ?_
          (try simp only [Act.put, List.setIfInBounds_toArray, List.set_cons_succ, List.set_cons_zero])
          have HI := Lib.hid (HI.out.ext' (Ext.refl _).drew)
          generalize World.drew _ = w0 at *
          have cM : w0.cell? ⟨g11, 4, none⟩ = some (.int .u64 (s.t0 : Int)) := (HI.out.nb.cell 4).trans rfl
          have cA : w0.cell? ⟨w.heap.size + 2, 1, none⟩ = some (.int .u64 (am : Int)) := (HI.out.oc.cell 1).trans HIN.out.o1
          refine takeN (fun _ => Ext.refl _) 0 rfl (by kernel_rfl) (by kernel_rfl) (by kernel_rfl) rfl (fun _ _ _ _ h => h) rfl (fun K hK => ?_)
          go_big_quiet_op
          first | refine hK _ ?_ | refine ⟨_, fun _ _ => rfl, hK _ ?_⟩
          clear hK K
          refine takeN (fun _ => Ext.refl _) 1 rfl (by kernel_rfl) (by kernel_rfl) (by kernel_rfl) rfl (fun _ _ _ _ h => h) rfl (fun K hK => ?_)
          go_big_quiet_op
          first | refine hK _ ?_ | refine ⟨_, fun _ _ => rfl, hK _ ?_⟩
          clear hK K
          refine takeN (fun _ => Ext.refl _) 2 rfl (by kernel_rfl) (by kernel_rfl) (by kernel_rfl) rfl (fun _ _ _ _ h => h) rfl (fun K hK => ?_)
          go_big_quiet_op
          first | refine hK _ ?_ | refine ⟨_, fun _ _ => rfl, hK _ ?_⟩
          clear hK K
          refine takeN (fun _ => Ext.refl _) 3 rfl (by kernel_rfl) (by kernel_rfl) (by kernel_rfl) rfl (fun _ _ _ _ h => h) rfl (fun K hK => ?_)
          go_big_quiet_op
          first | refine hK _ ?_ | refine ⟨_, fun _ _ => rfl, hK _ ?_⟩
          clear hK K
          refine takeL (fun _ => Ext.refl _) (fun _ _ _ h1 h2 => Ext.trans h1 h2) 4 [13] rfl (by kernel_rfl) (by kernel_rfl) (by kernel_rfl) (by kernel_rfl) rfl (fun _ _ _ _ h => h) rfl (fun K hK => ?_)
          refine quiet_cell _ _ rfl _ rfl _ _ Try.underlying23 rfl (fun W' h => World.grownBy.cell h cM (by simp)) ?_
          refine hK _ ?_
          simp only [Act.put, List.setIfInBounds_toArray, List.set_cons_succ, List.set_cons_zero]
          clear hK K
          refine takeN (fun _ => Ext.refl _) 5 rfl (by kernel_rfl) (by kernel_rfl) (by kernel_rfl) rfl (fun _ _ _ _ h => h) rfl (fun K hK => ?_)
          go_big_quiet_op
          first | refine hK _ ?_ | refine ⟨_, fun _ _ => rfl, hK _ ?_⟩
          clear hK K
          refine takeL (fun _ => Ext.refl _) (fun _ _ _ h1 h2 => Ext.trans h1 h2) 6 [13] rfl (by kernel_rfl) (by kernel_rfl) (by kernel_rfl) (by kernel_rfl) rfl (fun _ _ _ _ h => h) rfl (fun K hK => ?_)
          refine quiet_cell _ _ rfl _ rfl _ _ Try.underlying23 rfl (fun W' h => World.grownBy.cell h cA (by simp)) ?_
          refine hK _ ?_
          simp only [Act.put, List.setIfInBounds_toArray, List.set_cons_succ, List.set_cons_zero]
          clear hK K
          refine takeN (fun _ => Ext.refl _) 11 rfl (by kernel_rfl) (by kernel_rfl) (by kernel_rfl) rfl (fun _ _ _ _ h => h) rfl (fun K hK => ?_)
          go_big_quiet_op
          first | refine hK _ ?_ | refine ⟨_, fun _ _ => rfl, hK _ ?_⟩
          clear hK K
          refine stepL 7 rfl (by kernel_rfl) rfl (fun K hK => ?_)
          go_simp
          refine (HADD.out _).mono ?_
          rintro e w5 ⟨rfl, hx5⟩
          obtain rfl := hx5
          refine hK _ _ (fun _ => Ext.refl _) ?_
          clear hK K
          refine takeN (fun _ => Ext.refl _) 8 rfl (by kernel_rfl) (by kernel_rfl) (by kernel_rfl) rfl (fun _ _ _ _ h => h) rfl (fun K hK => ?_)
          go_big_quiet_op
          first | refine hK _ ?_ | refine ⟨_, fun _ _ => rfl, hK _ ?_⟩
          clear hK K
          refine takeN (fun _ => Ext.refl _) 9 rfl (by kernel_rfl) (by kernel_rfl) (by kernel_rfl) rfl (fun _ _ _ _ h => h) rfl (fun K hK => ?_)
          go_big_quiet_op
          first | refine hK _ ?_ | refine ⟨_, fun _ _ => rfl, hK _ ?_⟩
          clear hK K
          refine takeN (fun _ => Ext.refl _) 10 rfl (by kernel_rfl) (by kernel_rfl) (by kernel_rfl) rfl (fun _ _ _ _ h => h) rfl (fun K hK => ?_)
          go_big_quiet_op
          first | refine hK _ ?_ | refine ⟨_, fun _ _ => rfl, hK _ ?_⟩
          clear hK K
          refine takeN (fun _ => Ext.refl _) 12 rfl (by kernel_rfl) (by kernel_rfl) (by kernel_rfl) rfl (fun _ _ _ _ h => h) rfl (fun K hK => ?_)
          go_big_quiet_op
          first | refine hK _ ?_ | refine ⟨_, fun _ _ => rfl, hK _ ?_⟩
          clear hK K
          refine stepL 13 rfl (by kernel_rfl) rfl (fun K hK => ?_)
          have s9 : w0.cell? ⟨g11, 4, none⟩ = some (.int .u64 (s.t0 : Int)) := cM
          have f9 : w0.frozen? ⟨g11, 4, none⟩ = false := HI.out.nb.free 4
          go_simp
          refine hK _ _ (fun h => absurd rfl h) ?_
          clear hK K
          refine takeN (fun _ => Ext.refl _) 14 rfl (by kernel_rfl) (by kernel_rfl) (by kernel_rfl) rfl (fun _ _ _ _ h => h) rfl (fun K hK => ?_)
          go_big_quiet_op
          first | refine hK _ ?_ | refine ⟨_, fun _ _ => rfl, hK _ ?_⟩
          clear hK K
          refine doneL (by kernel_rfl) ?_ _
          have hI9 := HI.out.put (n1 := ({ s with round := r1, t0 := 0, cs := [] } : St)) 4 (.int .u64 ((0 : Nat) : Int)) (by simp [stc]) hg11
          generalize w0.setCell ⟨g11, 4, none⟩ (.int .u64 ((0 : Nat) : Int)) = wr at *
          have HI := Lib.hid hI9
          clear hI9 cM cA s9 f9
          have hr8 : wr.heap[w.heap.size + 3]? = some (.cells Z.toArray 27 (0, 0)) := HI.out.z
          go_wp2_with (first
            | (refine wpList_build (.inl rfl) 27 _ rfl (.agg zst.toArray) (by kernel_rfl) ?_; rw [← HZB])
            | (refine wpList_store_row _ rfl 27 (.tmp 8) (.tmp 189) rfl (w.heap.size + 3) rfl Z Z _ rfl hr8 (szSFrom HZL.out) rfl hzo ?_)
            | fail)
          have hc9 := Blk.cells (t := 27) (setRow_at (cs' := Z.toArray) hr8)
          (try simp only [Exit.inBlock, Exit.then])
          refine bodyPost_ret (results_agg_tmp rfl _ _ _ _ _ rfl Try.underlying27 rfl (szSFrom HZL.out) hc9) rfl ?_
          refine ⟨.slice none 0 0, ?_, ?_, grown_then HI.out.ext (setRow_only _) (.inr (by rintro b ⟨⟩; omega))⟩
          · rw [htl, HZB]; rfl
          · rw [htl]; exact ⟨by simp [St.zero], Own.nil _ _ _⟩
      · have hzb : (zr != 0) = true := by simpa using hzz
        have htl := hfin2 (by rw [← HZR.out]; exact hzz)
        rw [← HZR.out] at htl
        have hr8 : wr.heap[w.heap.size + 3]? = some (.cells Z.toArray 27 (0, 0)) := HI.out.z
        go_wp2_with (first
          | (refine wpList_build (.inl rfl) 27 _ rfl (.agg zst.toArray) (by kernel_rfl) ?_; rw [← HZB])
          | (refine wpList_store_row _ rfl 27 (.tmp 8) (.tmp 96) rfl (w.heap.size + 3) rfl Z Z _ rfl hr8 (szSFrom HZL.out) rfl hzo ?_)
          | fail)
        have hc9 := Blk.cells (t := 27) (setRow_at (cs' := Z.toArray) hr8)
        (try simp only [Exit.inBlock, Exit.then])
        refine bodyPost_ret (results_agg_tmp rfl _ _ _ _ _ rfl Try.underlying27 rfl (szSFrom HZL.out) hc9) rfl ?_
        refine ⟨.slice none 0 0, ?_, ?_, grown_then HI.out.ext (setRow_only _) (.inr (by rintro b ⟨⟩; omega))⟩
        · rw [htl, HZB]; rfl
        · rw [htl]; exact ⟨by simp [St.zero], Own.nil _ _ _⟩
set_option maxRecDepth 100000 in
set_option maxHeartbeats 8000000 in
theorem RNext5s1 (w : World) (F : Fp) (s : St) (p0 p1 : Nat) (v : Value) (SC PC OC Z : List Value) (sd : Int) (r1 am cid cam oid : Nat) (cside : Int) (fd : Nat → Int) (rm : Nat → Int) (hin : RNextIn w SC PC OC Z sd s.cs s.round r1 am cid cam oid 5 cside 0 fd rm sd) (hsd : sd = 1) (T : St × Int) (ham : am < M64) (hfin0 : rm am = 0 → s.t1 + am < M64 → T = finM ({ s with round := r1, t1 := s.t1 + am } : St) p0 p1) (hfin1 : rm am = 0 → ¬ s.t1 + am < M64 → T = (.zero, 11)) (hfin2 : rm am ≠ 0 → T = (.zero, rm am)) (hr1 : r1 = s.round + 1)
    (hsc : SC = stc s v) (hpc : PC = ptc p0 p1) (hs : StOk s) (hc : Conds w F v s.cs) (hF : ∀ b, F b → b < w.heap.size) (hrd' : s.round < 200) (h8 : List.length (α := Cd) s.cs ≤ 8) (hp0 : p0 < M64) (hp1 : p1 < M64) :
    Calls Try.prog 13 #[.agg SC.toArray, .agg PC.toArray, .int .i64 sd, .agg OC.toArray] w fun e w' => ∃ v', e = .returned (.tuple #[.agg (stc (T).1 v').toArray, .int .i64 (T).2]) ∧ OwnFrom w' v' (T).1.cs ∧ Ext w w' := by
  subst hsd
  obtain ⟨i1, z1, hi1, hz1, hi2, hi3, hi4⟩ := partsFrom
  obtain ⟨A, c, xs, rfl, hlc, hcm, hA, hcell, hall⟩ := conds_open hc
  clear hc
  unfold maxLen at hcm
  have hs6 : SC[6]? = some (.slice A (List.length (α := Cd) s.cs) c) := by rw [hsc]; rfl
  have hs0 : SC[0]? = some (.int .u32 (s.chan : Int)) := by rw [hsc]; rfl
  have hsm : (SC.drop 2).take 2 = ptc s.m0 s.m1 := by rw [hsc]; rfl
  have hst : (SC.drop 4).take 2 = ptc s.t0 s.t1 := by rw [hsc]; rfl
  have HPE := Lib.hid hpc
  have HR1 := Lib.hid hr1
  clear hsc hpc hr1
  obtain ⟨rd, hrd⟩ : ∃ rd, rd = s.round := ⟨_, rfl⟩
  rw [← hrd] at hin hrd'
  have hz := hin.zi
  have hzo := hin.zo
  have HZB : Hid (Z = zst) := hin.zE
  have HSL := Lib.hid hin.sl
  have HPL := Lib.hid hin.pl
  have HOL := Lib.hid hin.ol
  have HZL := Lib.hid hin.zl
  have hb0 : Blk ((((w.alloc (.cells SC.toArray 27)).alloc (.cells PC.toArray 24)).alloc (.cells OC.toArray 32)).alloc (.cells Z.toArray 27)) w.heap.size 27 SC := (Blk.new _ _ _).keep ((((Ext.refl _).alloc _).alloc _).alloc _) (by simp)
  have hb1 : Blk ((((w.alloc (.cells SC.toArray 27)).alloc (.cells PC.toArray 24)).alloc (.cells OC.toArray 32)).alloc (.cells Z.toArray 27)) (w.heap.size + 1) 24 PC := (Blk.new_at (by simp) _ _).keep (((Ext.refl _).alloc _).alloc _) (by simp)
  have hb2 : Blk ((((w.alloc (.cells SC.toArray 27)).alloc (.cells PC.toArray 24)).alloc (.cells OC.toArray 32)).alloc (.cells Z.toArray 27)) (w.heap.size + 2) 32 OC := (Blk.new_at (by simp) _ _).keep ((Ext.refl _).alloc _) (by simp)
  have hb3 : Blk ((((w.alloc (.cells SC.toArray 27)).alloc (.cells PC.toArray 24)).alloc (.cells OC.toArray 32)).alloc (.cells Z.toArray 27)) (w.heap.size + 3) 27 Z := Blk.new_at (by simp) _ _
  have hx0 : Ext w ((((w.alloc (.cells SC.toArray 27)).alloc (.cells PC.toArray 24)).alloc (.cells OC.toArray 32)).alloc (.cells Z.toArray 27)) := ((((Ext.refl w).alloc _).alloc _).alloc _).alloc _
  have hcs := hb0.cells
  have hcp := hb1.cells
  have HB0 := Lib.hid hb0
  have HB1 := Lib.hid hb1
  have HB2 := Lib.hid hb2
  have HB3 := Lib.hid hb3
  have HX0 := Lib.hid hx0
  have HIN := Lib.hid hin
  clear hb0 hb1 hb2 hb3 hx0 hin
  have c1' : ∀ W, Ext ((((w.alloc (.cells SC.toArray 27)).alloc (.cells PC.toArray 24)).alloc (.cells OC.toArray 32)).alloc (.cells Z.toArray 27)) W → W.cell? ⟨w.heap.size, 1, none⟩ = some (.int .u64 (rd : Int)) := fun W h => ((HB0.out.keep h (by simp)).cell 1).trans HIN.out.s1
  have C1 := Lib.hid c1'
  have hrb : ((rd : Int) == 200) = false := by rw [beq_eq_false_iff_ne]; omega
  have htb : (((1 : Int)) != 1) = false := bne_self_eq_false _
  have hw1 := HIN.out.w1
  have HRD := Lib.hid hrd
  clear c1' hrd
  go_enter Try.func13, Try.ntmps13
  go_wp2_with (first
    | (refine wpList_alloc _ rfl 27 rfl _ hz ?_)
    | (refine wpList_load_agg _ rfl 27 (.tmp 4) rfl _ rfl SC _ Try.underlying27 rfl (szSFrom HSL.out) hcs ?_)
    | (refine wpList_load_agg _ rfl 24 (.tmp 5) rfl _ rfl PC _ Try.underlying24 rfl (by rw [HPL.out]; kernel_rfl) hcp ?_)
    | fail)
  refine (HIN.out.sn _ HX0.out).mono ?_
  rintro e w1 ⟨rfl, hx1⟩
  have d1 := C1.out w1 hx1
  have hbs := HB0.out.keep hx1 (by simp)
  have d0 := (hbs.cell 0).trans hs0
  have hm2 : Cells w1 ⟨w.heap.size, 2, none⟩ (ptc s.m0 s.m1) := by have h := (hbs.cells.drop 2).take 2; rw [hsm] at h; simpa [Addr.add] using h
  have ht4 : Cells w1 ⟨w.heap.size, 4, none⟩ (ptc s.t0 s.t1) := by have h := (hbs.cells.drop 4).take 2; rw [hst] at h; simpa [Addr.add] using h
  have k0 : (w1.alloc (.cells (stc { s with round := r1, cs := [] } (.slice none 0 0)).toArray 27)).cell? ⟨w.heap.size + 2, 0, none⟩ = some (.int .i64 5) := ((HB2.out.keep (hx1.alloc _) (by simp)).cell 0).trans HIN.out.o0
  have hI : RInv w (w1.alloc (.cells (stc { s with round := r1, cs := [] } (.slice none 0 0)).toArray 27)) SC PC OC Z w1.heap.size { s with round := r1, cs := [] } (.slice none 0 0) [] := by
    have hx := hx1.alloc (.cells (stc { s with round := r1, cs := [] } (.slice none 0 0)).toArray 27)
    exact ⟨HX0.out.trans hx, HB0.out.keep hx (by simp), HB1.out.keep hx (by simp), HB2.out.keep hx (by simp), HB3.out.keep hx (by simp), Blk.new _ _ _, ⟨by simp, Own.nil _ _ _⟩, by simp [Value.ownBlock]⟩
  have hg11 : w.heap.size + 4 ≤ w1.heap.size := by have h1 := HB3.out.lt; have h2 := hx1.size; omega
  have HI := Lib.hid hI
  clear hI hbs
  go_wp2_with (first
    | (go_at_call 30; refine (HIN.out.turn _).mono ?_; rintro e _ ⟨rfl, rfl⟩)
    | (refine wpList_load_agg _ rfl 24 (.tmp 39) rfl _ rfl (ptc s.m0 s.m1) _ Try.underlying24 rfl (n2_size rfl) hm2 ?_)
    | (refine wpList_load_agg _ rfl 24 (.tmp 41) rfl _ rfl (ptc s.t0 s.t1) _ Try.underlying24 rfl (n2_size rfl) ht4 ?_)
    | (refine wpList_build (.inl rfl) 27 _ rfl (.agg (stc { s with round := r1, cs := [] } (.slice none 0 0)).toArray) (by kernel_rfl) ?_)
    | (refine wpList_alloc _ rfl 27 rfl _ hz ?_)
    | (refine wpList_store_new _ rfl 27 (.tmp 11) (.tmp 43) rfl rfl Z (stc { s with round := r1, cs := [] } (.slice none 0 0)) _ rfl (szSFrom rfl) (by rw [HZL.out]; rfl) (stc_one _ _ _ _) ?_)
    | fail
    | fail)
  generalize w1.alloc (.cells (stc { s with round := r1, cs := [] } (.slice none 0 0)).toArray 27) = w2 at *
  generalize w1.heap.size = g11 at *
  clear k0
  go_loopw [13] (fun i wr => ∃ (j : Nat) (v' : Value), j ≤ List.length (α := Cd) s.cs ∧ i = .int .i64 j ∧ RInv w wr SC PC OC Z g11 { s with round := r1, cs := [] } v' (keptM s.cs none j)) (fun i _ => List.length (α := Cd) s.cs - (intOf i).toNat)
  case atStart => exact ⟨0, .slice none 0 0, by omega, rfl, by rw [kept_zero]; exact HI.out⟩
  case round =>
    clear HI
    obtain ⟨j, v', hj, rfl, hI⟩ := hrel
    have HI := Lib.hid hI
    clear hI
    have e6 : wr.cell? ⟨w.heap.size, 6, none⟩ = some (.slice A (List.length (α := Cd) s.cs) c) := (HI.out.sc.cell 6).trans hs6
    by_cases hlt : j < List.length (α := Cd) s.cs
    · obtain ⟨ad, rfl, hf, hcells⟩ := hcell (by omega)
      have hjb : ((j : Int) != -1) = true := by rw [bne_iff_ne]; omega
      obtain ⟨hcc, hok⟩ := conds_at hall (hcells.keep (HI.out.ext.same hF _ hf)) hlt
      have hks := kept_step s.cs none j hlt (by simp)
      have hkl := kept_len s.cs none j
      have hone := condCells_one s.cs[j]
      have HCL := Lib.hid (condCells_len hok)
      generalize hck : s.cs[j] = ck at *
      generalize hCE : condCells ck = C at *
      have HCE := Lib.hid hCE
      have HKS := Lib.hid hks
      have HKL := Lib.hid hkl
      have HOKC := Lib.hid hok
      clear hks hkl hcells hCE hok hck
      go_wp2
      have hcc : Cells wr.drew (ad.add (j * 36)) C := hcc
      have hd6 : wr.drew.cell? ⟨w.heap.size, 6, none⟩ = some (.slice (some ad) (List.length (α := Cd) s.cs) c) := e6
      have HI := Lib.hid (HI.out.ext' (Ext.refl wr).drew)
      refine startL 10 (KeepB fun b => b = g11 ∨ b ≤ w.heap.size) (by kernel_rfl) ?_
      (try simp only [Act.put, List.setIfInBounds_toArray, List.set_cons_succ, List.set_cons_zero])
      generalize wr.drew = w0 at *
      have hc6 : w0.cell? ⟨g11, 6, none⟩ = some v' := (HI.out.nb.cell 6).trans rfl
      have C6 := Lib.hid hc6
      have D6 := Lib.hid hd6
      have HCC := Lib.hid hcc
      clear hc6 hd6 hcc e6
      refine takeN (fun _ _ _ => rfl) 0 rfl (by kernel_rfl) (by kernel_rfl) (by kernel_rfl) rfl (fun _ _ _ _ h => h) rfl (fun K hK => ?_)
      go_big_quiet_op
      first | refine hK _ ?_ | refine ⟨_, fun _ _ => rfl, hK _ ?_⟩
      clear hK K
      refine takeL (fun _ _ _ => rfl) (fun _ _ _ h1 h2 b hb => (h2 b hb).trans (h1 b hb)) 1 [10] rfl (by kernel_rfl) (by kernel_rfl) (by kernel_rfl) (by kernel_rfl) rfl (fun _ _ _ _ h => h) rfl (fun K hK => ?_)
      refine quiet_cell _ _ rfl _ rfl _ _ Try.underlying25 rfl (fun W' h => KeepB.cell h C6.out (by simp)) ?_
      refine hK _ ?_
      simp only [Act.put, List.setIfInBounds_toArray, List.set_cons_succ, List.set_cons_zero]
      clear hK K
      refine takeN (fun _ _ _ => rfl) 2 rfl (by kernel_rfl) (by kernel_rfl) (by kernel_rfl) rfl (fun _ _ _ _ h => h) rfl (fun K hK => ?_)
      go_big_quiet_op
      first | refine hK _ ?_ | refine ⟨_, fun _ _ => rfl, hK _ ?_⟩
      clear hK K
      refine takeL (fun _ _ _ => rfl) (fun _ _ _ h1 h2 b hb => (h2 b hb).trans (h1 b hb)) 3 [10] rfl (by kernel_rfl) (by kernel_rfl) (by kernel_rfl) (by kernel_rfl) rfl (fun _ _ _ _ h => h) rfl (fun K hK => ?_)
      refine quiet_cell _ _ rfl _ rfl _ _ Try.underlying25 rfl (fun W' h => KeepB.cell h D6.out (by simp)) ?_
      refine hK _ ?_
      simp only [Act.put, List.setIfInBounds_toArray, List.set_cons_succ, List.set_cons_zero]
      clear hK K
      refine takeN (fun _ _ _ => rfl) 4 rfl (by kernel_rfl) (by kernel_rfl) (by kernel_rfl) rfl (fun _ _ _ _ h => h) rfl (fun K hK => ?_)
      go_big_quiet_op
      first | refine hK _ ?_ | refine ⟨_, fun _ _ => rfl, hK _ ?_⟩
      clear hK K
      refine takeN (fun _ _ _ => rfl) 5 rfl (by kernel_rfl) (by kernel_rfl) (by kernel_rfl) rfl (fun _ _ _ _ h => h) rfl (fun K hK => ?_)
      go_big_quiet_op
      first | refine hK _ ?_ | refine ⟨_, fun _ _ => rfl, hK _ ?_⟩
      clear hK K
      refine takeL (fun _ _ _ => rfl) (fun _ _ _ h1 h2 b hb => (h2 b hb).trans (h1 b hb)) 6 [10] rfl (by kernel_rfl) (by kernel_rfl) (by kernel_rfl) (by kernel_rfl) rfl (fun _ _ _ _ h => h) rfl (fun K hK => ?_)
      refine quiet_agg 30 (.tmp 74) rfl _ rfl C _ Try.underlying30 rfl (szDFrom HCL.out) (fun W' h => KeepB.cells h HCC.out (.inr (by rw [add_block]; have := hF _ hf; omega))) ?_
      refine hK _ ?_
      simp only [Act.put, List.setIfInBounds_toArray, List.set_cons_succ, List.set_cons_zero]
      clear hK K
      refine stepL 7 rfl (by kernel_rfl) rfl (fun K hK => ?_)
      refine wp_one w0 25 (.tmp 75) rfl 30 C Try.underlying25 rfl (szDFrom HCL.out) zDFrom (by rw [HCL.out]; decide) (by rw [HCL.out]; decide) ?_
      refine hK _ _ (fun _ b hb => ((Ext.refl w0).alloc _).block b (by have h1 := HI.out.nb.lt; have h2 := HI.out.sc.lt; rcases hb with rfl | hb <;> omega) (by simp)) ?_
      clear hK K
      (try simp only [Act.put, List.setIfInBounds_toArray, List.set_cons_succ, List.set_cons_zero])
      refine stepL 8 rfl (by kernel_rfl) rfl (fun K hK => ?_)
      refine wp_app _ (.tmp 70) (.tmp 76) _ _ rfl 30 30 i1 z1 36 64 Try.underlying25 Try.underlying25 hi1 hz1 hi2 hi3 hi4 (by decide) _ _ _ rfl (HI.out.own.2.ext ((Ext.refl w0).alloc _)) _ 1 1 C rfl (by rw [HCL.out]) (src_new_at rfl C _ 1) hone (by have := HKL.out; unfold maxLen; omega) (by have := HKL.out; omega) ?_
      intro v7 w7 ho7 hm7
      obtain ⟨A7, c7, hv7⟩ := Own.form ho7
      subst hv7
      refine hK _ _ (fun _ b hb => hm7.grown.block b (by have h1 := HI.out.nb.lt; have h2 := HI.out.sc.lt; simp; rcases hb with rfl | hb <;> omega) (fun e => by have h9 := HI.out.far b e.symm; rcases hb with hb | hb <;> omega)) ?_
      clear hK K
      (try simp only [Act.put, List.setIfInBounds_toArray, List.set_cons_succ, List.set_cons_zero])
      refine takeN (fun _ _ _ => rfl) 9 rfl (by kernel_rfl) (by kernel_rfl) (by kernel_rfl) rfl (fun _ _ _ _ h => h) rfl (fun K hK => ?_)
      go_big_quiet_op
      first | refine hK _ ?_ | refine ⟨_, fun _ _ => rfl, hK _ ?_⟩
      clear hK K
      refine stepL 10 rfl (by kernel_rfl) rfl (fun K hK => ?_)
      have HB7 := Lib.hid ((HI.out.nb.keep ((Ext.refl w0).alloc (.cells C.toArray 30)) (by simp)).keep hm7.grown (fun e => (HI.out.far _ e.symm).2 rfl))
      have s9 : w7.cell? ⟨g11, 6, none⟩ = some v' := (HB7.out.cell 6).trans rfl
      have f9 : w7.frozen? ⟨g11, 6, none⟩ = false := HB7.out.free 6
      go_simp
      refine hK _ _ (fun h => absurd rfl h) ?_
      clear hK K
      refine doneL (by kernel_rfl) ?_ _
      have hI8 := HI.out.grow ((Ext.refl w0).alloc (.cells C.toArray 30)) hm7 (by rw [HCE.out]; exact ho7) HOKC.out hg11
      have HI8 := Lib.hid hI8
      clear hI8 s9 f9 ho7
      go_wp2
      go_roundw
      case rel => exact ⟨j + 1, _, by omega, by go_num, by rw [HKS.out]; exact HI8.out⟩
      case measure => simp [intOf]; omega
    · obtain rfl : j = List.length (α := Cd) s.cs := by omega
      have hkf : keptM s.cs none (List.length (α := Cd) s.cs) = s.cs := List.take_length
      have k0 : wr.cell? ⟨w.heap.size + 2, 0, none⟩ = some (.int .i64 5) := (HI.out.oc.cell 0).trans HIN.out.o0
      have k1 : wr.cell? ⟨w.heap.size + 2, 1, none⟩ = some (.int .u64 (am : Int)) := (HI.out.oc.cell 1).trans HIN.out.o1
      have hcs3 := HI.out.sc.cells
      have hcp3 := HI.out.pc.cells
      have hrm := HIN.out.room wr HI.out.ext am ham
      go_wp2_with (first
        | (refine wpList_load_agg _ rfl 27 (.tmp 4) rfl _ rfl SC _ Try.underlying27 rfl (szSFrom HSL.out) hcs3 ?_)
        | (refine wpList_load_agg _ rfl 24 (.tmp 5) rfl _ rfl PC _ Try.underlying24 rfl (n2_size HPL.out) hcp3 ?_)
        | fail)
      refine hrm.mono ?_
      rintro e w6 ⟨rfl, hx6⟩
      have HI := Lib.hid (HI.out.ext' hx6)
      clear k0 k1 hcs3 hcp3 hx6 hrm
      generalize w6 = wr at *
      have k0 : wr.cell? ⟨w.heap.size + 2, 0, none⟩ = some (.int .i64 5) := (HI.out.oc.cell 0).trans HIN.out.o0
      obtain ⟨zr, hzr⟩ : ∃ zr, zr = rm am := ⟨_, rfl⟩
      rw [← hzr]
      have HZR := Lib.hid hzr
      clear hzr
      by_cases hzz : zr = 0
      · subst hzz
        have hadd := fun W => RAdd s.t1 am W hs.t1 ham
        by_cases hov : s.t1 + am < M64
        · have ea : addM s.t1 am = (s.t1 + am, 0) := by unfold addM; rw [if_pos hov]
          have htl := hfin0 HZR.out.symm hov
          rw [ea] at hadd
          simp only [numErr] at hadd
          have HADD := Lib.hid hadd
          clear hadd ea
          go_wp2
          refine startL 13 Since (by kernel_rfl) ?_
          (try simp only [Act.put, List.setIfInBounds_toArray, List.set_cons_succ, List.set_cons_zero])
          have HI := Lib.hid (HI.out.ext' (Ext.refl _).drew)
          generalize World.drew _ = w0 at *
          have cM : w0.cell? ⟨g11, 5, none⟩ = some (.int .u64 (s.t1 : Int)) := (HI.out.nb.cell 5).trans rfl
          have cA : w0.cell? ⟨w.heap.size + 2, 1, none⟩ = some (.int .u64 (am : Int)) := (HI.out.oc.cell 1).trans HIN.out.o1
          refine takeN (fun _ => Ext.refl _) 0 rfl (by kernel_rfl) (by kernel_rfl) (by kernel_rfl) rfl (fun _ _ _ _ h => h) rfl (fun K hK => ?_)
          go_big_quiet_op
          first | refine hK _ ?_ | refine ⟨_, fun _ _ => rfl, hK _ ?_⟩
          clear hK K
          refine takeN (fun _ => Ext.refl _) 1 rfl (by kernel_rfl) (by kernel_rfl) (by kernel_rfl) rfl (fun _ _ _ _ h => h) rfl (fun K hK => ?_)
          go_big_quiet_op
          first | refine hK _ ?_ | refine ⟨_, fun _ _ => rfl, hK _ ?_⟩
          clear hK K
          refine takeN (fun _ => Ext.refl _) 2 rfl (by kernel_rfl) (by kernel_rfl) (by kernel_rfl) rfl (fun _ _ _ _ h => h) rfl (fun K hK => ?_)
          go_big_quiet_op
          first | refine hK _ ?_ | refine ⟨_, fun _ _ => rfl, hK _ ?_⟩
          clear hK K
          refine takeN (fun _ => Ext.refl _) 3 rfl (by kernel_rfl) (by kernel_rfl) (by kernel_rfl) rfl (fun _ _ _ _ h => h) rfl (fun K hK => ?_)
          go_big_quiet_op
          first | refine hK _ ?_ | refine ⟨_, fun _ _ => rfl, hK _ ?_⟩
          clear hK K
          refine takeL (fun _ => Ext.refl _) (fun _ _ _ h1 h2 => Ext.trans h1 h2) 4 [13] rfl (by kernel_rfl) (by kernel_rfl) (by kernel_rfl) (by kernel_rfl) rfl (fun _ _ _ _ h => h) rfl (fun K hK => ?_)
          refine quiet_cell _ _ rfl _ rfl _ _ Try.underlying23 rfl (fun W' h => World.grownBy.cell h cM (by simp)) ?_
          refine hK _ ?_
          simp only [Act.put, List.setIfInBounds_toArray, List.set_cons_succ, List.set_cons_zero]
          clear hK K
          refine takeN (fun _ => Ext.refl _) 5 rfl (by kernel_rfl) (by kernel_rfl) (by kernel_rfl) rfl (fun _ _ _ _ h => h) rfl (fun K hK => ?_)
          go_big_quiet_op
          first | refine hK _ ?_ | refine ⟨_, fun _ _ => rfl, hK _ ?_⟩
          clear hK K
          refine takeL (fun _ => Ext.refl _) (fun _ _ _ h1 h2 => Ext.trans h1 h2) 6 [13] rfl (by kernel_rfl) (by kernel_rfl) (by kernel_rfl) (by kernel_rfl) rfl (fun _ _ _ _ h => h) rfl (fun K hK => ?_)
          refine quiet_cell _ _ rfl _ rfl _ _ Try.underlying23 rfl (fun W' h => World.grownBy.cell h cA (by simp)) ?_
          refine hK _ ?_
          simp only [Act.put, List.setIfInBounds_toArray, List.set_cons_succ, List.set_cons_zero]
          clear hK K
          refine takeN (fun _ => Ext.refl _) 11 rfl (by kernel_rfl) (by kernel_rfl) (by kernel_rfl) rfl (fun _ _ _ _ h => h) rfl (fun K hK => ?_)
          go_big_quiet_op
          first | refine hK _ ?_ | refine ⟨_, fun _ _ => rfl, hK _ ?_⟩
          clear hK K
          refine stepL 7 rfl (by kernel_rfl) rfl (fun K hK => ?_)
          go_simp
          refine (HADD.out _).mono ?_
          rintro e w5 ⟨rfl, hx5⟩
          obtain rfl := hx5
          refine hK _ _ (fun _ => Ext.refl _) ?_
          clear hK K
          refine takeN (fun _ => Ext.refl _) 8 rfl (by kernel_rfl) (by kernel_rfl) (by kernel_rfl) rfl (fun _ _ _ _ h => h) rfl (fun K hK => ?_)
          go_big_quiet_op
          first | refine hK _ ?_ | refine ⟨_, fun _ _ => rfl, hK _ ?_⟩
          clear hK K
          refine takeN (fun _ => Ext.refl _) 9 rfl (by kernel_rfl) (by kernel_rfl) (by kernel_rfl) rfl (fun _ _ _ _ h => h) rfl (fun K hK => ?_)
          go_big_quiet_op
          first | refine hK _ ?_ | refine ⟨_, fun _ _ => rfl, hK _ ?_⟩
          clear hK K
          refine takeN (fun _ => Ext.refl _) 10 rfl (by kernel_rfl) (by kernel_rfl) (by kernel_rfl) rfl (fun _ _ _ _ h => h) rfl (fun K hK => ?_)
          go_big_quiet_op
          first | refine hK _ ?_ | refine ⟨_, fun _ _ => rfl, hK _ ?_⟩
          clear hK K
          refine takeN (fun _ => Ext.refl _) 12 rfl (by kernel_rfl) (by kernel_rfl) (by kernel_rfl) rfl (fun _ _ _ _ h => h) rfl (fun K hK => ?_)
          go_big_quiet_op
          first | refine hK _ ?_ | refine ⟨_, fun _ _ => rfl, hK _ ?_⟩
          clear hK K
          refine stepL 13 rfl (by kernel_rfl) rfl (fun K hK => ?_)
          have s9 : w0.cell? ⟨g11, 5, none⟩ = some (.int .u64 (s.t1 : Int)) := cM
          have f9 : w0.frozen? ⟨g11, 5, none⟩ = false := HI.out.nb.free 5
          go_simp
          refine hK _ _ (fun h => absurd rfl h) ?_
          clear hK K
          refine takeN (fun _ => Ext.refl _) 14 rfl (by kernel_rfl) (by kernel_rfl) (by kernel_rfl) rfl (fun _ _ _ _ h => h) rfl (fun K hK => ?_)
          go_big_quiet_op
          first | refine hK _ ?_ | refine ⟨_, fun _ _ => rfl, hK _ ?_⟩
          clear hK K
          refine doneL (by kernel_rfl) ?_ _
          have hI9 := HI.out.put (n1 := ({ s with round := r1, t1 := s.t1 + am, cs := [] } : St)) 5 (.int .u64 ((s.t1 : Int) + (am : Int) : Int)) (by simp [stc]) hg11
          generalize w0.setCell ⟨g11, 5, none⟩ (.int .u64 ((s.t1 : Int) + (am : Int) : Int)) = wr at *
          have HI := Lib.hid hI9
          clear hI9 cM cA s9 f9
          have hmo : StOk ({ s with round := r1, t1 := s.t1 + am } : St) := ⟨hs.chan, by show r1 < M64; rw [HR1.out]; unfold M64; have := HRD.out; omega, hs.m0, hs.m1, hs.t0, (by show s.t1 + am < M64; exact hov)⟩
          have hnb : Blk wr g11 27 (stc ({ s with round := r1, t1 := s.t1 + am } : St) v') := HI.out.nb
          have hown : OwnFrom wr v' (St.cs ({ s with round := r1, t1 := s.t1 + am } : St)) := by have h := HI.out.own; rw [hkf] at h; exact h
          have hsm := RSoundC ({ s with round := r1, t1 := s.t1 + am } : St) v' p0 p1 wr _ hmo hp0 hp1 (ownFrom_holds hown) (ownFrom_lt hown)
          rw [← HPE.out] at hsm
          have hml : (stc ({ s with round := r1, t1 := s.t1 + am } : St) v').length = 7 := rfl
          have hmone : ∀ u ∈ stc ({ s with round := r1, t1 := s.t1 + am } : St) v', u.oneCell' = true := by obtain ⟨A2, c2, h⟩ := hown.2.form; rw [h]; exact stc_one _ _ _ _
          obtain ⟨MC, hMC⟩ : ∃ MC, MC = stc ({ s with round := r1, t1 := s.t1 + am } : St) v' := ⟨_, rfl⟩
          rw [← hMC] at hnb hsm hml hmone
          obtain ⟨zm, hzm⟩ : ∃ zm, zm = soundM ({ s with round := r1, t1 := s.t1 + am } : St) p0 p1 := ⟨_, rfl⟩
          rw [← hzm] at hsm
          have hcm2 := hnb.cells
          have hcp2 := HI.out.pc.cells
          have HMC := Lib.hid hMC
          have HZM := Lib.hid hzm
          have HML := Lib.hid hml
          have HNB := Lib.hid hnb
          have HOWN := Lib.hid hown
          clear hMC hzm hml hnb hown hmo
          go_wp2_with (first
            | (refine wpList_load_agg _ rfl 27 (.tmp 11) rfl _ rfl MC _ Try.underlying27 rfl (szSFrom HML.out) hcm2 ?_)
            | (refine wpList_load_agg _ rfl 24 (.tmp 5) rfl _ rfl PC _ Try.underlying24 rfl (n2_size HPL.out) hcp2 ?_)
            | fail)
          refine hsm.mono ?_
          rintro e w5 ⟨rfl, hx5⟩
          have hr8 : w5.heap[w.heap.size + 3]? = some (.cells Z.toArray 27 (0, 0)) := HI.out.z.keep hx5 (by simp)
          have hcm2 := (HNB.out.keep hx5 (by simp)).cells
          by_cases hz0 : zm = 0
          · subst hz0
            go_wp2_with (first
              | (refine wpList_load_agg _ rfl 27 (.tmp 11) rfl _ rfl MC _ Try.underlying27 rfl (szSFrom HML.out) hcm2 ?_)
              | (refine wpList_store_row _ rfl 27 (.tmp 8) (.tmp 198) rfl (w.heap.size + 3) rfl Z MC _ rfl hr8 (szSFrom HML.out) (by rw [HML.out, HZL.out]) hmone ?_)
              | fail)
            have hc9 := Blk.cells (t := 27) (setRow_at (cs' := MC.toArray) hr8)
            (try simp only [Exit.inBlock, Exit.then])
            refine bodyPost_ret (results_agg_tmp rfl _ _ _ _ _ rfl Try.underlying27 rfl (szSFrom HML.out) hc9) rfl ?_
            have hfin : finM ({ s with round := r1, t1 := s.t1 + am } : St) p0 p1 = (({ s with round := r1, t1 := s.t1 + am } : St), 0) := by unfold finM; rw [if_neg (by rw [← HZM.out]; simp)]
            refine ⟨v', ?_, ?_, grown_then (HI.out.ext.trans hx5) (setRow_only _) (.inr (by rintro b ⟨⟩; omega))⟩
            · rw [htl, hfin, HMC.out]; rfl
            · rw [htl, hfin]
              exact ⟨HOWN.out.1, (HOWN.out.2.ext hx5).keep (row := some (w.heap.size + 3)) (setRow_only _) (by
                cases hvb : v'.ownBlock with
                | none => exact .inl rfl
                | some b => exact .inr (by have := (HI.out.far b hvb).1; simp; omega))⟩
          · have hzb : (zm != 0) = true := by simpa using hz0
            go_wp2_with (first
              | (refine wpList_build (.inl rfl) 27 _ rfl (.agg zst.toArray) (by kernel_rfl) ?_; rw [← HZB])
              | (refine wpList_store_row _ rfl 27 (.tmp 8) (.tmp 196) rfl (w.heap.size + 3) rfl Z Z _ rfl hr8 (szSFrom HZL.out) rfl hzo ?_)
              | fail)
            have hc9 := Blk.cells (t := 27) (setRow_at (cs' := Z.toArray) hr8)
            (try simp only [Exit.inBlock, Exit.then])
            refine bodyPost_ret (results_agg_tmp rfl _ _ _ _ _ rfl Try.underlying27 rfl (szSFrom HZL.out) hc9) rfl ?_
            have hfin : finM ({ s with round := r1, t1 := s.t1 + am } : St) p0 p1 = (.zero, zm) := by unfold finM; rw [if_pos (by rw [← HZM.out]; exact hz0), HZM.out]
            refine ⟨.slice none 0 0, ?_, ?_, grown_then (HI.out.ext.trans hx5) (setRow_only _) (.inr (by rintro b ⟨⟩; omega))⟩
            · rw [htl, hfin, HZB.out]; rfl
            · rw [htl, hfin]; exact ⟨by simp [St.zero], Own.nil _ _ _⟩
        · have ea : addM s.t1 am = (0, 11) := by unfold addM; rw [if_neg hov]
          have htl := hfin1 HZR.out.symm hov
          rw [ea] at hadd
          simp only [numErr] at hadd
          have HADD := Lib.hid hadd
          clear hadd ea
          go_wp2
          refine startL 13 Since (by kernel_rfl) ?_
          (try simp only [Act.put, List.setIfInBounds_toArray, List.set_cons_succ, List.set_cons_zero])
          have HI := Lib.hid (HI.out.ext' (Ext.refl _).drew)
          generalize World.drew _ = w0 at *
          have cM : w0.cell? ⟨g11, 5, none⟩ = some (.int .u64 (s.t1 : Int)) := (HI.out.nb.cell 5).trans rfl
          have cA : w0.cell? ⟨w.heap.size + 2, 1, none⟩ = some (.int .u64 (am : Int)) := (HI.out.oc.cell 1).trans HIN.out.o1
          refine takeN (fun _ => Ext.refl _) 0 rfl (by kernel_rfl) (by kernel_rfl) (by kernel_rfl) rfl (fun _ _ _ _ h => h) rfl (fun K hK => ?_)
          go_big_quiet_op
          first | refine hK _ ?_ | refine ⟨_, fun _ _ => rfl, hK _ ?_⟩
          clear hK K
          refine takeN (fun _ => Ext.refl _) 1 rfl (by kernel_rfl) (by kernel_rfl) (by kernel_rfl) rfl (fun _ _ _ _ h => h) rfl (fun K hK => ?_)
          go_big_quiet_op
          first | refine hK _ ?_ | refine ⟨_, fun _ _ => rfl, hK _ ?_⟩
          clear hK K
          refine takeN (fun _ => Ext.refl _) 2 rfl (by kernel_rfl) (by kernel_rfl) (by kernel_rfl) rfl (fun _ _ _ _ h => h) rfl (fun K hK => ?_)
          go_big_quiet_op
          first | refine hK _ ?_ | refine ⟨_, fun _ _ => rfl, hK _ ?_⟩
          clear hK K
          refine takeN (fun _ => Ext.refl _) 3 rfl (by kernel_rfl) (by kernel_rfl) (by kernel_rfl) rfl (fun _ _ _ _ h => h) rfl (fun K hK => ?_)
          go_big_quiet_op
          first | refine hK _ ?_ | refine ⟨_, fun _ _ => rfl, hK _ ?_⟩
          clear hK K
          refine takeL (fun _ => Ext.refl _) (fun _ _ _ h1 h2 => Ext.trans h1 h2) 4 [13] rfl (by kernel_rfl) (by kernel_rfl) (by kernel_rfl) (by kernel_rfl) rfl (fun _ _ _ _ h => h) rfl (fun K hK => ?_)
          refine quiet_cell _ _ rfl _ rfl _ _ Try.underlying23 rfl (fun W' h => World.grownBy.cell h cM (by simp)) ?_
          refine hK _ ?_
          simp only [Act.put, List.setIfInBounds_toArray, List.set_cons_succ, List.set_cons_zero]
          clear hK K
          refine takeN (fun _ => Ext.refl _) 5 rfl (by kernel_rfl) (by kernel_rfl) (by kernel_rfl) rfl (fun _ _ _ _ h => h) rfl (fun K hK => ?_)
          go_big_quiet_op
          first | refine hK _ ?_ | refine ⟨_, fun _ _ => rfl, hK _ ?_⟩
          clear hK K
          refine takeL (fun _ => Ext.refl _) (fun _ _ _ h1 h2 => Ext.trans h1 h2) 6 [13] rfl (by kernel_rfl) (by kernel_rfl) (by kernel_rfl) (by kernel_rfl) rfl (fun _ _ _ _ h => h) rfl (fun K hK => ?_)
          refine quiet_cell _ _ rfl _ rfl _ _ Try.underlying23 rfl (fun W' h => World.grownBy.cell h cA (by simp)) ?_
          refine hK _ ?_
          simp only [Act.put, List.setIfInBounds_toArray, List.set_cons_succ, List.set_cons_zero]
          clear hK K
          refine takeN (fun _ => Ext.refl _) 11 rfl (by kernel_rfl) (by kernel_rfl) (by kernel_rfl) rfl (fun _ _ _ _ h => h) rfl (fun K hK => ?_)
          go_big_quiet_op
          first | refine hK _ ?_ | refine ⟨_, fun _ _ => rfl, hK _ ?_⟩
          clear hK K
          refine stepL 7 rfl (by kernel_rfl) rfl (fun K hK => ?_)
          go_simp
          refine (HADD.out _).mono ?_
          rintro e w5 ⟨rfl, hx5⟩
          obtain rfl := hx5
          refine hK _ _ (fun _ => Ext.refl _) ?_
          clear hK K
          refine takeN (fun _ => Ext.refl _) 8 rfl (by kernel_rfl) (by kernel_rfl) (by kernel_rfl) rfl (fun _ _ _ _ h => h) rfl (fun K hK => ?_)
          go_big_quiet_op
          first | refine hK _ ?_ | refine ⟨_, fun _ _ => rfl, hK _ ?_⟩
          clear hK K
          refine takeN (fun _ => Ext.refl _) 9 rfl (by kernel_rfl) (by kernel_rfl) (by kernel_rfl) rfl (fun _ _ _ _ h => h) rfl (fun K hK => ?_)
          go_big_quiet_op
          first | refine hK _ ?_ | refine ⟨_, fun _ _ => rfl, hK _ ?_⟩
          clear hK K
          refine takeN (fun _ => Ext.refl _) 10 rfl (by kernel_rfl) (by kernel_rfl) (by kernel_rfl) rfl (fun _ _ _ _ h => h) rfl (fun K hK => ?_)
          go_big_quiet_op
          first | refine hK _ ?_ | refine ⟨_, fun _ _ => rfl, hK _ ?_⟩
          clear hK K
          refine takeN (fun _ => Ext.refl _) 12 rfl (by kernel_rfl) (by kernel_rfl) (by kernel_rfl) rfl (fun _ _ _ _ h => h) rfl (fun K hK => ?_)
          go_big_quiet_op
          first | refine hK _ ?_ | refine ⟨_, fun _ _ => rfl, hK _ ?_⟩
          clear hK K
          refine stepL 13 rfl (by kernel_rfl) rfl (fun K hK => ?_)
          have s9 : w0.cell? ⟨g11, 5, none⟩ = some (.int .u64 (s.t1 : Int)) := cM
          have f9 : w0.frozen? ⟨g11, 5, none⟩ = false := HI.out.nb.free 5
          go_simp
          refine hK _ _ (fun h => absurd rfl h) ?_
          clear hK K
          refine takeN (fun _ => Ext.refl _) 14 rfl (by kernel_rfl) (by kernel_rfl) (by kernel_rfl) rfl (fun _ _ _ _ h => h) rfl (fun K hK => ?_)
          go_big_quiet_op
          first | refine hK _ ?_ | refine ⟨_, fun _ _ => rfl, hK _ ?_⟩
          clear hK K
          refine doneL (by kernel_rfl) ?_ _
          have hI9 := HI.out.put (n1 := ({ s with round := r1, t1 := 0, cs := [] } : St)) 5 (.int .u64 ((0 : Nat) : Int)) (by simp [stc]) hg11
          generalize w0.setCell ⟨g11, 5, none⟩ (.int .u64 ((0 : Nat) : Int)) = wr at *
          have HI := Lib.hid hI9
          clear hI9 cM cA s9 f9
          have hr8 : wr.heap[w.heap.size + 3]? = some (.cells Z.toArray 27 (0, 0)) := HI.out.z
          go_wp2_with (first
            | (refine wpList_build (.inl rfl) 27 _ rfl (.agg zst.toArray) (by kernel_rfl) ?_; rw [← HZB])
            | (refine wpList_store_row _ rfl 27 (.tmp 8) (.tmp 189) rfl (w.heap.size + 3) rfl Z Z _ rfl hr8 (szSFrom HZL.out) rfl hzo ?_)
            | fail)
          have hc9 := Blk.cells (t := 27) (setRow_at (cs' := Z.toArray) hr8)
          (try simp only [Exit.inBlock, Exit.then])
          refine bodyPost_ret (results_agg_tmp rfl _ _ _ _ _ rfl Try.underlying27 rfl (szSFrom HZL.out) hc9) rfl ?_
          refine ⟨.slice none 0 0, ?_, ?_, grown_then HI.out.ext (setRow_only _) (.inr (by rintro b ⟨⟩; omega))⟩
          · rw [htl, HZB]; rfl
          · rw [htl]; exact ⟨by simp [St.zero], Own.nil _ _ _⟩
      · have hzb : (zr != 0) = true := by simpa using hzz
        have htl := hfin2 (by rw [← HZR.out]; exact hzz)
        rw [← HZR.out] at htl
        have hr8 : wr.heap[w.heap.size + 3]? = some (.cells Z.toArray 27 (0, 0)) := HI.out.z
        go_wp2_with (first
          | (refine wpList_build (.inl rfl) 27 _ rfl (.agg zst.toArray) (by kernel_rfl) ?_; rw [← HZB])
          | (refine wpList_store_row _ rfl 27 (.tmp 8) (.tmp 96) rfl (w.heap.size + 3) rfl Z Z _ rfl hr8 (szSFrom HZL.out) rfl hzo ?_)
          | fail)
        have hc9 := Blk.cells (t := 27) (setRow_at (cs' := Z.toArray) hr8)
        (try simp only [Exit.inBlock, Exit.then])
        refine bodyPost_ret (results_agg_tmp rfl _ _ _ _ _ rfl Try.underlying27 rfl (szSFrom HZL.out) hc9) rfl ?_
        refine ⟨.slice none 0 0, ?_, ?_, grown_then HI.out.ext (setRow_only _) (.inr (by rintro b ⟨⟩; omega))⟩
        · rw [htl, HZB]; rfl
        · rw [htl]; exact ⟨by simp [St.zero], Own.nil _ _ _⟩
end Go.Proofs.Ytnpolfihbfdggaa
