/- Walks and plain laws, put together in build order. Conditions: what each of them names. -/
import Derived.Test.YtpdkmapogncgmaaW0ce1601a5c
set_option linter.unusedVariables false
set_option linter.unusedSimpArgs false
set_option linter.unnecessarySimpa false
namespace Go.Proofs.Ytpdkmapogncgmaa
section
open Go.RowKit

/-! ### What is carried while an alloc may come at any time beside calls that only make memory -/
structure AJ (w0 : World) (t : TypeId) (Z : List Value) (al : Option Nat) (W : World) : Prop where
  ext : Ext w0 W
  blk : ∀ g, al = some g → w0.heap.size ≤ g ∧ Blk W g t Z
theorem AJ.start (w0 : World) (t : TypeId) (Z : List Value) : AJ w0 t Z none w0 := ⟨Ext.refl _, fun g h => (by cases h)⟩
theorem AJ.alloc {w0 W : World} {t : TypeId} {Z : List Value} (h : AJ w0 t Z none W) : AJ w0 t Z (some W.heap.size) (W.alloc (.cells Z.toArray t)) :=
  ⟨h.ext.trans ((Ext.refl W).alloc _), by rintro g ⟨⟩; exact ⟨h.ext.size, Blk.new _ _ _⟩⟩
theorem AJ.keepAlloc {w0 W : World} {t : TypeId} {Z : List Value} {al : Option Nat} (h : AJ w0 t Z al W) (o : Obj) : KeepB (fun b => b < w0.heap.size) W (W.alloc o) := fun b hb =>
  ((Ext.refl W).alloc o).block b (Nat.lt_of_lt_of_le hb h.ext.size) (by simp)
theorem AJ.step {w0 W W' : World} {t : TypeId} {Z : List Value} {al : Option Nat} (h : AJ w0 t Z al W) (hx : Ext W W') : AJ w0 t Z al W' ∧ KeepB (fun b => b < w0.heap.size) W W' :=
  ⟨⟨h.ext.trans hx, fun g hg => ⟨(h.blk g hg).1, (h.blk g hg).2.keep hx (by simp)⟩⟩, fun b hb => hx.block b (Nat.lt_of_lt_of_le hb h.ext.size) (by simp)⟩
theorem sharedA {Q : Prop} {A : Nat → World → Prop} (J : Nat → World → Prop) (h1 : (∀ g w, J g w → A g w) → Q) (h2 : ∀ g w, J g w → A g w) : Q := h1 h2
/-! ### Sums, one behind the other -/
abbrev Dg := List UInt8
def DigT : Ty := .arr 32 .u8
abbrev Ways (w : World) (F : Fp) (v : Value) (ds : List Dg) : Prop := (Ty.sl DigT).holds w F [v] ds
theorem digT_iff {w : World} {F : Fp} {cs : List Value} {d : Dg} : DigT.holds w F cs d ↔ cs = bv d ∧ List.length (α := UInt8) d = 32 := by
  constructor
  · rintro ⟨h1, h2⟩; exact ⟨AllH.bytes.1 h2, h1⟩
  · rintro ⟨h1, h2⟩; exact ⟨h2, AllH.bytes.2 h1⟩
theorem digs_iff {w : World} {F : Fp} : ∀ {l : List Dg} {xs : List Value}, AllH (DigT.holds w F) xs l ↔ xs = l.flatMap bv ∧ ∀ d ∈ l, List.length (α := UInt8) d = 32
  | [], xs => by simp [AllH]
  | c :: l, xs => by
    constructor
    · rintro ⟨c1, c2, rfl, h1, h2⟩
      obtain ⟨rfl, ok⟩ := digT_iff.1 h1
      obtain ⟨rfl, oks⟩ := digs_iff.1 h2
      refine ⟨rfl, fun x hx => ?_⟩
      rcases List.mem_cons.1 hx with rfl | hx
      · exact ok
      · exact oks x hx
    · rintro ⟨rfl, ok⟩
      exact ⟨_, _, rfl, digT_iff.2 ⟨rfl, ok c (by simp)⟩, digs_iff.2 ⟨rfl, fun x hx => ok x (by simp [hx])⟩⟩
theorem ways_open {w : World} {F : Fp} {v : Value} {ds : List Dg} (h : Ways w F v ds) : ∃ (A : Option Addr) (c : Nat) (xs : List Value), v = .slice A (List.length (α := Dg) ds) c ∧ List.length (α := Dg) ds ≤ c ∧ c ≤ maxLen ∧ (A = none → c = 0) ∧ (0 < List.length (α := Dg) ds → ∃ ad, A = some ad ∧ F ad.block ∧ Cells w ad xs) ∧ AllH (DigT.holds w F) xs ds := by
  obtain ⟨A, c, xs, hv, h1, h2, h3, h4, h5⟩ := h
  cases hv
  exact ⟨A, c, xs, rfl, h1, h2, h3, fun h => h4 (by intro e; rw [e] at h; exact absurd h (Nat.lt_irrefl _)), h5⟩
theorem digs_at {w w' : World} {F : Fp} {xs : List Value} {l : List Dg} {ad : Addr} {k : Nat} (hall : AllH (DigT.holds w F) xs l) (hc : Cells w' ad xs) (hk : k < l.length) : Cells w' (ad.add (k * 32)) (bv l[k]) ∧ List.length (α := UInt8) l[k] = 32 := by
  have h := AllH.elem hall hk
  obtain ⟨h1, h2⟩ := digT_iff.1 h
  have e : DigT.size = 32 := rfl
  rw [e] at h1
  have h3 := (hc.drop (k * 32)).take 32
  rw [h1] at h3
  exact ⟨h3, h2⟩
def OwnD (e : TypeId) (w : World) (v : Value) (ds : List Dg) : Prop := (∀ d ∈ ds, List.length (α := UInt8) d = 32) ∧ Own w e 32 v (List.length (α := Dg) ds) (ds.flatMap bv)
theorem OwnD.ext {e : TypeId} {w w' : World} {v : Value} {ds : List Dg} (h : OwnD e w v ds) (hx : Ext w w') : OwnD e w' v ds := ⟨h.1, h.2.ext hx⟩
theorem OwnD.lt {e : TypeId} {w : World} {v : Value} {ds : List Dg} (h : OwnD e w v ds) : ∀ g, v.ownBlock = some g → g < w.heap.size := fun g hg => (World.ownsRow.lt h.2 g hg).2
theorem OwnD.holds {e : TypeId} {w : World} {v : Value} {ds : List Dg} (h : OwnD e w v ds) : Ways w (fun b => v.ownBlock = some b) v ds := by
  obtain ⟨hok, h⟩ := h
  rcases h.2 with ⟨rfl, h0⟩ | ⟨g, cap, cur, rfl, _, hg, hnc, hcm, _, _⟩
  · obtain rfl : ds = [] := List.eq_nil_of_length_eq_zero h0
    exact ⟨none, 0, [], rfl, Nat.le_refl 0, by simp [maxLen], fun _ => rfl, fun h => absurd rfl h, rfl⟩
  · exact ⟨_, cap, _, rfl, hnc, hcm, by simp, fun _ => ⟨_, rfl, rfl, World.ownsRow.cells h rfl⟩, digs_iff.2 ⟨rfl, hok⟩⟩
/-- A signature's cells: the pieces, the key's number, the way. -/
def sigC (C : List Value) (key : Nat) (v : Value) : List Value := C ++ [.int .u32 (key : Int), v]
theorem sigC_len {C : List Value} (h : C.length = 1024) (key : Nat) (v : Value) : (sigC C key v).length = 1026 := by simp [sigC, h]
theorem sigC_take {C : List Value} (h : C.length = 1024) (key : Nat) (v : Value) : (sigC C key v).take 1024 = C := List.take_left' h
theorem sigC_key {C : List Value} (h : C.length = 1024) (key : Nat) (v : Value) : (sigC C key v)[1024]? = some (.int .u32 (key : Int)) := by rw [sigC, List.getElem?_append_right (by omega), h]; rfl
theorem sigC_way {C : List Value} (h : C.length = 1024) (key : Nat) (v : Value) : (sigC C key v)[1025]? = some v := by rw [sigC, List.getElem?_append_right (by omega), h]; rfl
theorem sigC_set {C : List Value} (h : C.length = 1024) (key : Nat) (v u : Value) : (sigC C key v).set 1025 u = sigC C key u := by rw [sigC, List.set_append_right _ _ (by omega), h]; rfl
theorem sigC_one {C : List Value} (h : ∀ u ∈ C, u.oneCell' = true) (key : Nat) (A : Option Addr) (n c : Nat) : ∀ u ∈ sigC C key (.slice A n c), u.oneCell' = true := by
  intro u hu
  rcases List.mem_append.1 hu with hu | hu
  · exact h u hu
  · simp only [List.mem_cons, List.not_mem_nil, or_false] at hu
    rcases hu with rfl | rfl <;> rfl
theorem src_at {w : World} {g : Nat} (hg : w.heap.size = g) (cs : List Value) (t : TypeId) (m : Nat) : Src (w.alloc (.cells cs.toArray t)) (some ⟨g, 0, none⟩) m cs := by
  subst hg; exact src_new w cs t m
theorem szInTo05 {n : Nat} (h : n = 1024) : (Try.prog.info? 26).map (·.size) = some n := by subst h; kernel_rfl
theorem szOutTo05 {n : Nat} (h : n = 1026) : (Try.prog.info? 39).map (·.size) = some n := by subst h; kernel_rfl
theorem szElTo05 {n : Nat} (h : n = 32) : (Try.prog.info? 31).map (·.size) = some n := by subst h; kernel_rfl
theorem szEbTo05 {n : Nat} (h : n = 32) : (Try.prog.info? 55).map (·.size) = some n := by subst h; kernel_rfl
theorem zElTo05 : (Try.prog.info? 31).bind (fun i => i.zero.map (·.cells)) = some (List.replicate 32 (Value.int .u8 0)).toArray := by kernel_rfl
theorem zEbTo05 : ((Try.prog.info? 55).bind (·.zero)).isSome = true := by kernel_rfl
theorem zOutTo05 : (Try.prog.info? 39).bind (fun i => i.zero.map (·.cells)) = some (List.replicate 1024 (Value.int .u8 0) ++ [Value.int .u32 0, Value.slice none 0 0]).toArray := by kernel_rfl
theorem fieldsTo05 : ∃ fields, Try.prog.underlying 39 = some (.struct fields) ∧ fields.toList.mapM (fun f => (Try.prog.info? f.type).map fun i => (f.offset, i.size)) = some [(0, 1024), (1024, 1), (1025, 1)] :=
  ⟨_, Try.underlying39, by kernel_rfl⟩
theorem partsTo05 : ∃ (i : TypeInfo) (z : Value), Try.prog.info? 55 = some i ∧ i.zero = some z ∧ i.size = 32 ∧ i.bytes = 32 ∧ z.cells.size = 32 := by
  have h : ((Try.prog.info? 55).bind fun i => i.zero.map fun z => (i.size, i.bytes, z.cells.size)) = some (32, 32, 32) := by kernel_rfl
  obtain ⟨i, hi, h2⟩ := Option.bind_eq_some_iff.1 h
  obtain ⟨z, hz, h3⟩ := Option.map_eq_some_iff.1 h2
  have h4 : i.size = 32 ∧ i.bytes = 32 ∧ z.cells.size = 32 := by simpa using h3
  exact ⟨i, z, hi, hz, h4⟩
set_option maxRecDepth 100000 in
set_option maxHeartbeats 8000000 in
theorem To05 (C : List Value) (key : Nat) (u : Value) (ds : List Dg) (w : World) (F : Fp) (hC : C.length = 1024) (hone : ∀ u ∈ C, u.oneCell' = true) (hc : Ways w F u ds) (hF : ∀ b, F b → b < w.heap.size) (hlen : List.length (α := Dg) ds ≤ 1099511627776) :
    Calls Try.prog 10 #[.agg (sigC C key u).toArray] w fun e w' => ∃ v, e = .returned (.agg (sigC C key v).toArray) ∧ OwnD 55 w' v ds ∧ Ext w w' ∧ ∀ b, v.ownBlock = some b → w.heap.size ≤ b := by
  obtain ⟨i1, z1, hi1, hz1, hi2, hi3, hi4⟩ := partsTo05
  obtain ⟨fields, hfu, hfp⟩ := fieldsTo05
  obtain ⟨A, c, xs, rfl, hlc, hcm, hA, hcell, hall⟩ := ways_open hc
  clear hc
  unfold maxLen at hcm
  obtain ⟨ZR, hzr, hzl, hfl⟩ : ∃ ZR : List Value, (Try.prog.info? 39).bind (fun i => i.zero.map (·.cells)) = some ZR.toArray ∧ ZR.length = 1026 ∧ fillL ([(0, 1024), (1024, 1), (1025, 1)].toArray[·]?) ZR [(0, C), (1, [.int .u32 (key : Int)])] = some (sigC C key (.slice none 0 0)) := by
    refine ⟨_, zOutTo05, by simp, ?_⟩
    simp [fillL, hC, sigC, List.drop_append]
  obtain ⟨ZE, hze, hzel⟩ : ∃ ZE : List Value, (Try.prog.info? 31).bind (fun i => i.zero.map (·.cells)) = some ZE.toArray ∧ ZE.length = 32 := ⟨_, zElTo05, List.length_replicate⟩
  have HCL := Lib.hid hC
  have HZL := Lib.hid hzl
  have HFL := Lib.hid hfl
  have HZE := Lib.hid hzel
  generalize hU : Value.slice A (List.length (α := Dg) ds) c = u at *
  have hb1 : Blk ((w.alloc (.cells (sigC C key u).toArray 30)).alloc (.cells ZR.toArray 39)) w.heap.size 30 (sigC C key u) := (Blk.new _ _ _).keep ((Ext.refl _).alloc _) (by simp)
  have hb2 : Blk ((w.alloc (.cells (sigC C key u).toArray 30)).alloc (.cells ZR.toArray 39)) (w.heap.size + 1) 39 ZR := Blk.fresh (by simp) _ _
  have hx0 : Ext w ((w.alloc (.cells (sigC C key u).toArray 30)).alloc (.cells ZR.toArray 39)) := ((Ext.refl w).alloc _).alloc _
  have hsl : (sigC C key u)[1025]? = some (.slice A (List.length (α := Dg) ds) c) := by rw [hU]; exact sigC_way hC key u
  have hky := sigC_key hC key u
  have htk := sigC_take hC key u
  have hsl9 := sigC_len hC key u
  generalize sigC C key u = SC at *
  have HSL := Lib.hid hsl
  have HKEY := Lib.hid hky
  have HTK := Lib.hid htk
  have HB1 := Lib.hid hb1
  have HB2 := Lib.hid hb2
  have HX0 := Lib.hid hx0
  clear hC hzl hfl hzel hb1 hb2 hx0 hsl hky htk hU
  go_enter Try.func10, Try.ntmps10
  go_wp2_with (first
    | (refine wpList_alloc _ rfl 39 rfl _ hzr ?_)
    | fail)
  have hx : Ext w ((w.alloc (.cells SC.toArray 30)).alloc (.cells ZR.toArray 39)).drew := HX0.out.drew
  have hb1 : Blk ((w.alloc (.cells SC.toArray 30)).alloc (.cells ZR.toArray 39)).drew w.heap.size 30 SC := HB1.out
  have hb2 : Blk ((w.alloc (.cells SC.toArray 30)).alloc (.cells ZR.toArray 39)).drew (w.heap.size + 1) 39 ZR := HB2.out
  refine startM (KeepB fun b => b < ((w.alloc (.cells SC.toArray 30)).alloc (.cells ZR.toArray 39)).drew.heap.size) (by kernel_rfl) ?_
  (try simp only [Act.put, List.setIfInBounds_toArray, List.set_cons_succ, List.set_cons_zero])
  generalize ((w.alloc (.cells SC.toArray 30)).alloc (.cells ZR.toArray 39)).drew = w0 at *
  have hcc : Cells w0 ⟨w.heap.size, 0, none⟩ C := by have h := hb1.cells.take 1024; rw [HTK.out] at h; exact h
  have hky : w0.cell? ⟨w.heap.size, 1024, none⟩ = some (.int .u32 (key : Int)) := (hb1.cell 1024).trans HKEY.out
  have HBL := Lib.hid hb1.lt
  have HCC := Lib.hid hcc
  have HKY := Lib.hid hky
  have HB1 := Lib.hid hb1
  have HB2 := Lib.hid hb2
  have HX := Lib.hid hx
  have hJ := AJ.start w0 39 ZR
  have HJ := Lib.hid hJ
  clear hx hb1 hb2 hcc hky hJ
  apply sharedA (fun g W => AJ w0 39 ZR (some g) W)
  · intro hM
    refine takeK 0 rfl (by kernel_rfl) (by kernel_rfl) (by kernel_rfl) rfl (fun _ _ _ _ h => h) rfl (fun K hK => ?_)
    go_big_quiet_op
    first | refine hK _ ?_ | refine ⟨_, fun _ _ => rfl, hK _ ?_⟩
    clear hK K
    refine takeK 1 rfl (by kernel_rfl) (by kernel_rfl) (by kernel_rfl) rfl (fun _ _ _ _ h => h) rfl (fun K hK => ?_)
    refine quiet_agg 26 (.tmp 6) rfl _ rfl C _ Try.underlying26 rfl (szInTo05 HCL.out) (fun W' h => KeepB.cells h HCC.out HBL.out) ?_
    refine hK _ ?_
    simp only [Act.put, List.setIfInBounds_toArray, List.set_cons_succ, List.set_cons_zero]
    clear hK K
    refine takeK 3 rfl (by kernel_rfl) (by kernel_rfl) (by kernel_rfl) rfl (fun _ _ _ _ h => h) rfl (fun K hK => ?_)
    go_big_quiet_op
    first | refine hK _ ?_ | refine ⟨_, fun _ _ => rfl, hK _ ?_⟩
    clear hK K
    refine takeK 4 rfl (by kernel_rfl) (by kernel_rfl) (by kernel_rfl) rfl (fun _ _ _ _ h => h) rfl (fun K hK => ?_)
    refine quiet_cell _ _ rfl _ rfl _ _ Try.underlying27 rfl (fun W' h => KeepB.cell h HKY.out HBL.out) ?_
    refine hK _ ?_
    simp only [Act.put, List.setIfInBounds_toArray, List.set_cons_succ, List.set_cons_zero]
    clear hK K
    refine bothM 2 6 rfl rfl (by kernel_rfl) rfl rfl (fun K hK => ?_) (fun K hK => ?_)
    · go_simp
      refine (To04 C _ HCL.out hone).mono ?_
      rintro e w6 ⟨rfl, hx6⟩
      have hkb := (HJ.out.step hx6).2
      have HJ := Lib.hid (HJ.out.step hx6).1
      refine hK _ _ (hkb) ?_
      clear hK K
      refine takeK 5 rfl (by kernel_rfl) (by kernel_rfl) (by kernel_rfl) rfl (fun _ _ _ _ h => h) rfl (fun K hK => ?_)
      refine quiet_build_st 39 #[(0, .tmp 8), (1, .tmp 10)] rfl fields ZR (sigC C key (.slice none 0 0)) _ _ hfu hzr hfp (by simp [Value.cells, Act.eval]) HFL.out ?_
      refine hK _ ?_
      simp only [Act.put, List.setIfInBounds_toArray, List.set_cons_succ, List.set_cons_zero]
      clear hK K
      refine stepM 6 rfl (by kernel_rfl) rfl (fun K hK => ?_)
      refine wp_alloc_agg 39 rfl ZR hzr ?_
      refine hK _ _ (HJ.out.keepAlloc _) ?_
      clear hK K
      (try simp only [Act.put, List.setIfInBounds_toArray, List.set_cons_succ, List.set_cons_zero])
      have HJ := Lib.hid HJ.out.alloc
      have hJf := HJ.out
      revert hJf
      generalize w6.alloc (.cells ZR.toArray 39) = W9
      generalize w6.heap.size = g9
      intro hJf
      exact hM g9 W9 hJf
    · refine wp_alloc_agg 39 rfl ZR hzr ?_
      refine hK _ _ (HJ.out.keepAlloc _) ?_
      clear hK K
      (try simp only [Act.put, List.setIfInBounds_toArray, List.set_cons_succ, List.set_cons_zero])
      have HJ := Lib.hid HJ.out.alloc
      refine stepM 2 rfl (by kernel_rfl) rfl (fun K hK => ?_)
      go_simp
      refine (To04 C _ HCL.out hone).mono ?_
      rintro e w6 ⟨rfl, hx6⟩
      have hkb := (HJ.out.step hx6).2
      have HJ := Lib.hid (HJ.out.step hx6).1
      refine hK _ _ (hkb) ?_
      clear hK K
      refine takeK 5 rfl (by kernel_rfl) (by kernel_rfl) (by kernel_rfl) rfl (fun _ _ _ _ h => h) rfl (fun K hK => ?_)
      refine quiet_build_st 39 #[(0, .tmp 8), (1, .tmp 10)] rfl fields ZR (sigC C key (.slice none 0 0)) _ _ hfu hzr hfp (by simp [Value.cells, Act.eval]) HFL.out ?_
      refine hK _ ?_
      simp only [Act.put, List.setIfInBounds_toArray, List.set_cons_succ, List.set_cons_zero]
      clear hK K
      refine relist (by kernel_rfl) (hM _ _ HJ.out)
  rintro g W hJ
  have HGB := Lib.hid (hJ.blk g rfl)
  have HJ := Lib.hid hJ
  clear hJ
  refine stepM 7 rfl (by kernel_rfl) rfl (fun K hK => ?_)
  refine wp_store_row 39 (.tmp 3) (.tmp 11) rfl g rfl ZR (sigC C key (.slice none 0 0)) _ rfl HGB.out.2 (szOutTo05 (sigC_len HCL.out _ _)) (by rw [sigC_len HCL.out, HZL.out]) (sigC_one hone _ _ _ _) ?_
  refine hK _ _ (fun b hb => (setRow_only _).block _ (Nat.lt_of_lt_of_le hb HJ.out.ext.size) (by have := HGB.out.1; simp; omega)) ?_
  clear hK K
  (try simp only [Act.put, List.setIfInBounds_toArray, List.set_cons_succ, List.set_cons_zero])
  refine doneM (by kernel_rfl) ?_ _
  have hg0 := HGB.out.1
  have hx0 := HX.out.size
  have hbl := HB2.out.lt
  have hx9 : Ext w (W.setRow g (sigC C key (.slice none 0 0)).toArray) := grown_then (HX.out.trans HJ.out.ext) (setRow_only _) (.inr (by rintro b ⟨⟩; omega))
  have hb1 : Blk (W.setRow g (sigC C key (.slice none 0 0)).toArray) w.heap.size 30 SC := (HB1.out.keep HJ.out.ext (by simp)).keep (setRow_only _) (by simp; omega)
  have hb2 : Blk (W.setRow g (sigC C key (.slice none 0 0)).toArray) (w.heap.size + 1) 39 ZR := (HB2.out.keep HJ.out.ext (by simp)).keep (setRow_only _) (by simp; omega)
  have hb3 : Blk (W.setRow g (sigC C key (.slice none 0 0)).toArray) g 39 (sigC C key (.slice none 0 0)) := setRow_at HGB.out.2
  have hgg : w.heap.size + 1 < g := by omega
  generalize W.setRow g (sigC C key (.slice none 0 0)).toArray = w1 at *
  have c13 : w1.cell? ⟨w.heap.size, 1025, none⟩ = some (.slice A (List.length (α := Dg) ds) c) := (hb1.cell 1025).trans HSL.out
  have HX1 := Lib.hid hx9
  have HB91 := Lib.hid hb1
  have HB92 := Lib.hid hb2
  have HB93 := Lib.hid hb3
  clear hx9 hb1 hb2 hb3 HX HB1 HB2 HJ HGB HCC HKY HBL hg0 hx0 hbl
  go_wp2
  go_loopw [5, 15] (fun p i wr => ∃ (k : Nat) (v : Value), k ≤ List.length (α := Dg) ds ∧ i = .int .i64 k ∧ Ext w wr ∧ Blk wr (w.heap.size + 1) 39 ZR ∧ Blk wr g 39 (sigC C key v) ∧ OwnD 55 wr v (ds.take k) ∧ (∀ b, v.ownBlock = some b → w.heap.size + 2 ≤ b ∧ b ≠ g) ∧ ∃ q, p = q) (fun _ i _ => List.length (α := Dg) ds - (intOf i).toNat)
  case atStart => exact ⟨0, .slice none 0 0, by omega, rfl, HX1.out, HB92.out, HB93.out, ⟨by simp, Own.nil _ _ _⟩, by simp [Value.ownBlock], _, rfl⟩
  case round =>
    clear HX1 HB91 HB92 HB93 c13
    obtain ⟨k, v, hk, rfl, hx, hb2, hb3, hov, hfar, q, rfl⟩ := hrel
    by_cases hlt : k < List.length (α := Dg) ds
    · obtain ⟨ad, rfl, hf, hcells⟩ := hcell (by omega)
      obtain ⟨hcc, hdl⟩ := digs_at hall (hcells.keep (hx.same hF _ hf)) hlt
      have htk : ds.take (k + 1) = ds.take k ++ [ds[k]] := List.take_succ_eq_append_getElem hlt
      have htl : List.length (α := Dg) (ds.take k) = k := by rw [List.length_take]; omega
      have hone3 := bv_one ds[k]
      have hD : (bv ds[k]).length = 32 := by simpa using hdl
      generalize hdk : ds[k] = dk at *
      generalize hDE : bv dk = D at *
      have hvw := (hb3.cell 1025).trans (sigC_way HCL.out key v)
      have hb3' : Blk (wr.alloc (.cells D.toArray 31)) g 39 (sigC C key v) := hb3.keep ((Ext.refl _).alloc _) (by simp)
      have hvw' : (wr.alloc (.cells D.toArray 31)).cell? ⟨g, 1025, none⟩ = some v := (hb3'.cell 1025).trans (sigC_way HCL.out key v)
      have hcd : Cells (wr.alloc (.cells D.toArray 31)) ⟨wr.heap.size, 0, none⟩ D := (Blk.new wr 31 D).cells
      have hxa : Ext wr ((wr.alloc (.cells D.toArray 31)).alloc (.cells D.toArray 55)) := ((Ext.refl wr).alloc _).alloc _
      have HXA := Lib.hid hxa
      have HX := Lib.hid hx
      have HB2 := Lib.hid hb2
      have HB3 := Lib.hid hb3
      have HOV := Lib.hid hov
      have HFAR := Lib.hid hfar
      have HDL := Lib.hid hD
      have HTK := Lib.hid htk
      have how : Own wr 55 32 v k ((ds.take k).flatMap bv) := by have h := HOV.out.2; rw [htl] at h; exact h
      have HOW := Lib.hid how
      have HTL := Lib.hid htl
      have HDE := Lib.hid hDE
      have HDL2 := Lib.hid hdl
      clear how hx hb2 hb3 hov hfar hD htk htl hDE hdl hcells hb3' hxa hvw hdk
      go_wp2_with (first
        | (refine wpList_load_agg _ rfl 31 (.tmp 17) rfl _ rfl D _ Try.underlying31 rfl (szElTo05 HDL.out) hcc ?_)
        | (refine wpList_alloc _ rfl 31 rfl _ hze ?_)
        | (refine wpList_store_new _ rfl 31 (.tmp 5) (.tmp 18) rfl rfl ZE D _ rfl (szElTo05 HDL.out) (by rw [HDL.out, HZE.out]) hone3 ?_)
        | (refine wpList_load_agg _ rfl 31 (.tmp 5) rfl _ rfl D _ Try.underlying31 rfl (szElTo05 HDL.out) hcd ?_)
        | (refine wpList_one _ rfl 37 (.tmp 21) rfl 55 D Try.underlying37 rfl (szEbTo05 HDL.out) zEbTo05 (by rw [HDL.out]; decide) (by rw [HDL.out]; decide) ?_)
        | (at_builtin
           go_must (refine wpList_app _ rfl (.tmp 20) (.tmp 22) _ _ rfl 55 55 i1 z1 32 32 Try.underlying37 Try.underlying37 hi1 hz1 hi2 hi3 hi4 (by decide) v _ _ rfl (HOW.out.ext HXA.out) _ 1 1 D rfl (by rw [HDL.out]) (src_at rfl D _ 1) hone3 (by unfold maxLen; omega) (by omega) ?_)
           intro v7 w7 ho7 hm7
           obtain ⟨A7, c7, hv7⟩ := Own.form ho7
           subst hv7
           have HB7 := Lib.hid ((HB3.out.keep HXA.out (by simp)).keep hm7.grown (fun e => (HFAR.out _ e.symm).2 rfl))
           have s9 : w7.cell? ⟨g, 1025, none⟩ = some v := (HB7.out.cell 1025).trans (sigC_way HCL.out key v)
           have f9 : w7.frozen? ⟨g, 1025, none⟩ = false := HB7.out.free 1025)
        | fail)
      have far7 : ∀ b, (Value.slice A7 (k + 1) c7).ownBlock = some b → w.heap.size + 2 ≤ b ∧ b ≠ g := fun b hb => by
        rcases hm7.at_ with e | hn
        · exact HFAR.out b (e.symm.trans hb)
        · have h1 := hn b hb
          have h2 := HB3.out.lt
          have h3 := HX.out.size
          simp at h1
          omega
      have ne : ∀ x, (x < w.heap.size + 2 ∨ x = g) → some x ≠ v.ownBlock := fun x hx e => by have := HFAR.out x e.symm; omega
      have hx8 : Ext w (w7.setCell ⟨g, 1025, none⟩ (.slice A7 (k + 1) c7)) := grown_then (grown_then (HX.out.trans HXA.out) hm7.grown (.inr fun x hx => by have := HFAR.out x hx; omega)) (only_set 1025 _) (.inr (by rintro b ⟨⟩; omega))
      have hb28 : Blk (w7.setCell ⟨g, 1025, none⟩ (.slice A7 (k + 1) c7)) (w.heap.size + 1) 39 ZR := ((HB2.out.keep HXA.out (by simp)).keep hm7.grown (ne _ (.inl (by omega)))).keep (only_set 1025 _) (by simp; omega)
      have hb38 : Blk (w7.setCell ⟨g, 1025, none⟩ (.slice A7 (k + 1) c7)) g 39 (sigC C key (.slice A7 (k + 1) c7)) := by
        have := HB7.out.set 1025 (.slice A7 (k + 1) c7)
        rwa [sigC_set HCL.out] at this
      have ho8 : OwnD 55 (w7.setCell ⟨g, 1025, none⟩ (.slice A7 (k + 1) c7)) (.slice A7 (k + 1) c7) (ds.take (k + 1)) := by
        rw [HTK.out]
        refine ⟨fun d hd => ?_, ?_⟩
        · rcases List.mem_append.1 hd with hd | hd
          · exact HOV.out.1 d hd
          · rw [List.mem_singleton.1 hd]; exact HDL2.out
        · have e1 : (ds.take k ++ [dk]).flatMap bv = (ds.take k).flatMap bv ++ D := by rw [← HDE.out]; simp
          have e2 : List.length (α := Dg) (ds.take k ++ [dk]) = k + 1 := by rw [List.length_append, HTL.out]; rfl
          rw [e1, e2]
          refine ho7.keep (row := some g) (only_set 1025 _) ?_
          cases hvb : (Value.slice A7 (k + 1) c7).ownBlock with
          | none => exact .inl rfl
          | some b => exact .inr (by have := (far7 b hvb).2; simpa using this)
      have HX8 := Lib.hid hx8
      have HB28 := Lib.hid hb28
      have HB38 := Lib.hid hb38
      have HO8 := Lib.hid ho8
      have HF8 := Lib.hid far7
      go_roundw
      case rel => exact ⟨k + 1, _, by omega, by go_num, HX8.out, HB28.out, HB38.out, HO8.out, HF8.out, _, rfl⟩
      case measure => simp [intOf]; omega
    · obtain rfl : k = List.length (α := Dg) ds := by omega
      have htk : ds.take (List.length (α := Dg) ds) = ds := List.take_length
      rw [htk] at hov
      have hcm := hb3.cells
      have hr2 : wr.heap[w.heap.size + 1]? = some (.cells ZR.toArray 39 (0, 0)) := hb2
      have hml := sigC_len HCL.out key v
      have hmone : ∀ u ∈ sigC C key v, u.oneCell' = true := by obtain ⟨A2, c2, h⟩ := hov.2.form; rw [h]; exact sigC_one hone _ _ _ _
      obtain ⟨M, hM⟩ : ∃ M, M = sigC C key v := ⟨_, rfl⟩
      rw [← hM] at hcm hml hmone
      have HM := Lib.hid hM
      have HX := Lib.hid hx
      have HOV := Lib.hid hov
      have HML := Lib.hid hml
      have HFAR := Lib.hid hfar
      clear hx hb2 hb3 hov hml hM hfar htk
      go_wp2_with (first
        | (refine wpList_load_agg _ rfl 39 (.tmp 3) rfl _ rfl M _ Try.underlying39 rfl (szOutTo05 HML.out) hcm ?_)
        | (refine wpList_store_row _ rfl 39 (.tmp 2) (.tmp 26) rfl (w.heap.size + 1) rfl ZR M _ rfl hr2 (szOutTo05 HML.out) (by rw [HML.out, HZL.out]) hmone ?_)
        | fail)
      have hc9 := Blk.cells (t := 39) (setRow_at (cs' := M.toArray) hr2)
      (try simp only [Exit.inBlock, Exit.then])
      refine bodyPost_ret (results_agg rfl _ _ _ _ _ rfl Try.underlying39 rfl (szOutTo05 HML.out) hc9) rfl ?_
      refine ⟨v, by rw [HM.out], ⟨HOV.out.1, HOV.out.2.keep (row := some (w.heap.size + 1)) (setRow_only _) ?_⟩, grown_then HX.out (setRow_only _) (.inr (by rintro b ⟨⟩; omega)), fun b hb => by have := HFAR.out b hb; omega⟩
      cases hvb : v.ownBlock with
      | none => exact .inl rfl
      | some b => exact .inr (by have := (HFAR.out b hvb).1; simp; omega)
end
section

/-- What two sums are known by. -/
def aboveM (a b : Dg) : Dg := sha (textM 3 [a, b])
theorem aboveM_length (a b : Dg) : List.length (α := UInt8) (aboveM a b) = 32 := sha_length _
theorem leafM_length (seed : List UInt8) (n : Nat) : (leafM seed n).length = 32 := leafOf_length _
/-- The row above. -/
def upM (l : List Dg) : List Dg := (List.range (l.length / 2)).map fun i => aboveM (l.getD (2 * i) []) (l.getD (2 * i + 1) [])
/-- The rows of a ring. -/
def levM (seed : List UInt8) (tall : Nat) : Nat → List Dg
  | 0 => (List.range (2 ^ tall)).map (leafM seed)
  | j + 1 => upM (levM seed tall j)
def levsM (seed : List UInt8) (tall : Nat) : List (List Dg) := (List.range (tall + 1)).map (levM seed tall)
theorem upM_length (l : List Dg) : (upM l).length = l.length / 2 := by simp [upM]
theorem levM_length (seed : List UInt8) (tall : Nat) : ∀ j, j ≤ tall → List.length (α := Dg) (levM seed tall j) = 2 ^ (tall - j)
  | 0, _ => by simp [levM]
  | j + 1, h => by
    rw [levM, upM_length, levM_length seed tall j (by omega), show tall - j = (tall - (j + 1)) + 1 by omega, Nat.pow_succ]
    omega
theorem levM_len (seed : List UInt8) (tall : Nat) : ∀ j, ∀ d ∈ levM seed tall j, List.length (α := UInt8) d = 32
  | 0, d, h => by
    simp only [levM, List.mem_map] at h
    obtain ⟨k, _, rfl⟩ := h
    exact leafM_length _ _
  | j + 1, d, h => by
    simp only [levM, upM, List.mem_map] at h
    obtain ⟨k, _, rfl⟩ := h
    exact aboveM_length _ _
theorem upM_at (l : List Dg) {i : Nat} (h : i < l.length / 2) : (upM l).getD i [] = aboveM (l.getD (2 * i) []) (l.getD (2 * i + 1) []) := by
  simp [upM, List.getD, h]
theorem lev0_at (seed : List UInt8) (tall : Nat) {i : Nat} (h : i < 2 ^ tall) : (levM seed tall 0).getD i [] = leafM seed i := by
  simp [levM, List.getD, h]
def rootM (seed : List UInt8) (tall : Nat) : Dg := (levM seed tall tall).getD 0 []
/-- The other one of two. -/
def sideM (k : Nat) : Nat := if k % 2 = 1 then k - 1 else k + 1
/-- The way up from a key. -/
def wayM (seed : List UInt8) (tall key : Nat) : List Dg := (List.range tall).map fun j => (levM seed tall j).getD (sideM (key / 2 ^ j)) []
theorem wayM_length (seed : List UInt8) (tall key : Nat) : List.length (α := Dg) (wayM seed tall key) = tall := by simp [wayM]
theorem wayM_take (seed : List UInt8) (tall key : Nat) {j : Nat} (h : j < tall) : (wayM seed tall key).take (j + 1) = (wayM seed tall key).take j ++ [(levM seed tall j).getD (sideM (key / 2 ^ j)) []] := by
  rw [List.take_add_one]
  congr 1
  simp [wayM, h]
/-- So far up. -/
def climbM (key : Nat) (x : Dg) (ds : List Dg) : Nat → Dg
  | 0 => x
  | i + 1 => if key / 2 ^ i % 2 = 1 then aboveM (ds.getD i []) (climbM key x ds i) else aboveM (climbM key x ds i) (ds.getD i [])
theorem climbM_length (key : Nat) {x : Dg} (ds : List Dg) (hx : List.length (α := UInt8) x = 32) : ∀ i, List.length (α := UInt8) (climbM key x ds i) = 32
  | 0 => hx
  | i + 1 => by
    rw [climbM]
    split <;> exact aboveM_length _ _
theorem climb_way (seed : List UInt8) (tall key : Nat) (hk : key < 2 ^ tall) : ∀ i, i ≤ tall → climbM key (leafM seed key) (wayM seed tall key) i = (levM seed tall i).getD (key / 2 ^ i) []
  | 0, _ => by rw [climbM, Nat.pow_zero, Nat.div_one, lev0_at seed tall hk]
  | i + 1, h => by
    have ih := climb_way seed tall key hk i (by omega)
    have hw : (wayM seed tall key).getD i [] = (levM seed tall i).getD (sideM (key / 2 ^ i)) [] := by
      simp [wayM, List.getD, show i < tall by omega]
    have hpos : 0 < 2 ^ i := Nat.two_pow_pos i
    have hlt : key / 2 ^ i < 2 ^ (tall - i) := by
      rw [Nat.div_lt_iff_lt_mul hpos, ← Nat.pow_add, show tall - i + i = tall by omega]
      exact hk
    have hdd : key / 2 ^ (i + 1) = key / 2 ^ i / 2 := by rw [Nat.pow_succ, Nat.div_div_eq_div_mul]
    have hl := levM_length seed tall i (by omega)
    have hhalf : key / 2 ^ i / 2 < List.length (α := Dg) (levM seed tall i) / 2 := by
      rw [hl, show tall - i = (tall - (i + 1)) + 1 by omega, Nat.pow_succ] at *
      omega
    rw [climbM, ih, hw, hdd]
    show _ = (upM (levM seed tall i)).getD _ []
    rw [upM_at _ hhalf]
    generalize key / 2 ^ i = m
    unfold sideM
    by_cases hm : m % 2 = 1
    · rw [if_pos hm, if_pos hm, show 2 * (m / 2) + 1 = m by omega, show 2 * (m / 2) = m - 1 by omega]
    · rw [if_neg hm, if_neg hm, show 2 * (m / 2) + 1 = m + 1 by omega, show 2 * (m / 2) = m by omega]
theorem climb_root (seed : List UInt8) (tall key : Nat) (hk : key < 2 ^ tall) : climbM key (leafM seed key) (wayM seed tall key) tall = rootM seed tall := by
  rw [climb_way seed tall key hk tall (Nat.le_refl _), Nat.div_eq_of_lt hk]; rfl
/-- Is a signature right? -/
def rightM (S : List UInt8) (keyS : Nat) (ds : List Dg) (root : Dg) (tall : Int) (key : Nat) (d : Dg) : Bool :=
  if tall < 0 ∨ ((List.length (α := Dg) ds : Nat) : Int) ≠ tall ∨ keyS ≠ key ∨ (tall < 32 ∧ key / 2 ^ tall.toNat ≠ 0) then false else decide (climbM key (fromS S d) ds (List.length (α := Dg) ds) = root)
theorem right_signed (seed : List UInt8) (tall key : Nat) (d : Dg) (hk : key < 2 ^ tall) : rightM (signM seed key d) key (wayM seed tall key) (rootM seed tall) (tall : Int) key d = true := by
  unfold rightM
  rw [if_neg, fromS_sign, wayM_length, climb_root seed tall key hk]
  · simp
  · rw [wayM_length, Int.toNat_natCast, Nat.div_eq_of_lt hk]
    omega
theorem levM_all (seed : List UInt8) (tall j i : Nat) (hj : j ≤ tall) (hi : i < 2 ^ (tall - j)) : List.length (α := UInt8) ((levM seed tall j).getD i []) = 32 := by
  have hl := levM_length seed tall j hj
  have hi' : i < List.length (α := Dg) (levM seed tall j) := by rw [hl]; exact hi
  have : (levM seed tall j).getD i [] = (levM seed tall j)[i] := by simp [List.getD, hi']
  rw [this]
  exact levM_len seed tall j _ (List.getElem_mem _)
theorem rootM_length (seed : List UInt8) (tall : Nat) : List.length (α := UInt8) (rootM seed tall) = 32 := levM_all seed tall tall 0 (Nat.le_refl _) (by simp)
end
section
open Go.RowKit

theorem two_parts {w : World} {a b : Value} {p q : List UInt8} {F G : Fp} {T : TypeId} (ha : (Ty.sl .u8).holds w F [a] p) (hF : ∀ x, F x → x < w.heap.size) (hb : (Ty.sl .u8).holds w G [b] q) (hG : ∀ x, G x → x < w.heap.size) :
    ∃ F', (Ty.sl (.sl .u8)).holds (w.alloc (.cells #[a, b] T)) F' [.slice (some ⟨w.heap.size, 0, none⟩) 2 2] [p, q] ∧ ∀ x, F' x → x < (w.alloc (.cells #[a, b] T)).heap.size := by
  refine ⟨_, parts_new (w := w) (vs := [a, b]) (F := fun x => F x ∨ G x) rfl rfl (by simp [maxLen]) ?_ ?_, ?_⟩
  · exact ⟨[a], [b], rfl, Ty.keep (fun _ _ => rfl) (fun _ h => .inl h) _ ha, [b], [], rfl, Ty.keep (fun _ _ => rfl) (fun _ h => .inr h) _ hb, rfl⟩
  · rintro x (h | h)
    · exact hF x h
    · exact hG x h
  · rintro x ((h | h) | rfl)
    · have := hF x h; simp; omega
    · have := hG x h; simp; omega
    · simp
/-- Is it the operation that fills this slot? (Ahead of an arm, 'with_reducible'.) -/
theorem wpDst {P : Program} {w : World} {ops : Array Oper} {rest : List Oper} {o : Oper} {a : Act} {Q : Exit → Act → World → Prop} (n : Nat) (_ : o.dst = some n) (h : wpList P ops Q (o :: rest) a w) : wpList P ops Q (o :: rest) a w := h
/-- Is it the store of this slot at that one? -/
theorem wpSto {P : Program} {w : World} {ops : Array Oper} {rest : List Oper} {o : Oper} {a : Act} {Q : Exit → Act → World → Prop} {ty : TypeId} (p x : Nat) (_ : o.op = .store ty (.tmp p) (.tmp x)) (h : wpList P ops Q (o :: rest) a w) : wpList P ops Q (o :: rest) a w := h
/-- A load of a whole struct or array, named by the slot that it fills. -/
theorem wpList_loadD {P : Program} {w : World} {ops : Array Oper} {rest : List Oper} {o : Oper} {a : Act} {Q : Exit → Act → World → Prop} (dst : Nat) (hdst : o.dst = some dst) (hgd : o.guard = none) (ty : TypeId) (x : Operand) (ho : o.op = .load ty x)
    (ad : Addr) (hx : a.eval x = .pointer (some ad)) (cs : List Value) (d : TypeDesc) (hu : P.underlying ty = some d) (hd : isAggD d = true) (hi : (P.info? ty).map (·.size) = some cs.length) (hc : Cells w ad cs)
    (h : wpList P ops Q rest (a.put o.dst (.agg cs.toArray)) w) : wpList P ops Q (o :: rest) a w := wpList_load_agg w hgd ty x ho ad hx cs d hu hd hi hc h
/-- A store into the variable that was made last. -/
theorem wpList_storeN {P : Program} {w : World} {ops : Array Oper} {rest : List Oper} {o : Oper} {a : Act} {Q : Exit → Act → World → Prop} (hgd : o.guard = none) (ty : TypeId) (p x : Operand) (ho : o.op = .store ty p x)
    (w0 : World) (hp : a.eval p = .pointer (some ⟨w0.heap.size, 0, none⟩)) (old cs : List Value) (t : TypeId) (hw : w = w0.alloc (.cells old.toArray t)) (hx : a.eval x = .agg cs.toArray)
    (hi : (P.info? ty).map (·.size) = some cs.length) (hl : cs.length = old.length) (h1 : ∀ u ∈ cs, u.oneCell' = true)
    (h : wpList P ops Q rest (a.put o.dst undef) (w0.alloc (.cells cs.toArray t))) : wpList P ops Q (o :: rest) a w := by
  subst hw
  refine wpList_store_row _ hgd ty p x ho w0.heap.size hp old cs t hx (heap_alloc_new w0 _) hi hl h1 ?_
  rw [setRow_new w0 (.cells old.toArray t) old.toArray cs.toArray t rfl]
  exact h
theorem blk_slice {w : World} {g : Nat} {t : TypeId} {bs : List UInt8} (h : Blk w g t (bv bs)) {n : Nat} (hn : bs.length = n) (hm : n ≤ maxLen) : (Ty.sl .u8).holds w (fun b => b = g) [.slice (some ⟨g, 0, none⟩) n n] bs ∧ ∀ b, b = g → b < w.heap.size := by
  subst hn
  exact ⟨⟨_, _, bv bs, rfl, Nat.le_refl _, hm, by simp, fun _ => ⟨_, rfl, rfl, h.cells⟩, AllH.bytes.2 rfl⟩, by rintro b rfl; exact h.lt⟩
set_option maxRecDepth 100000 in
set_option maxHeartbeats 4000000 in
theorem Above (a b : Dg) (ha : List.length (α := UInt8) a = 32) (hb : List.length (α := UInt8) b = 32) (w : World) :
    Calls Try.prog 38 #[.agg (bv a).toArray, .agg (bv b).toArray] w fun e w' => e = .returned (.agg (bv (aboveM a b)).toArray) ∧ Ext w w' := by
  have hzd := digest_zero
  have hdl : (bv (List.replicate 32 0)).length = 32 := by simp
  generalize bv (List.replicate 32 0) = D at hzd hdl
  have hx0 : Ext w (((w.alloc (.cells (bv a).toArray 55)).alloc (.cells (bv b).toArray 55)).alloc (.cells D.toArray 55)).drew := ((((Ext.refl w).alloc _).alloc _).alloc _).trans (Ext.refl _).drew
  have hb0 : Blk (((w.alloc (.cells (bv a).toArray 55)).alloc (.cells (bv b).toArray 55)).alloc (.cells D.toArray 55)).drew w.heap.size 55 (bv a) := (((Blk.new _ _ _).keep ((Ext.refl _).alloc _) (by simp)).keep ((Ext.refl _).alloc _) (by simp)).keep (Ext.refl _).drew (by simp)
  have hb1 : Blk (((w.alloc (.cells (bv a).toArray 55)).alloc (.cells (bv b).toArray 55)).alloc (.cells D.toArray 55)).drew (w.heap.size + 1) 55 (bv b) := ((Blk.fresh (by simp) _ _).keep ((Ext.refl _).alloc _) (by simp)).keep (Ext.refl _).drew (by simp)
  have hb4 : Blk (((w.alloc (.cells (bv a).toArray 55)).alloc (.cells (bv b).toArray 55)).alloc (.cells D.toArray 55)).drew (w.heap.size + 2) 55 D := (Blk.fresh (by simp) _ _).keep (Ext.refl _).drew (by simp)
  have hsa : ∀ W, Ext (((w.alloc (.cells (bv a).toArray 55)).alloc (.cells (bv b).toArray 55)).alloc (.cells D.toArray 55)).drew W → (Ty.sl .u8).holds W (fun b => b = w.heap.size) [.slice (some ⟨w.heap.size, 0, none⟩) 32 32] a ∧ ∀ b, b = w.heap.size → b < W.heap.size := fun W hX => blk_slice (hb0.keep hX (by simp)) ha (by simp [maxLen])
  have hsb : ∀ W, Ext (((w.alloc (.cells (bv a).toArray 55)).alloc (.cells (bv b).toArray 55)).alloc (.cells D.toArray 55)).drew W → (Ty.sl .u8).holds W (fun b => b = w.heap.size + 1) [.slice (some ⟨w.heap.size + 1, 0, none⟩) 32 32] b ∧ ∀ b, b = w.heap.size + 1 → b < W.heap.size := fun W hX => blk_slice (hb1.keep hX (by simp)) hb (by simp [maxLen])
  have hbl : (List.flatMap blob [a, b]).length < 288230376151711744 := by simp [blob, be_length, ha, hb]
  have hrl : (bv (aboveM a b)).length = 32 := by rw [bv_length, aboveM_length]
  have hro := bv_one (aboveM a b)
  have hR : bv (sha (textM 3 [a, b])) = bv (aboveM a b) := rfl
  generalize bv (aboveM a b) = R at hrl hro hR ⊢
  have HSA := Lib.hid hsa
  have HSB := Lib.hid hsb
  have HBL := Lib.hid hbl
  have HR := Lib.hid hR
  have HRL := Lib.hid hrl
  have HDL := Lib.hid hdl
  have HB4 := Lib.hid hb4
  have HX0 := Lib.hid hx0
  clear hb0 hb1 hb4 hx0 hsa hsb hbl hR hrl hdl
  generalize bv a = AC at *
  generalize bv b = BC at *
  go_enter Try.func38, Try.ntmps38
  go_wp2_with (first
    | (refine wpList_alloc _ rfl 55 rfl _ hzd ?_)
    | fail)
  simp only [World.size_alloc]
  refine stab_store Ext ext_refl ext_trans [[0], [1], [0, 1, 2], [0, 1, 2, 3], [0, 1, 2, 3, 4]] (fun i v wv => match i with | 0 => v = .slice (some ⟨w.heap.size, 0, none⟩) 32 32 | 1 => v = .slice (some ⟨w.heap.size + 1, 0, none⟩) 32 32 | 2 => ∃ F, (Ty.sl (.sl .u8)).holds wv F [v] [a, b] ∧ ∀ b, F b → b < wv.heap.size | 3 => v = .agg R.toArray | _ => True) (by kernel_rfl) (by kernel_rfl) (by kernel_rfl) (by kernel_rfl) (by simp) ?_ ?_ ?_
  · intro i v w1 w2 h hx
    match i, h with
    | 0, h => exact h
    | 1, h => exact h
    | 2, h =>
      replace h : ∃ F, (Ty.sl (.sl .u8)).holds w1 F [v] [a, b] ∧ ∀ b, F b → b < w1.heap.size := h
      show ∃ F, (Ty.sl (.sl .u8)).holds w2 F [v] [a, b] ∧ ∀ b, F b → b < w2.heap.size
      obtain ⟨F, h1, h2⟩ := h
      exact ⟨F, hx.holds h2 h1, fun b hb => Nat.lt_of_lt_of_le (h2 b hb) hx.size⟩
    | 3, h => exact h
    | i + 4, h => trivial
  · intro i hi o ho
    match i, hi, ho with
    | 0, _, ho =>
      obtain rfl := Option.some.inj ho
      intro s W hX hd K hK
      rw [if_pos (wanted_plain rfl)]
      clear hd
      replace hK : ∀ (v : Value) (W' : World), Ext W W' → (v = .slice (some ⟨w.heap.size, 0, none⟩) 32 32) → _ := hK
      simp only [mkOf, List.map_cons, List.map_nil, Act.put, List.setIfInBounds_toArray, List.set_cons_succ, List.set_cons_zero, Nat.reduceAdd, Nat.zero_add] at hK ⊢
      go_simp
      exact hK _ _ (Ext.refl _) rfl
    | 1, _, ho =>
      obtain rfl := Option.some.inj ho
      intro s W hX hd K hK
      rw [if_pos (wanted_plain rfl)]
      clear hd
      replace hK : ∀ (v : Value) (W' : World), Ext W W' → (v = .slice (some ⟨w.heap.size + 1, 0, none⟩) 32 32) → _ := hK
      simp only [mkOf, List.map_cons, List.map_nil, Act.put, List.setIfInBounds_toArray, List.set_cons_succ, List.set_cons_zero, Nat.reduceAdd, Nat.zero_add] at hK ⊢
      go_simp
      exact hK _ _ (Ext.refl _) rfl
    | 2, _, ho =>
      obtain rfl := Option.some.inj ho
      intro s W hX hd K hK
      rw [if_pos (wanted_plain rfl)]
      have d5 : (s 0) = .slice (some ⟨w.heap.size, 0, none⟩) 32 32 := hd 0 (by decide) (by decide)
      have d6 : (s 1) = .slice (some ⟨w.heap.size + 1, 0, none⟩) 32 32 := hd 1 (by decide) (by decide)
      clear hd
      replace hK : ∀ (v : Value) (W' : World), Ext W W' → (∃ F, (Ty.sl (.sl .u8)).holds W' F [v] [a, b] ∧ ∀ b, F b → b < W'.heap.size) → _ := hK
      simp only [mkOf, List.map_cons, List.map_nil, Act.put, List.setIfInBounds_toArray, List.set_cons_succ, List.set_cons_zero, Nat.reduceAdd, Nat.zero_add] at hK ⊢
      simp only [d5, d6] at hK ⊢
      have h1 := HSA.out W hX
      have h2 := HSB.out W hX
      go_simp
      exact hK _ _ ((Ext.refl _).alloc _) (two_parts h1.1 h1.2 h2.1 h2.2)
    | 3, _, ho =>
      obtain rfl := Option.some.inj ho
      intro s W hX hd K hK
      rw [if_pos (wanted_plain rfl)]
      have d7 : ∃ F, (Ty.sl (.sl .u8)).holds W F [(s 2)] [a, b] ∧ ∀ b, F b → b < W.heap.size := hd 2 (by decide) (by decide)
      clear hd
      replace hK : ∀ (v : Value) (W' : World), Ext W W' → (v = .agg R.toArray) → _ := hK
      simp only [mkOf, List.map_cons, List.map_nil, Act.put, List.setIfInBounds_toArray, List.set_cons_succ, List.set_cons_zero, Nat.reduceAdd, Nat.zero_add] at hK ⊢
      obtain ⟨F, h1, h2⟩ := d7
      go_simp
      refine (For_i 3 3 rfl _ _ W F h1 h2 HBL.out).mono ?_
      rintro e w' ⟨rfl, hx⟩
      exact hK _ _ hx (by rw [HR.out])
    | i + 4, hi, _ => exact absurd hi (by simp)
  · intro o ho
    obtain rfl := Option.some.inj ho
    intro s W hX hd K hK
    rw [if_pos (wanted_plain rfl)]
    have d5 : (s 0) = .slice (some ⟨w.heap.size, 0, none⟩) 32 32 := hd 0 (by decide)
    have d6 : (s 1) = .slice (some ⟨w.heap.size + 1, 0, none⟩) 32 32 := hd 1 (by decide)
    have d7 : ∃ F, (Ty.sl (.sl .u8)).holds W F [(s 2)] [a, b] ∧ ∀ b, F b → b < W.heap.size := hd 2 (by decide)
    have d8 : (s 3) = .agg R.toArray := hd 3 (by decide)
    clear hd
    simp only [mkOf, List.map_cons, List.map_nil, Act.put, List.setIfInBounds_toArray, List.set_cons_succ, List.set_cons_zero, Nat.reduceAdd, Nat.zero_add]
    have hB := HB4.out.keep hX (by simp)
    refine wp_store_row 55 (.tmp 4) (.tmp 8) rfl (w.heap.size + 2) (by simp [Act.eval]) D R _ (by simpa [Act.eval] using d8) hB (digest_size HRL.out) (by rw [HRL.out, HDL.out]) hro ?_
    refine hK _ _ ?_
    have hxw : Ext w (W.setRow (w.heap.size + 2) R.toArray) := setRow_grown (HX0.out.trans hX) _ _ (by omega)
    have hc : Cells (W.setRow (w.heap.size + 2) R.toArray) ⟨w.heap.size + 2, 0, none⟩ R := Blk.cells (t := 55) (setRow_at hB)
    (try simp only [Exit.then])
    go_wp2_with fail
    (try simp only [Exit.inBlock, Exit.then])
    refine bodyPost_ret (results_agg rfl _ _ _ _ _ rfl Try.underlying55 rfl (digest_size HRL.out) hc) rfl ?_
    exact ⟨rfl, hxw⟩
end
end Go.Proofs.Ytpdkmapogncgmaa
