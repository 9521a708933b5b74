/- The log of texts: Note, Met, Many. No condition but what each names. -/
import Derived.Test.YtklljkfnlakdaaaMAwake
import Derived.Test.YtklljkfnlakdaaaDst
import Derived.Test.YtklljkfnlakdaaaQuiet
import Derived.Maps.OwnSet
set_option linter.unusedVariables false
set_option linter.unusedSimpArgs false
set_option linter.unnecessarySimpa false
namespace Go.Proofs.Ytklljkfnlakdaaa
open Go.RowKit
open Go.Maps (Keyed IsMap Tidy)

abbrev DU := DataW Unit
/-- What the text is noted by: the number of the first four bytes. -/
def klit (d : List UInt8) : Lit := .int .u32 ((beNum (d.take 4) : Nat) : Int)
def slit (t : List UInt8) : DU := .lit (.string t)
def OwnM (w : World) (b n : Nat) (D : DU) : Prop := w.ownsMap Try.prog 61 (plainElem Try.prog 9) b n D
theorem mlaw : Keyed Try.prog 61 := Maps.int_keyed (q := .u32) Try.underlying61
theorem num4_lt (d : List UInt8) (h : d.length = 4) : beNum d < 4294967296 := by have := beNum_lt d; rw [h] at this; exact this
theorem wf_num4 (d : List UInt8) (h : d.length = 4) : (Lit.int .u32 ((beNum d : Nat) : Int)).wf = true := WalkArith.wf_u32 (by have := num4_lt d h; omega)
theorem key_of (d : List UInt8) (h : 4 ≤ d.length) : keyOf Try.prog 61 (.int .u32 ((beNum (d.take 4) : Nat) : Int)) = some (klit d) :=
  Maps.keyOf_int_mk Try.underlying61 (wf_num4 _ (by simp; omega))
theorem plain_string_inv {P : Program} {e : TypeId} (he : P.underlying e = some .string) {v : Value} {z : DU × List MemPlace} (h : plainElem P e v = some z) : ∃ s : ByteArray, v = .string s ∧ z = (.lit (.string s.data.toList), []) ∧ s.size ≤ maxLen := by
  unfold plainElem at h
  rw [he] at h
  cases v <;> simp at h
  obtain ⟨hw, rfl⟩ := h
  exact ⟨_, rfl, rfl, hw⟩
theorem strOf_data (t : List UInt8) : (strOf t).data.toList = t := by simp [strOf]
theorem strOf_size (t : List UInt8) : (strOf t).size = t.length := by simp [strOf, ByteArray.size]
section
variable {P : Program} (w : World) {ops : Array Oper} {rest : List Oper} {o : Oper} {a : Act} {Q : Exit → Act → World → Prop}
/-- 'v, ok := m[k]', the elements strings. -/
theorem wpList_look_str (hg : o.guard = none) (m x : Operand) (t : TypeId) (hop : o.op = Op.lookup t m x true)
    (k e : TypeId) (K : Keyed P k) (ht : P.underlying t = some (.map k e)) (he : P.underlying e = some .string) (hz : (zeroValue e).run P w = .ok (.string ByteArray.empty) w) (b n : Nat) (D : DU)
    (hm : a.eval m = .map (some b)) (hown : w.ownsMap P k (plainElem P e) b n D) (key : Value) (kl : Lit) (hx : a.eval x = key) (hkey : keyOf P k key = some kl)
    (hK : ∀ s : List UInt8, D.atKey kl (slit []) = slit s → s.length ≤ maxLen → wpList P ops Q rest (a.put o.dst (.tuple #[.string (strOf s), .bool (Maps.has D kl)])) w) :
    wpList P ops Q (o :: rest) a w :=
  wpList_lookup_own_ok w hg m x t hop k e K ht (plainElem P e) hz (slit []) [] (by simp [plainElem, he, slit]) b n D hm hown key kl hx hkey (fun v ps hv => by
    obtain ⟨s, rfl, hc, hwc⟩ := plain_string_inv he hv
    have := hK s.data.toList (congrArg Prod.fst hc) (by rw [Array.length_toList]; exact hwc)
    rwa [show strOf s.data.toList = s by cases s; simp [strOf]] at this)
end
theorem plain_str (t : List UInt8) (h : t.length ≤ 1000) : plainElem (H := Unit) Try.prog 9 (.string (strOf t)) = some (slit t, []) := by
  rw [plainElem_string Try.underlying9 (by rw [strOf_size]; unfold maxLen; omega), strOf_data, slit]
theorem zero_string (w : World) : (zeroValue 9).run Try.prog w = .ok (.string ByteArray.empty) w := by kernel_rfl
theorem OwnM.keep {w w' : World} {b n : Nat} {D : DU} {row : Option Nat} (h : OwnM w b n D) (hg : w.grownBy w' row) (hne : some b ≠ row) : OwnM w' b n D := World.ownsMap.kept h hg hne
theorem OwnM.lt {w : World} {b n : Nat} {D : DU} (h : OwnM w b n D) : b < w.heap.size := World.ownsMap.lt h
/-- The log in its block: no map as yet, or one. -/
def MapIs (w : World) (mo : Option Nat) (n : Nat) (D : DU) : Prop := match mo with
  | none => D = .map []
  | some b => OwnM w b n D
theorem blk_map {w : World} {g b n : Nat} {t : TypeId} {cs : List Value} {D : DU} (h : Blk w g t cs) (k : OwnM w b n D) : b ≠ g := by
  rintro rfl
  obtain ⟨es, clock, hb, _⟩ := k
  rw [show w.heap[b]? = _ from h] at hb
  cases hb
def metN (D : DU) (d t : List UInt8) (met : Bool) (s : List UInt8) : Bool := met || (Maps.has D (klit d) && !(s == t))

/-- Behind a note. -/
def Noted (w w' : World) (g b n : Nat) (D : DU) (d t : List UInt8) (met : Bool) : Prop := ∃ s : List UInt8, D.atKey (klit d) (slit []) = slit s ∧
  Blk w' g 49 [.map (some b), .bool (metN D d t met s)] ∧ OwnM w' b (n + 1) (D.put (klit d) (slit t)) ∧ ∃ wm, w.grownBy wm (some g) ∧ wm.grownBy w' (some b)
theorem eqMap (bm : Nat) (w : World) : (binOp .eql 47 (.map (some bm)) (.map none)).run Try.prog w = .ok (.bool false) w := by kernel_rfl
theorem eqMap0 (w : World) : (binOp .eql 47 (.map none) (.map none)).run Try.prog w = .ok (.bool true) w := by kernel_rfl
set_option maxHeartbeats 1000000 in
theorem Note_one (g b n : Nat) (D : DU) (met : Bool) (d : List UInt8) (tv : Value) (t : List UInt8) (w : World) (F : Fp) (hd : d.length = 32) (hl : Blk w g 49 [.map (some b), .bool met]) (hm : OwnM w b n D) (hn : n < 1000)
    (ht : (Ty.sl .u8).holds w F [tv] t) (hF : ∀ b', F b' → b' < w.heap.size ∧ b' ≠ g ∧ b' ≠ b) (htl : t.length ≤ 1000) :
    Calls Try.prog 21 #[.pointer (some ⟨g, 0, none⟩), .agg (bv d).toArray, tv] w fun e w' => e = .returned (.tuple #[]) ∧ Noted w w' g b n D d t met := by
  have c0 : w.cell? ⟨g, 0, none⟩ = some (.map (some b)) := hl.cell 0
  have hgl := hl.lt
  have hbg := blk_map hl hm
  have hd4 : (d.take 4).length = 4 := by simp; omega
  have eqm := eqMap b
  have ht0 := ht
  obtain ⟨A, c, xs, hv, hlc, hc, hA, hcell, hall⟩ := ht
  cases hv
  have hsx := src_bytes ht0
  unfold maxLen at hc
  have hbt : t.length ≠ 0 → bv t ≠ [] := bv_ne t
  obtain ⟨m0, hm0⟩ : ∃ m0, m0 = met := ⟨_, rfl⟩
  rw [← hm0]
  have HM0 := Lib.hid hm0
  clear hm0
  go_enter Try.func21, Try.ntmps21
  go_wp2_with fail
  have hs0 : Src (w.alloc (.cells (bv d).toArray 25)) A t.length (bv t) := hsx.alloc hbt _
  have hs1 : ∀ u, Src ((w.alloc (.cells (bv d).toArray 25)).setCell ⟨g, 1, none⟩ u) A t.length (bv t) := fun u hn => by
    obtain ⟨ad, rfl, hf, hcc⟩ := hcell (by rintro rfl; simp at hn)
    have hk := hF _ hf
    refine ⟨ad, rfl, ?_⟩
    rw [← AllH.bytes.1 hall]
    exact (hcc.keep (Below.heap_alloc _ _ _ (by simpa using hk.1))).keep (heap_setCell_other _ ⟨g, 1, none⟩ _ u hk.2.1)
  have HS1 := Lib.hid hs1
  clear hs1 c0 eqm
  have hm0 : OwnM (w.alloc (.cells (bv d).toArray 25)) b n D := World.ownsMap.alloc hm _
  have hl0 : Blk (w.alloc (.cells (bv d).toArray 25)) g 49 [.map (some b), .bool met] := hl.keep (World.grownBy_alloc _ _ none) (by simp)
  have hx0 : Blk (w.alloc (.cells (bv d).toArray 25)) w.heap.size 25 (bv d) := Blk.new _ _ _
  have hg0 : w.grownBy (w.alloc (.cells (bv d).toArray 25)) (some g) := World.grownBy_alloc _ _ _
  clear hm hl
  generalize w.alloc (.cells (bv d).toArray 25) = W0 at hm0 hl0 hx0 hg0 hs0 HS1 ⊢
  have HG0 := Lib.hid hg0
  clear hg0 hsx hcell hall ht0 hA
  refine (Word _ ⟨w.heap.size, 0, none⟩ 32 32 (d.take 4) hd4 (by omega) (by omega) (by unfold maxLen; omega) (by have := hx0.cells.take 4; unfold bv at this ⊢; rwa [List.map_take])).mono ?_
  rintro e w1 ⟨rfl, rfl⟩
  have c0 : W0.cell? ⟨g, 0, none⟩ = some (.map (some b)) := hl0.cell 0
  have c1 : W0.cell? ⟨g, 0 + 1, none⟩ = some (.bool met) := hl0.cell 1
  have f1 : W0.frozen? ⟨g, 1, none⟩ = false := hl0.free 1
  have hcv : (convert 22 9 (.slice A t.length c)).run Try.prog W0 = .ok (.string (strOf t)) W0 := run_str _ 22 9 5 Try.underlying22 Try.underlying5 Try.underlying9 A c t hs0
  go_wp2_with (first
    | ((with_reducible refine wpDst 28 rfl ?_); at_lookup; refine wpList_look_str _ rfl _ _ 47 rfl 61 9 mlaw Try.underlying47 Try.underlying9 (zero_string _) b n D rfl hm0 _ _ rfl (key_of d (by omega)) ?_; intro s hat0 hsl; have hat := Lib.hid hat0; clear hat0)
    | fail)
  · have hU : (.bool true : Value) = .bool (metN D d t met s) := by simp_all [metN, strOf_toList]
    have h1 : Src (W0.setCell ⟨g, 1, none⟩ (.bool true)) A t.length (bv t) := HS1.out _
    have h2 : OwnM (W0.setCell ⟨g, 1, none⟩ (.bool true)) b n D := World.ownsMap.setCell hm0 (a := ⟨g, 1, none⟩) hbg _
    have h3 := hl0.set 1 (.bool true)
    have h4 : w.grownBy (W0.setCell ⟨g, 1, none⟩ (.bool true)) (some g) := HG0.out.trans (only_set 1 _)
    generalize W0.setCell ⟨g, 1, none⟩ (.bool true) = W at h1 h2 h3 h4 ⊢
    simp only [List.set_cons_succ, List.set_cons_zero] at h3
    rw [hU] at h3
    clear hU hcv c0 c1 f1
    have c0 : W.cell? ⟨g, 0, none⟩ = some (.map (some b)) := h3.cell 0
    refine wp_region_draw_tail 7 (by kernel_rfl) (by kernel_rfl) (by kernel_rfl) ?_
    simp only [List.take_succ_cons, List.take_zero, List.drop_succ_cons, List.drop_zero]
    repeat (go_big_quiet_step (fail))
    go_big_quiet_want
    refine quiet_str 22 9 (.tmp 52) rfl 5 Try.underlying22 Try.underlying5 Try.underlying9 A _ c t rfl rfl (fun W' h => by obtain ⟨nq, rfl⟩ := h; exact h1) ?_
    simp only [Act.put, List.setIfInBounds_toArray, List.set_cons_succ, List.set_cons_zero]
    go_big_quiet_on
    refine wpQuiet_nil ?_
    rintro _ ⟨nq, rfl⟩
    have h2' : OwnM (W.drewN nq) b n D := h2
    have h3' : Blk (W.drewN nq) g 49 [.map (some b), .bool (metN D d t met s)] := h3
    have h4' : w.grownBy (W.drewN nq) (some g) := ⟨h4.os, h4.tape, h4.output, h4.size, h4.block⟩
    clear h1 h2 h3 h4 c0
    generalize W.drewN nq = W at h2' h3' h4' ⊢
    go_wp2_with (first
      | (at_mapUpdate; refine wpList_mapUpdate_own _ rfl _ _ _ 47 rfl 61 9 mlaw Try.underlying47 _ b n D rfl h2' (by unfold maxLen; omega) _ _ _ rfl rfl (key_of d (by omega)) (slit t) [] (plain_str t (by omega)) ?_; intro w1 hown1 hgrow1)
      | fail)
    exact bodyPost_end (results_none rfl _ _ _) rfl ⟨rfl, ⟨s, hat.out, HM0.out ▸ h3'.keep hgrow1 (fun e => hbg (by cases e; rfl)), hown1, W, h4', hgrow1⟩⟩
  · have hU : (.bool !(strOf s).toList == (strOf t).toList : Value) = .bool (metN D d t met s) := by simp_all [metN, strOf_toList]
    have h1 : Src (W0.setCell ⟨g, 1, none⟩ (.bool !(strOf s).toList == (strOf t).toList)) A t.length (bv t) := HS1.out _
    have h2 : OwnM (W0.setCell ⟨g, 1, none⟩ (.bool !(strOf s).toList == (strOf t).toList)) b n D := World.ownsMap.setCell hm0 (a := ⟨g, 1, none⟩) hbg _
    have h3 := hl0.set 1 (.bool !(strOf s).toList == (strOf t).toList)
    have h4 : w.grownBy (W0.setCell ⟨g, 1, none⟩ (.bool !(strOf s).toList == (strOf t).toList)) (some g) := HG0.out.trans (only_set 1 _)
    generalize W0.setCell ⟨g, 1, none⟩ (.bool !(strOf s).toList == (strOf t).toList) = W at h1 h2 h3 h4 ⊢
    simp only [List.set_cons_succ, List.set_cons_zero] at h3
    rw [hU] at h3
    clear hU hcv c0 c1 f1
    have c0 : W.cell? ⟨g, 0, none⟩ = some (.map (some b)) := h3.cell 0
    refine wp_region_draw_tail 7 (by kernel_rfl) (by kernel_rfl) (by kernel_rfl) ?_
    simp only [List.take_succ_cons, List.take_zero, List.drop_succ_cons, List.drop_zero]
    repeat (go_big_quiet_step (fail))
    go_big_quiet_want
    refine quiet_str 22 9 (.tmp 52) rfl 5 Try.underlying22 Try.underlying5 Try.underlying9 A _ c t rfl rfl (fun W' h => by obtain ⟨nq, rfl⟩ := h; exact h1) ?_
    simp only [Act.put, List.setIfInBounds_toArray, List.set_cons_succ, List.set_cons_zero]
    go_big_quiet_on
    refine wpQuiet_nil ?_
    rintro _ ⟨nq, rfl⟩
    have h2' : OwnM (W.drewN nq) b n D := h2
    have h3' : Blk (W.drewN nq) g 49 [.map (some b), .bool (metN D d t met s)] := h3
    have h4' : w.grownBy (W.drewN nq) (some g) := ⟨h4.os, h4.tape, h4.output, h4.size, h4.block⟩
    clear h1 h2 h3 h4 c0
    generalize W.drewN nq = W at h2' h3' h4' ⊢
    go_wp2_with (first
      | (at_mapUpdate; refine wpList_mapUpdate_own _ rfl _ _ _ 47 rfl 61 9 mlaw Try.underlying47 _ b n D rfl h2' (by unfold maxLen; omega) _ _ _ rfl rfl (key_of d (by omega)) (slit t) [] (plain_str t (by omega)) ?_; intro w1 hown1 hgrow1)
      | fail)
    exact bodyPost_end (results_none rfl _ _ _) rfl ⟨rfl, ⟨s, hat.out, HM0.out ▸ h3'.keep hgrow1 (fun e => hbg (by cases e; rfl)), hown1, W, h4', hgrow1⟩⟩
  · have hU : (.bool false : Value) = .bool (metN D d t met s) := by simp_all [metN, strOf_toList]
    have h1 : Src (W0.setCell ⟨g, 1, none⟩ (.bool false)) A t.length (bv t) := HS1.out _
    have h2 : OwnM (W0.setCell ⟨g, 1, none⟩ (.bool false)) b n D := World.ownsMap.setCell hm0 (a := ⟨g, 1, none⟩) hbg _
    have h3 := hl0.set 1 (.bool false)
    have h4 : w.grownBy (W0.setCell ⟨g, 1, none⟩ (.bool false)) (some g) := HG0.out.trans (only_set 1 _)
    generalize W0.setCell ⟨g, 1, none⟩ (.bool false) = W at h1 h2 h3 h4 ⊢
    simp only [List.set_cons_succ, List.set_cons_zero] at h3
    rw [hU] at h3
    clear hU hcv c0 c1 f1
    have c0 : W.cell? ⟨g, 0, none⟩ = some (.map (some b)) := h3.cell 0
    refine wp_region_draw_tail 7 (by kernel_rfl) (by kernel_rfl) (by kernel_rfl) ?_
    simp only [List.take_succ_cons, List.take_zero, List.drop_succ_cons, List.drop_zero]
    repeat (go_big_quiet_step (fail))
    go_big_quiet_want
    refine quiet_str 22 9 (.tmp 52) rfl 5 Try.underlying22 Try.underlying5 Try.underlying9 A _ c t rfl rfl (fun W' h => by obtain ⟨nq, rfl⟩ := h; exact h1) ?_
    simp only [Act.put, List.setIfInBounds_toArray, List.set_cons_succ, List.set_cons_zero]
    go_big_quiet_on
    refine wpQuiet_nil ?_
    rintro _ ⟨nq, rfl⟩
    have h2' : OwnM (W.drewN nq) b n D := h2
    have h3' : Blk (W.drewN nq) g 49 [.map (some b), .bool (metN D d t met s)] := h3
    have h4' : w.grownBy (W.drewN nq) (some g) := ⟨h4.os, h4.tape, h4.output, h4.size, h4.block⟩
    clear h1 h2 h3 h4 c0
    generalize W.drewN nq = W at h2' h3' h4' ⊢
    go_wp2_with (first
      | (at_mapUpdate; refine wpList_mapUpdate_own _ rfl _ _ _ 47 rfl 61 9 mlaw Try.underlying47 _ b n D rfl h2' (by unfold maxLen; omega) _ _ _ rfl rfl (key_of d (by omega)) (slit t) [] (plain_str t (by omega)) ?_; intro w1 hown1 hgrow1)
      | fail)
    exact bodyPost_end (results_none rfl _ _ _) rfl ⟨rfl, ⟨s, hat.out, HM0.out ▸ h3'.keep hgrow1 (fun e => hbg (by cases e; rfl)), hown1, W, h4', hgrow1⟩⟩

set_option maxHeartbeats 1000000 in
theorem Note_first (g n : Nat) (D : DU) (hn0 : n = 0) (hD : D = .map []) (met : Bool) (d : List UInt8) (tv : Value) (t : List UInt8) (w : World) (F : Fp) (hd : d.length = 32) (hl : Blk w g 49 [.map none, .bool met])
    (ht : (Ty.sl .u8).holds w F [tv] t) (hF : ∀ b', F b' → b' < w.heap.size ∧ b' ≠ g) (htl : t.length ≤ 1000) :
    Calls Try.prog 21 #[.pointer (some ⟨g, 0, none⟩), .agg (bv d).toArray, tv] w fun e w' => e = .returned (.tuple #[]) ∧ ∃ b, w.heap.size ≤ b ∧ Noted w w' g b n D d t met := by
  have c0 : w.cell? ⟨g, 0, none⟩ = some (.map none) := hl.cell 0
  have hgl := hl.lt
  have hd4 : (d.take 4).length = 4 := by simp; omega
  have eqm := eqMap0
  have f0 : w.frozen? ⟨g, 0, none⟩ = false := hl.free 0
  have hmm := @run_makeMap Try.prog
  have HD := Lib.hid hD
  clear hD
  have HN0 := Lib.hid hn0
  clear hn0
  have ht0 := ht
  obtain ⟨A, c, xs, hv, hlc, hc, hA, hcell, hall⟩ := ht
  cases hv
  have hsx := src_bytes ht0
  unfold maxLen at hc
  have hbt : t.length ≠ 0 → bv t ≠ [] := bv_ne t
  obtain ⟨m0, hm0⟩ : ∃ m0, m0 = met := ⟨_, rfl⟩
  rw [← hm0]
  have HM0 := Lib.hid hm0
  clear hm0
  go_enter Try.func21, Try.ntmps21
  go_wp2_with fail
  have hs1 : ∀ u, Src ((((w.setCell ⟨g, 0, none⟩ (.map (some (w.heap.size + 1)))).alloc (.cells (bv d).toArray 25)).alloc (.map #[] 0)).setCell ⟨g, 1, none⟩ u) A t.length (bv t) := fun u hn => by
    obtain ⟨ad, rfl, hf, hcc⟩ := hcell (by rintro rfl; simp at hn)
    have hk := hF _ hf
    refine ⟨ad, rfl, ?_⟩
    rw [← AllH.bytes.1 hall]
    exact (((hcc.keep (heap_setCell_other _ ⟨g, 0, none⟩ _ _ hk.2)).keep (Below.heap_alloc _ _ _ (by simpa using hk.1))).keep (Below.heap_alloc _ _ _ (by simp; omega))).keep (heap_setCell_other _ ⟨g, 1, none⟩ _ u hk.2)
  have hs0 : Src (((w.setCell ⟨g, 0, none⟩ (.map (some (w.heap.size + 1)))).alloc (.cells (bv d).toArray 25)).alloc (.map #[] 0)) A t.length (bv t) := fun hn => by
    obtain ⟨ad, rfl, hf, hcc⟩ := hcell (by rintro rfl; simp at hn)
    have hk := hF _ hf
    refine ⟨ad, rfl, ?_⟩
    rw [← AllH.bytes.1 hall]
    exact ((hcc.keep (heap_setCell_other _ ⟨g, 0, none⟩ _ _ hk.2)).keep (Below.heap_alloc _ _ _ (by simpa using hk.1))).keep (Below.heap_alloc _ _ _ (by simp; omega))
  have HS1 := Lib.hid hs1
  clear hs1 c0 eqm f0 hmm
  have hm0 : OwnM (((w.setCell ⟨g, 0, none⟩ (.map (some (w.heap.size + 1)))).alloc (.cells (bv d).toArray 25)).alloc (.map #[] 0)) (w.heap.size + 1) n D := by
    rw [HN0.out, HD.out]
    have := World.ownsMap_made (H := Unit) ((w.setCell ⟨g, 0, none⟩ (.map (some (w.heap.size + 1)))).alloc (.cells (bv d).toArray 25)) Try.prog 61 (plainElem Try.prog 9)
    simpa [OwnM] using this
  have hl0 : Blk (((w.setCell ⟨g, 0, none⟩ (.map (some (w.heap.size + 1)))).alloc (.cells (bv d).toArray 25)).alloc (.map #[] 0)) g 49 [.map (some (w.heap.size + 1)), .bool met] :=
    ((hl.set 0 (.map (some (w.heap.size + 1)))).keep (World.grownBy_alloc _ _ none) (by simp)).keep (World.grownBy_alloc _ _ none) (by simp)
  have hx0 : Blk (((w.setCell ⟨g, 0, none⟩ (.map (some (w.heap.size + 1)))).alloc (.cells (bv d).toArray 25)).alloc (.map #[] 0)) w.heap.size 25 (bv d) := by
    have := (Blk.new (w.setCell ⟨g, 0, none⟩ (.map (some (w.heap.size + 1)))) 25 (bv d)).keep (World.grownBy_alloc _ (.map #[] 0) none) (by simp)
    simpa using this
  have hg0 : w.grownBy (((w.setCell ⟨g, 0, none⟩ (.map (some (w.heap.size + 1)))).alloc (.cells (bv d).toArray 25)).alloc (.map #[] 0)) (some g) := ((only_set 0 _).trans (World.grownBy_alloc _ _ _)).trans (World.grownBy_alloc _ _ _)
  clear hl
  have hbg : w.heap.size + 1 ≠ g := by omega
  have hn : n < 1000 := by have := HN0.out; omega
  generalize ((w.setCell ⟨g, 0, none⟩ (.map (some (w.heap.size + 1)))).alloc (.cells (bv d).toArray 25)).alloc (.map #[] 0) = W0 at hm0 hl0 hx0 hg0 hs0 HS1 ⊢
  have hbs : w.heap.size ≤ w.heap.size + 1 := by omega
  generalize w.heap.size + 1 = b at hm0 hl0 hbg hbs ⊢
  have HG0 := Lib.hid hg0
  clear hg0 hsx hcell hall ht0 hA
  refine (Word _ ⟨w.heap.size, 0, none⟩ 32 32 (d.take 4) hd4 (by omega) (by omega) (by unfold maxLen; omega) (by have := hx0.cells.take 4; unfold bv at this ⊢; rwa [List.map_take])).mono ?_
  rintro e w1 ⟨rfl, rfl⟩
  have c0 : W0.cell? ⟨g, 0, none⟩ = some (.map (some b)) := hl0.cell 0
  have c1 : W0.cell? ⟨g, 0 + 1, none⟩ = some (.bool met) := hl0.cell 1
  have f1 : W0.frozen? ⟨g, 1, none⟩ = false := hl0.free 1
  have hcv : (convert 22 9 (.slice A t.length c)).run Try.prog W0 = .ok (.string (strOf t)) W0 := run_str _ 22 9 5 Try.underlying22 Try.underlying5 Try.underlying9 A c t hs0
  go_wp2_with (first
    | ((with_reducible refine wpDst 28 rfl ?_); at_lookup; refine wpList_look_str _ rfl _ _ 47 rfl 61 9 mlaw Try.underlying47 Try.underlying9 (zero_string _) b n D rfl hm0 _ _ rfl (key_of d (by omega)) ?_; intro s hat0 hsl; have hat := Lib.hid hat0; clear hat0)
    | fail)
  · have hU : (.bool true : Value) = .bool (metN D d t met s) := by simp_all [metN, strOf_toList]
    have h1 : Src (W0.setCell ⟨g, 1, none⟩ (.bool true)) A t.length (bv t) := HS1.out _
    have h2 : OwnM (W0.setCell ⟨g, 1, none⟩ (.bool true)) b n D := World.ownsMap.setCell hm0 (a := ⟨g, 1, none⟩) hbg _
    have h3 := hl0.set 1 (.bool true)
    have h4 : w.grownBy (W0.setCell ⟨g, 1, none⟩ (.bool true)) (some g) := HG0.out.trans (only_set 1 _)
    generalize W0.setCell ⟨g, 1, none⟩ (.bool true) = W at h1 h2 h3 h4 ⊢
    simp only [List.set_cons_succ, List.set_cons_zero] at h3
    rw [hU] at h3
    clear hU hcv c0 c1 f1
    have c0 : W.cell? ⟨g, 0, none⟩ = some (.map (some b)) := h3.cell 0
    refine wp_region_draw_tail 7 (by kernel_rfl) (by kernel_rfl) (by kernel_rfl) ?_
    simp only [List.take_succ_cons, List.take_zero, List.drop_succ_cons, List.drop_zero]
    repeat (go_big_quiet_step (fail))
    go_big_quiet_want
    refine quiet_str 22 9 (.tmp 52) rfl 5 Try.underlying22 Try.underlying5 Try.underlying9 A _ c t rfl rfl (fun W' h => by obtain ⟨nq, rfl⟩ := h; exact h1) ?_
    simp only [Act.put, List.setIfInBounds_toArray, List.set_cons_succ, List.set_cons_zero]
    go_big_quiet_on
    refine wpQuiet_nil ?_
    rintro _ ⟨nq, rfl⟩
    have h2' : OwnM (W.drewN nq) b n D := h2
    have h3' : Blk (W.drewN nq) g 49 [.map (some b), .bool (metN D d t met s)] := h3
    have h4' : w.grownBy (W.drewN nq) (some g) := ⟨h4.os, h4.tape, h4.output, h4.size, h4.block⟩
    clear h1 h2 h3 h4 c0
    generalize W.drewN nq = W at h2' h3' h4' ⊢
    go_wp2_with (first
      | (at_mapUpdate; refine wpList_mapUpdate_own _ rfl _ _ _ 47 rfl 61 9 mlaw Try.underlying47 _ b n D rfl h2' (by unfold maxLen; omega) _ _ _ rfl rfl (key_of d (by omega)) (slit t) [] (plain_str t (by omega)) ?_; intro w1 hown1 hgrow1)
      | fail)
    exact bodyPost_end (results_none rfl _ _ _) rfl ⟨rfl, b, hbs, ⟨s, hat.out, HM0.out ▸ h3'.keep hgrow1 (fun e => hbg (by cases e; rfl)), hown1, W, h4', hgrow1⟩⟩
  · have hU : (.bool !(strOf s).toList == (strOf t).toList : Value) = .bool (metN D d t met s) := by simp_all [metN, strOf_toList]
    have h1 : Src (W0.setCell ⟨g, 1, none⟩ (.bool !(strOf s).toList == (strOf t).toList)) A t.length (bv t) := HS1.out _
    have h2 : OwnM (W0.setCell ⟨g, 1, none⟩ (.bool !(strOf s).toList == (strOf t).toList)) b n D := World.ownsMap.setCell hm0 (a := ⟨g, 1, none⟩) hbg _
    have h3 := hl0.set 1 (.bool !(strOf s).toList == (strOf t).toList)
    have h4 : w.grownBy (W0.setCell ⟨g, 1, none⟩ (.bool !(strOf s).toList == (strOf t).toList)) (some g) := HG0.out.trans (only_set 1 _)
    generalize W0.setCell ⟨g, 1, none⟩ (.bool !(strOf s).toList == (strOf t).toList) = W at h1 h2 h3 h4 ⊢
    simp only [List.set_cons_succ, List.set_cons_zero] at h3
    rw [hU] at h3
    clear hU hcv c0 c1 f1
    have c0 : W.cell? ⟨g, 0, none⟩ = some (.map (some b)) := h3.cell 0
    refine wp_region_draw_tail 7 (by kernel_rfl) (by kernel_rfl) (by kernel_rfl) ?_
    simp only [List.take_succ_cons, List.take_zero, List.drop_succ_cons, List.drop_zero]
    repeat (go_big_quiet_step (fail))
    go_big_quiet_want
    refine quiet_str 22 9 (.tmp 52) rfl 5 Try.underlying22 Try.underlying5 Try.underlying9 A _ c t rfl rfl (fun W' h => by obtain ⟨nq, rfl⟩ := h; exact h1) ?_
    simp only [Act.put, List.setIfInBounds_toArray, List.set_cons_succ, List.set_cons_zero]
    go_big_quiet_on
    refine wpQuiet_nil ?_
    rintro _ ⟨nq, rfl⟩
    have h2' : OwnM (W.drewN nq) b n D := h2
    have h3' : Blk (W.drewN nq) g 49 [.map (some b), .bool (metN D d t met s)] := h3
    have h4' : w.grownBy (W.drewN nq) (some g) := ⟨h4.os, h4.tape, h4.output, h4.size, h4.block⟩
    clear h1 h2 h3 h4 c0
    generalize W.drewN nq = W at h2' h3' h4' ⊢
    go_wp2_with (first
      | (at_mapUpdate; refine wpList_mapUpdate_own _ rfl _ _ _ 47 rfl 61 9 mlaw Try.underlying47 _ b n D rfl h2' (by unfold maxLen; omega) _ _ _ rfl rfl (key_of d (by omega)) (slit t) [] (plain_str t (by omega)) ?_; intro w1 hown1 hgrow1)
      | fail)
    exact bodyPost_end (results_none rfl _ _ _) rfl ⟨rfl, b, hbs, ⟨s, hat.out, HM0.out ▸ h3'.keep hgrow1 (fun e => hbg (by cases e; rfl)), hown1, W, h4', hgrow1⟩⟩
  · have hU : (.bool false : Value) = .bool (metN D d t met s) := by simp_all [metN, strOf_toList]
    have h1 : Src (W0.setCell ⟨g, 1, none⟩ (.bool false)) A t.length (bv t) := HS1.out _
    have h2 : OwnM (W0.setCell ⟨g, 1, none⟩ (.bool false)) b n D := World.ownsMap.setCell hm0 (a := ⟨g, 1, none⟩) hbg _
    have h3 := hl0.set 1 (.bool false)
    have h4 : w.grownBy (W0.setCell ⟨g, 1, none⟩ (.bool false)) (some g) := HG0.out.trans (only_set 1 _)
    generalize W0.setCell ⟨g, 1, none⟩ (.bool false) = W at h1 h2 h3 h4 ⊢
    simp only [List.set_cons_succ, List.set_cons_zero] at h3
    rw [hU] at h3
    clear hU hcv c0 c1 f1
    have c0 : W.cell? ⟨g, 0, none⟩ = some (.map (some b)) := h3.cell 0
    refine wp_region_draw_tail 7 (by kernel_rfl) (by kernel_rfl) (by kernel_rfl) ?_
    simp only [List.take_succ_cons, List.take_zero, List.drop_succ_cons, List.drop_zero]
    repeat (go_big_quiet_step (fail))
    go_big_quiet_want
    refine quiet_str 22 9 (.tmp 52) rfl 5 Try.underlying22 Try.underlying5 Try.underlying9 A _ c t rfl rfl (fun W' h => by obtain ⟨nq, rfl⟩ := h; exact h1) ?_
    simp only [Act.put, List.setIfInBounds_toArray, List.set_cons_succ, List.set_cons_zero]
    go_big_quiet_on
    refine wpQuiet_nil ?_
    rintro _ ⟨nq, rfl⟩
    have h2' : OwnM (W.drewN nq) b n D := h2
    have h3' : Blk (W.drewN nq) g 49 [.map (some b), .bool (metN D d t met s)] := h3
    have h4' : w.grownBy (W.drewN nq) (some g) := ⟨h4.os, h4.tape, h4.output, h4.size, h4.block⟩
    clear h1 h2 h3 h4 c0
    generalize W.drewN nq = W at h2' h3' h4' ⊢
    go_wp2_with (first
      | (at_mapUpdate; refine wpList_mapUpdate_own _ rfl _ _ _ 47 rfl 61 9 mlaw Try.underlying47 _ b n D rfl h2' (by unfold maxLen; omega) _ _ _ rfl rfl (key_of d (by omega)) (slit t) [] (plain_str t (by omega)) ?_; intro w1 hown1 hgrow1)
      | fail)
    exact bodyPost_end (results_none rfl _ _ _) rfl ⟨rfl, b, hbs, ⟨s, hat.out, HM0.out ▸ h3'.keep hgrow1 (fun e => hbg (by cases e; rfl)), hown1, W, h4', hgrow1⟩⟩

theorem Met_at (g : Nat) (mv : Value) (met : Bool) (w : World) (hl : Blk w g 49 [mv, .bool met]) : Calls Try.prog 22 #[.pointer (some ⟨g, 0, none⟩)] w fun e w' => e = .returned (.bool met) ∧ w = w' := by
  have c1 : w.cell? ⟨g, 0 + 1, none⟩ = some (.bool met) := hl.cell 1
  go_enter Try.func22, Try.ntmps22
  go_wp2
  go_ret
  exact ⟨rfl, rfl⟩
theorem Many_at (g b n : Nat) (D : DU) (met : Bool) (w : World) (hl : Blk w g 49 [.map (some b), .bool met]) (hm : OwnM w b n D) : Calls Try.prog 23 #[.pointer (some ⟨g, 0, none⟩)] w fun e w' => e = .returned (.int .i64 (Maps.size D)) ∧ w = w' := by
  have c0 : w.cell? ⟨g, 0, none⟩ = some (.map (some b)) := hl.cell 0
  go_enter Try.func23, Try.ntmps23
  go_wp2_with (first
    | ((with_reducible refine wpDst 9 rfl ?_); refine wpList_len_own _ rfl _ 47 rfl 61 9 Try.underlying47 _ b n D rfl hm ?_)
    | fail)
  go_ret
  exact ⟨rfl, rfl⟩
end Go.Proofs.Ytklljkfnlakdaaa
