/- The walk of layer 18's To: a memo, its trail and its way. Conditions: the parts have their sizes. -/
import Derived.Test.YtemladlnpaaefaaTo05
import Derived.Test.YtemladlnpaaefaaMOp
set_option linter.unusedVariables false
set_option linter.unusedSimpArgs false
set_option linter.unnecessarySimpa false
namespace Go.Proofs.Ytemladlnpaaefaa
open Go.RowKit

/-! ### Hops, one behind the other; a memo's cells -/
def HopT : Ty := .st (.pair (.nat .u32) (.pair (.nat .u64) (.pair (.nat .u64) .unit)))
abbrev Hp := HopT.Data
def hopC (h : Hp) : List Value := [.int .u32 (h.1 : Int), .int .u64 (h.2.1 : Int), .int .u64 (h.2.2.1 : Int)]
structure HopOk (h : Hp) : Prop where
  ch : (Lit.int .u32 (h.1 : Int)).wf = true
  am : (Lit.int .u64 (h.2.1 : Int)).wf = true
  id : (Lit.int .u64 (h.2.2.1 : Int)).wf = true
abbrev Hops (w : World) (F : Fp) (v : Value) (hs : List Hp) : Prop := (Ty.sl HopT).holds w F [v] hs
theorem hopT_iff {w : World} {F : Fp} {cs : List Value} {h : Hp} : HopT.holds w F cs h ↔ cs = hopC h ∧ HopOk h := by
  obtain ⟨a, b, c, u⟩ := h
  constructor
  · rintro ⟨c1, c2, rfl, ⟨rfl, h1⟩, c3, c4, rfl, ⟨rfl, h2⟩, c5, c6, rfl, ⟨rfl, h3⟩, rfl⟩
    exact ⟨rfl, h1, h2, h3⟩
  · rintro ⟨rfl, h1, h2, h3⟩
    exact ⟨_, _, rfl, ⟨rfl, h1⟩, _, _, rfl, ⟨rfl, h2⟩, _, _, rfl, ⟨rfl, h3⟩, rfl⟩
theorem hopC_one (h : Hp) : ∀ u ∈ hopC h, u.oneCell' = true := by
  intro u hu
  simp only [hopC, List.mem_cons, List.not_mem_nil, or_false] at hu
  rcases hu with rfl | rfl | rfl <;> rfl
theorem hops_iff {w : World} {F : Fp} : ∀ {l : List Hp} {xs : List Value}, AllH (HopT.holds w F) xs l ↔ xs = l.flatMap hopC ∧ ∀ h ∈ l, HopOk h
  | [], xs => by simp [AllH]
  | c :: l, xs => by
    constructor
    · rintro ⟨c1, c2, rfl, h1, h2⟩
      obtain ⟨rfl, ok⟩ := hopT_iff.1 h1
      obtain ⟨rfl, oks⟩ := hops_iff.1 h2
      refine ⟨rfl, fun x hx => ?_⟩
      rcases List.mem_cons.1 hx with rfl | hx
      · exact ok
      · exact oks x hx
    · rintro ⟨rfl, ok⟩
      exact ⟨_, _, rfl, hopT_iff.2 ⟨rfl, ok c (by simp)⟩, hops_iff.2 ⟨rfl, fun x hx => ok x (by simp [hx])⟩⟩
theorem hops_open {w : World} {F : Fp} {v : Value} {ds : List Hp} (h : Hops w F v ds) : ∃ (A : Option Addr) (c : Nat) (xs : List Value), v = .slice A (List.length (α := Hp) ds) c ∧ List.length (α := Hp) ds ≤ c ∧ c ≤ maxLen ∧ (A = none → c = 0) ∧ (0 < List.length (α := Hp) ds → ∃ ad, A = some ad ∧ F ad.block ∧ Cells w ad xs) ∧ AllH (HopT.holds w F) xs ds := by
  obtain ⟨A, c, xs, hv, h1, h2, h3, h4, h5⟩ := h
  cases hv
  exact ⟨A, c, xs, rfl, h1, h2, h3, fun h => h4 (by intro e; rw [e] at h; exact absurd h (Nat.lt_irrefl _)), h5⟩
theorem hops_at {w w' : World} {F : Fp} {xs : List Value} {l : List Hp} {ad : Addr} {k : Nat} (hall : AllH (HopT.holds w F) xs l) (hc : Cells w' ad xs) (hk : k < l.length) : Cells w' (ad.add (k * 3)) (hopC l[k]) ∧ HopOk l[k] := by
  have h := AllH.elem hall hk
  obtain ⟨h1, h2⟩ := hopT_iff.1 h
  have e : HopT.size = 3 := rfl
  rw [e] at h1
  have h3 := (hc.drop (k * 3)).take 3
  rw [h1] at h3
  exact ⟨h3, h2⟩
def OwnH (e : TypeId) (w : World) (v : Value) (hs : List Hp) : Prop := (∀ h ∈ hs, HopOk h) ∧ Own w e 3 v (List.length (α := Hp) hs) (hs.flatMap hopC)
theorem OwnH.ext {e : TypeId} {w w' : World} {v : Value} {hs : List Hp} (h : OwnH e w v hs) (hx : Ext w w') : OwnH e w' v hs := ⟨h.1, h.2.ext hx⟩
theorem OwnH.lt {e : TypeId} {w : World} {v : Value} {hs : List Hp} (h : OwnH e w v hs) : ∀ g, v.ownBlock = some g → g < w.heap.size := fun g hg => (World.ownsRow.lt h.2 g hg).2
theorem OwnH.holds {e : TypeId} {w : World} {v : Value} {hs : List Hp} (h : OwnH e w v hs) : Hops w (fun b => v.ownBlock = some b) v hs := by
  obtain ⟨hok, h⟩ := h
  rcases h.2 with ⟨rfl, h0⟩ | ⟨g, cap, cur, rfl, _, hg, hnc, hcm, _, _⟩
  · obtain rfl : hs = [] := List.eq_nil_of_length_eq_zero h0
    exact ⟨none, 0, [], rfl, Nat.le_refl 0, by simp [maxLen], fun _ => rfl, fun h => absurd rfl h, rfl⟩
  · exact ⟨_, cap, _, rfl, hnc, hcm, by simp, fun _ => ⟨_, rfl, rfl, World.ownsRow.cells h rfl⟩, hops_iff.2 ⟨rfl, hok⟩⟩
/-- A memo's cells. -/
def memoC (kind : Int) (ch rd : Nat) (OC : List Value) (tr : Value) (SG : List Value) : List Value := .int .i64 kind :: .int .u32 (ch : Int) :: .int .u64 (rd : Int) :: (OC ++ tr :: SG)
section
variable {kind : Int} {ch rd : Nat} {OC SG : List Value} {tr : Value}
theorem memoC_len (h : OC.length = 39) (h' : SG.length = 1026) : (memoC kind ch rd OC tr SG).length = 1069 := by simp [memoC, h, h']
theorem memoC_op (h : OC.length = 39) : ((memoC kind ch rd OC tr SG).drop 3).take 39 = OC := List.take_left' h
theorem memoC_sig (h : OC.length = 39) : (memoC kind ch rd OC tr SG).drop 43 = SG := by
  show (OC ++ tr :: SG).drop 40 = SG
  rw [List.drop_append, List.drop_eq_nil_of_le (by omega), h]; rfl
theorem memoC_tr (h : OC.length = 39) : (memoC kind ch rd OC tr SG)[42]? = some tr := by
  show (OC ++ tr :: SG)[39]? = some tr
  rw [List.getElem?_append_right (by omega), h]; rfl
theorem memoC_set (h : OC.length = 39) (u : Value) : (memoC kind ch rd OC tr SG).set 42 u = memoC kind ch rd OC u SG := by
  show _ :: _ :: _ :: (OC ++ tr :: SG).set 39 u = _
  rw [List.set_append_right _ _ (by omega), h]; rfl
theorem memoC_one (h : ∀ u ∈ OC, u.oneCell' = true) (h' : ∀ u ∈ SG, u.oneCell' = true) (ht : tr.oneCell' = true) : ∀ u ∈ memoC kind ch rd OC tr SG, u.oneCell' = true := by
  intro u hu
  simp only [memoC, List.mem_cons, List.mem_append] at hu
  rcases hu with rfl | rfl | rfl | hu | rfl | hu
  · rfl
  · rfl
  · rfl
  · exact h u hu
  · exact ht
  · exact h' u hu
end
/-- .. and the way's row of one's own. -/
structure DJ (w0 : World) (t e : TypeId) (Z : List Value) (al : Option Nat) (W : World) (u : Value) (ds : List Dg) : Prop where
  ext : Ext w0 W
  blk : ∀ g, al = some g → w0.heap.size ≤ g ∧ Blk W g t Z
  own : OwnD e W u ds
  far : ∀ b, u.ownBlock = some b → w0.heap.size ≤ b ∧ al ≠ some b
section
variable {w0 W W' : World} {t e : TypeId} {Z : List Value} {al : Option Nat} {u : Value} {ds : List Dg}
theorem DJ.start (w0 : World) (t e : TypeId) (Z : List Value) : DJ w0 t e Z none w0 (.slice none 0 0) [] := ⟨Ext.refl _, fun g h => (by cases h), ⟨by simp, Own.nil _ _ _⟩, fun b h => by cases h⟩
theorem DJ.alloc (h : DJ w0 t e Z none W u ds) : DJ w0 t e Z (some W.heap.size) (W.alloc (.cells Z.toArray t)) u ds := by
  have hx : Ext W (W.alloc (.cells Z.toArray t)) := (Ext.refl W).alloc _
  refine ⟨h.ext.trans hx, ?_, h.own.ext hx, fun b hb => ⟨(h.far b hb).1, fun e => ?_⟩⟩
  · rintro g ⟨⟩
    exact ⟨h.ext.size, Blk.new _ _ _⟩
  · have := h.own.lt b hb
    have : W.heap.size = b := by simpa using e
    omega
theorem DJ.keepAlloc (h : DJ w0 t e Z al W u ds) (o : Obj) : KeepB (fun b => b < w0.heap.size) W (W.alloc o) := fun b hb =>
  ((Ext.refl W).alloc o).block b (Nat.lt_of_lt_of_le hb h.ext.size) (by simp)
theorem DJ.step (h : DJ w0 t e Z al W u ds) (hx : Ext W W') : DJ w0 t e Z al W' u ds ∧ KeepB (fun b => b < w0.heap.size) W W' :=
  ⟨⟨h.ext.trans hx, fun g hg => ⟨(h.blk g hg).1, (h.blk g hg).2.keep hx (by simp)⟩, h.own.ext hx, h.far⟩, fun b hb => hx.block b (Nat.lt_of_lt_of_le hb h.ext.size) (by simp)⟩
theorem DJ.own' (h : DJ w0 t e Z al W (.slice none 0 0) []) (hx : Ext W W') (ho : OwnD e W' u ds) (hn : ∀ b, u.ownBlock = some b → W.heap.size ≤ b) : DJ w0 t e Z al W' u ds ∧ KeepB (fun b => b < w0.heap.size) W W' := by
  refine ⟨⟨h.ext.trans hx, fun g hg => ⟨(h.blk g hg).1, (h.blk g hg).2.keep hx (by simp)⟩, ho, fun b hb => ⟨Nat.le_trans h.ext.size (hn b hb), fun e => ?_⟩⟩, fun b hb => hx.block b (Nat.lt_of_lt_of_le hb h.ext.size) (by simp)⟩
  have h1 := (h.blk b e).2.lt
  have h2 := hn b hb
  omega
end
theorem sharedD {Q : Prop} {A : Nat → Value → World → Prop} (J : Nat → Value → World → Prop) (h1 : (∀ g v w, J g v w → A g v w) → Q) (h2 : ∀ g v w, J g v w → A g v w) : Q := h1 h2
theorem szOp18 {n : Nat} (h : n = 39) : (Try.prog.info? 28).map (·.size) = some n := by subst h; kernel_rfl
theorem szSg18 {n : Nat} (h : n = 1026) : (Try.prog.info? 37).map (·.size) = some n := by subst h; kernel_rfl
theorem szMemo {n : Nat} (h : n = 1069) : (Try.prog.info? 60).map (·.size) = some n := by subst h; kernel_rfl
theorem szHa {n : Nat} (h : n = 3) : (Try.prog.info? 80).map (·.size) = some n := by subst h; kernel_rfl
theorem szHb {n : Nat} (h : n = 3) : (Try.prog.info? 64).map (·.size) = some n := by subst h; kernel_rfl
theorem zHa : (Try.prog.info? 80).bind (fun i => i.zero.map (·.cells)) = some (hopC (0, 0, 0, ())).toArray := by kernel_rfl
theorem zHb : ((Try.prog.info? 64).bind (·.zero)).isSome = true := by kernel_rfl
theorem zMemo : (Try.prog.info? 60).bind (fun i => i.zero.map (·.cells)) = some (memoC 0 0 0 zop (.slice none 0 0) (sigC (List.replicate 1024 (Value.int .u8 0)) 0 (.slice none 0 0))).toArray := by kernel_rfl
theorem fieldsMemo : ∃ fields, Try.prog.underlying 60 = some (.struct fields) ∧ fields.toList.mapM (fun f => (Try.prog.info? f.type).map fun i => (f.offset, i.size)) = some [(0, 1), (1, 1), (2, 1), (3, 39), (42, 1), (43, 1026)] :=
  ⟨_, Try.underlying60, by kernel_rfl⟩
theorem partsHop : ∃ (i : TypeInfo) (z : Value), Try.prog.info? 64 = some i ∧ i.zero = some z ∧ i.size = 3 ∧ i.bytes = 24 ∧ z.cells.size = 3 := by
  have h : ((Try.prog.info? 64).bind fun i => i.zero.map fun z => (i.size, i.bytes, z.cells.size)) = some (3, 24, 3) := by kernel_rfl
  obtain ⟨i, hi, h2⟩ := Option.bind_eq_some_iff.1 h
  obtain ⟨z, hz, h3⟩ := Option.map_eq_some_iff.1 h2
  have h4 : i.size = 3 ∧ i.bytes = 24 ∧ z.cells.size = 3 := by simpa using h3
  exact ⟨i, z, hi, hz, h4⟩
set_option maxRecDepth 100000 in
theorem fillMemo {ZR OC SG : List Value} {z0 z1 z2 : Value} {ZO ZS : List Value} (hz : ZR = z0 :: z1 :: z2 :: (ZO ++ .slice none 0 0 :: ZS)) (ho : ZO.length = 39) (hs : ZS.length = 1026) (hol : OC.length = 39) (hsl : SG.length = 1026) (kind : Int) (ch rd : Nat) :
    fillL ([(0, 1), (1, 1), (2, 1), (3, 39), (42, 1), (43, 1026)].toArray[·]?) ZR [(0, [.int .i64 kind]), (1, [.int .u32 (ch : Int)]), (2, [.int .u64 (rd : Int)]), (3, OC), (5, SG)] = some (memoC kind ch rd OC (.slice none 0 0) SG) := by
  subst hz
  have e1 : List.take 40 OC = OC := List.take_of_length_le (by omega)
  have e2 : List.drop 1066 OC = [] := List.drop_eq_nil_of_le (by omega)
  have e3 : List.drop 1026 ZS = [] := List.drop_eq_nil_of_le (by omega)
  simp [fillL, ho, hs, hol, hsl, memoC, List.drop_append, List.take_append, e1, e2, e3]
set_option maxRecDepth 100000 in
set_option maxHeartbeats 8000000 in
theorem To18 (kind : Int) (ch rd : Nat) (OC : List Value) (tr : Value) (hs : List Hp) (C : List Value) (key : Nat) (u : Value) (ds : List Dg) (w : World) (F : Fp) (hO : OC.length = 39) (hoo : ∀ u ∈ OC, u.oneCell' = true) (hop : ∀ W, Calls Try.prog 21 #[.agg OC.toArray] W fun e w' => e = .returned (.agg OC.toArray) ∧ Ext W w')
    (hC : C.length = 1024) (hone : ∀ u ∈ C, u.oneCell' = true) (hc : Ways w F u ds) (hh : Hops w F tr hs) (hF : ∀ b, F b → b < w.heap.size) (hlen : List.length (α := Dg) ds ≤ 1099511627776) (hlen2 : List.length (α := Hp) hs ≤ 1099511627776) :
    Calls Try.prog 8 #[.agg (memoC kind ch rd OC tr (sigC C key u)).toArray] w fun e w' => ∃ tr' v, e = .returned (.agg (memoC kind ch rd OC tr' (sigC C key v)).toArray) ∧ OwnH 64 w' tr' hs ∧ OwnD 90 w' v ds ∧ Ext w w' ∧ (∀ b, tr'.ownBlock = some b → w.heap.size ≤ b ∧ v.ownBlock ≠ some b) ∧ ∀ b, v.ownBlock = some b → w.heap.size ≤ b := by
  obtain ⟨i1, z1, hi1, hz1, hi2, hi3, hi4⟩ := partsHop
  obtain ⟨fields, hfu, hfp⟩ := fieldsMemo
  obtain ⟨A, c, xs, rfl, hlc, hcm, hA, hcell, hall⟩ := hops_open hh
  clear hh
  unfold maxLen at hcm
  have HTO5 := Lib.hid (fun (W : World) (h : Ext w W) => To05 C key u ds W F hC hone (h.holds hF hc) (fun b hb => Nat.lt_of_lt_of_le (hF b hb) h.size) hlen)
  obtain ⟨ZR, hzr, hzl, hfl⟩ : ∃ ZR : List Value, (Try.prog.info? 60).bind (fun i => i.zero.map (·.cells)) = some ZR.toArray ∧ ZR.length = 1069 ∧ ∀ v, fillL ([(0, 1), (1, 1), (2, 1), (3, 39), (42, 1), (43, 1026)].toArray[·]?) ZR [(0, [.int .i64 kind]), (1, [.int .u32 (ch : Int)]), (2, [.int .u64 (rd : Int)]), (3, OC), (5, sigC C key v)] = some (memoC kind ch rd OC (.slice none 0 0) (sigC C key v)) :=
    ⟨_, zMemo, memoC_len rfl (sigC_len List.length_replicate _ _), fun v => fillMemo rfl rfl (sigC_len List.length_replicate _ _) hO (sigC_len hC key v) kind ch rd⟩
  obtain ⟨ZE, hze, hzel⟩ : ∃ ZE : List Value, (Try.prog.info? 80).bind (fun i => i.zero.map (·.cells)) = some ZE.toArray ∧ ZE.length = 3 := ⟨_, zHa, rfl⟩
  have HCL := Lib.hid hC
  have HOL := Lib.hid hO
  have HOO := Lib.hid hoo
  have HOP := Lib.hid hop
  have HZL := Lib.hid hzl
  have HFL := Lib.hid hfl
  have HZE := Lib.hid hzel
  have hi0 : (memoC kind ch rd OC (.slice A (List.length (α := Hp) hs) c) (sigC C key u))[0]? = some (.int .i64 kind) := rfl
  have hi1' : (memoC kind ch rd OC (.slice A (List.length (α := Hp) hs) c) (sigC C key u))[1]? = some (.int .u32 (ch : Int)) := rfl
  have hi2' : (memoC kind ch rd OC (.slice A (List.length (α := Hp) hs) c) (sigC C key u))[2]? = some (.int .u64 (rd : Int)) := rfl
  have hi3' := memoC_op (kind := kind) (ch := ch) (rd := rd) (tr := .slice A (List.length (α := Hp) hs) c) (SG := sigC C key u) hO
  have hi42 := memoC_tr (kind := kind) (ch := ch) (rd := rd) (tr := .slice A (List.length (α := Hp) hs) c) (SG := sigC C key u) hO
  have hi43 := memoC_sig (kind := kind) (ch := ch) (rd := rd) (tr := .slice A (List.length (α := Hp) hs) c) (SG := sigC C key u) hO
  have hsg := sigC_len hC key u
  generalize memoC kind ch rd OC (.slice A (List.length (α := Hp) hs) c) (sigC C key u) = IN at *
  have hto5 := HTO5.out
  generalize sigC C key u = SGC at *
  have hb1 : Blk ((w.alloc (.cells IN.toArray 39)).alloc (.cells ZR.toArray 60)) w.heap.size 39 IN := (Blk.new _ _ _).keep ((Ext.refl _).alloc _) (by simp)
  have hb2 : Blk ((w.alloc (.cells IN.toArray 39)).alloc (.cells ZR.toArray 60)) (w.heap.size + 1) 60 ZR := Blk.fresh (by simp) _ _
  have hx0 : Ext w ((w.alloc (.cells IN.toArray 39)).alloc (.cells ZR.toArray 60)) := ((Ext.refl w).alloc _).alloc _
  have HI0 := Lib.hid hi0
  have HI1 := Lib.hid hi1'
  have HI2 := Lib.hid hi2'
  have HI3 := Lib.hid hi3'
  have HI42 := Lib.hid hi42
  have HI43 := Lib.hid hi43
  have HSG := Lib.hid hsg
  have HT5 := Lib.hid hto5
  have HB1 := Lib.hid hb1
  have HB2 := Lib.hid hb2
  have HX0 := Lib.hid hx0
  clear hC hO hoo hop hzl hfl hzel hi0 hi1' hi2' hi3' hi42 hi43 hsg hto5 hb1 hb2 hx0 HTO5
  go_enter Try.func8, Try.ntmps8
  go_wp2_with (first
    | (refine wpList_alloc _ rfl 60 rfl _ hzr ?_)
    | fail)
  have hx : Ext w ((w.alloc (.cells IN.toArray 39)).alloc (.cells ZR.toArray 60)).drew := HX0.out.drew
  have hb1 : Blk ((w.alloc (.cells IN.toArray 39)).alloc (.cells ZR.toArray 60)).drew w.heap.size 39 IN := HB1.out
  have hb2 : Blk ((w.alloc (.cells IN.toArray 39)).alloc (.cells ZR.toArray 60)).drew (w.heap.size + 1) 60 ZR := HB2.out
  refine startM (KeepB fun b => b < ((w.alloc (.cells IN.toArray 39)).alloc (.cells ZR.toArray 60)).drew.heap.size) (by kernel_rfl) ?_
  (try simp only [Act.put, List.setIfInBounds_toArray, List.set_cons_succ, List.set_cons_zero])
  generalize ((w.alloc (.cells IN.toArray 39)).alloc (.cells ZR.toArray 60)).drew = w0 at *
  have HK0 := Lib.hid ((hb1.cell 0).trans HI0.out)
  have HK1 := Lib.hid ((hb1.cell 1).trans HI1.out)
  have HK2 := Lib.hid ((hb1.cell 2).trans HI2.out)
  have hco : Cells w0 ⟨w.heap.size, 3, none⟩ OC := by have h := (hb1.cells.drop 3).take 39; rw [HI3.out, addr_at] at h; exact h
  have hcs : Cells w0 ⟨w.heap.size, 43, none⟩ SGC := by have h := hb1.cells.drop 43; rw [HI43.out, addr_at] at h; exact h
  have HBL := Lib.hid hb1.lt
  have HCO := Lib.hid hco
  have HCS := Lib.hid hcs
  have HB1 := Lib.hid hb1
  have HB2 := Lib.hid hb2
  have HX := Lib.hid hx
  have hto : ∀ (al : Option Nat) (W : World), DJ w0 60 90 ZR al W (.slice none 0 0) [] → Calls Try.prog 22 #[.agg SGC.toArray] W fun e w' => ∃ (R : List Value) (v : Value), e = .returned (.agg R.toArray) ∧ R = sigC C key v ∧ DJ w0 60 90 ZR al w' v ds ∧ KeepB (fun b => b < w0.heap.size) W w' := fun al W h => by
    refine (HT5.out W (HX.out.trans h.ext)).mono ?_
    rintro e w' ⟨v, rfl, ho, hx, hn⟩
    exact ⟨_, v, rfl, rfl, h.own' hx ho hn⟩
  have HTO := Lib.hid hto
  have hJ := DJ.start w0 60 90 ZR
  have HJ := Lib.hid hJ
  clear hx hb1 hb2 hco hcs hJ hto HT5
  apply sharedD (fun g v W => DJ w0 60 90 ZR (some g) W v ds)
  · intro hM
    refine takeK 0 rfl (by kernel_rfl) (by kernel_rfl) (by kernel_rfl) rfl (fun _ _ _ _ h => h) rfl (fun K hK => ?_)
    go_big_quiet_op
    first | refine hK _ ?_ | refine ⟨_, fun _ _ => rfl, hK _ ?_⟩
    clear hK K
    refine takeK 1 rfl (by kernel_rfl) (by kernel_rfl) (by kernel_rfl) rfl (fun _ _ _ _ h => h) rfl (fun K hK => ?_)
    refine quiet_cell _ _ rfl _ rfl _ _ Try.underlying3 rfl (fun W' h => KeepB.cell h HK0.out HBL.out) ?_
    refine hK _ ?_
    simp only [Act.put, List.setIfInBounds_toArray, List.set_cons_succ, List.set_cons_zero]
    clear hK K
    refine takeK 2 rfl (by kernel_rfl) (by kernel_rfl) (by kernel_rfl) rfl (fun _ _ _ _ h => h) rfl (fun K hK => ?_)
    go_big_quiet_op
    first | refine hK _ ?_ | refine ⟨_, fun _ _ => rfl, hK _ ?_⟩
    clear hK K
    refine takeK 3 rfl (by kernel_rfl) (by kernel_rfl) (by kernel_rfl) rfl (fun _ _ _ _ h => h) rfl (fun K hK => ?_)
    refine quiet_cell _ _ rfl _ rfl _ _ Try.underlying22 rfl (fun W' h => KeepB.cell h HK1.out HBL.out) ?_
    refine hK _ ?_
    simp only [Act.put, List.setIfInBounds_toArray, List.set_cons_succ, List.set_cons_zero]
    clear hK K
    refine takeK 4 rfl (by kernel_rfl) (by kernel_rfl) (by kernel_rfl) rfl (fun _ _ _ _ h => h) rfl (fun K hK => ?_)
    go_big_quiet_op
    first | refine hK _ ?_ | refine ⟨_, fun _ _ => rfl, hK _ ?_⟩
    clear hK K
    refine takeK 5 rfl (by kernel_rfl) (by kernel_rfl) (by kernel_rfl) rfl (fun _ _ _ _ h => h) rfl (fun K hK => ?_)
    refine quiet_cell _ _ rfl _ rfl _ _ Try.underlying23 rfl (fun W' h => KeepB.cell h HK2.out HBL.out) ?_
    refine hK _ ?_
    simp only [Act.put, List.setIfInBounds_toArray, List.set_cons_succ, List.set_cons_zero]
    clear hK K
    refine takeK 6 rfl (by kernel_rfl) (by kernel_rfl) (by kernel_rfl) rfl (fun _ _ _ _ h => h) rfl (fun K hK => ?_)
    go_big_quiet_op
    first | refine hK _ ?_ | refine ⟨_, fun _ _ => rfl, hK _ ?_⟩
    clear hK K
    refine takeK 7 rfl (by kernel_rfl) (by kernel_rfl) (by kernel_rfl) rfl (fun _ _ _ _ h => h) rfl (fun K hK => ?_)
    refine quiet_agg 28 (.tmp 12) rfl _ rfl OC _ Try.underlying28 rfl (szOp18 HOL.out) (fun W' h => KeepB.cells h HCO.out HBL.out) ?_
    refine hK _ ?_
    simp only [Act.put, List.setIfInBounds_toArray, List.set_cons_succ, List.set_cons_zero]
    clear hK K
    refine takeK 9 rfl (by kernel_rfl) (by kernel_rfl) (by kernel_rfl) rfl (fun _ _ _ _ h => h) rfl (fun K hK => ?_)
    go_big_quiet_op
    first | refine hK _ ?_ | refine ⟨_, fun _ _ => rfl, hK _ ?_⟩
    clear hK K
    refine takeK 10 rfl (by kernel_rfl) (by kernel_rfl) (by kernel_rfl) rfl (fun _ _ _ _ h => h) rfl (fun K hK => ?_)
    refine quiet_agg 37 (.tmp 15) rfl _ rfl SGC _ Try.underlying37 rfl (szSg18 HSG.out) (fun W' h => KeepB.cells h HCS.out HBL.out) ?_
    refine hK _ ?_
    simp only [Act.put, List.setIfInBounds_toArray, List.set_cons_succ, List.set_cons_zero]
    clear hK K
    refine bothM 8 13 rfl rfl (by kernel_rfl) rfl rfl (fun K hK => ?_) (fun K hK => ?_)
    · go_simp
      refine (HOP.out _).mono ?_
      rintro e w6 ⟨rfl, hx6⟩
      have hkb := (HJ.out.step hx6).2
      have HJ := Lib.hid (HJ.out.step hx6).1
      refine hK _ _ (hkb) ?_
      clear hK K
      refine bothM 11 13 rfl rfl (by kernel_rfl) rfl rfl (fun K hK => ?_) (fun K hK => ?_)
      · go_simp
        refine (HTO.out _ _ HJ.out).mono ?_
        rintro e w7 ⟨R, v, rfl, hR, hJ, hkb⟩
        have HJ := Lib.hid hJ
        clear hJ
        subst hR
        refine hK _ _ (hkb) ?_
        clear hK K
        refine takeK 12 rfl (by kernel_rfl) (by kernel_rfl) (by kernel_rfl) rfl (fun _ _ _ _ h => h) rfl (fun K hK => ?_)
        refine quiet_build_st 60 #[(0, .tmp 7), (1, .tmp 9), (2, .tmp 11), (3, .tmp 14), (5, .tmp 17)] rfl fields ZR (memoC kind ch rd OC (.slice none 0 0) (sigC C key v)) _ _ hfu hzr hfp (by simp [Value.cells, Act.eval]) (HFL.out v) ?_
        refine hK _ ?_
        simp only [Act.put, List.setIfInBounds_toArray, List.set_cons_succ, List.set_cons_zero]
        clear hK K
        refine stepM 13 rfl (by kernel_rfl) rfl (fun K hK => ?_)
        refine wp_alloc_agg 60 rfl ZR hzr ?_
        refine hK _ _ (HJ.out.keepAlloc _) ?_
        clear hK K
        (try simp only [Act.put, List.setIfInBounds_toArray, List.set_cons_succ, List.set_cons_zero])
        have HJ := Lib.hid HJ.out.alloc
        have hJf := HJ.out
        revert hJf
        generalize w7.alloc (.cells ZR.toArray 60) = W9
        generalize w7.heap.size = g9
        intro hJf
        exact hM g9 v W9 hJf
      · refine wp_alloc_agg 60 rfl ZR hzr ?_
        refine hK _ _ (HJ.out.keepAlloc _) ?_
        clear hK K
        (try simp only [Act.put, List.setIfInBounds_toArray, List.set_cons_succ, List.set_cons_zero])
        have HJ := Lib.hid HJ.out.alloc
        refine stepM 11 rfl (by kernel_rfl) rfl (fun K hK => ?_)
        go_simp
        refine (HTO.out _ _ HJ.out).mono ?_
        rintro e w7 ⟨R, v, rfl, hR, hJ, hkb⟩
        have HJ := Lib.hid hJ
        clear hJ
        subst hR
        refine hK _ _ (hkb) ?_
        clear hK K
        refine takeK 12 rfl (by kernel_rfl) (by kernel_rfl) (by kernel_rfl) rfl (fun _ _ _ _ h => h) rfl (fun K hK => ?_)
        refine quiet_build_st 60 #[(0, .tmp 7), (1, .tmp 9), (2, .tmp 11), (3, .tmp 14), (5, .tmp 17)] rfl fields ZR (memoC kind ch rd OC (.slice none 0 0) (sigC C key v)) _ _ hfu hzr hfp (by simp [Value.cells, Act.eval]) (HFL.out v) ?_
        refine hK _ ?_
        simp only [Act.put, List.setIfInBounds_toArray, List.set_cons_succ, List.set_cons_zero]
        clear hK K
        refine relist (by kernel_rfl) (hM _ _ _ HJ.out)
    · refine wp_alloc_agg 60 rfl ZR hzr ?_
      refine hK _ _ (HJ.out.keepAlloc _) ?_
      clear hK K
      (try simp only [Act.put, List.setIfInBounds_toArray, List.set_cons_succ, List.set_cons_zero])
      have HJ := Lib.hid HJ.out.alloc
      refine stepM 8 rfl (by kernel_rfl) rfl (fun K hK => ?_)
      go_simp
      refine (HOP.out _).mono ?_
      rintro e w6 ⟨rfl, hx6⟩
      have hkb := (HJ.out.step hx6).2
      have HJ := Lib.hid (HJ.out.step hx6).1
      refine hK _ _ (hkb) ?_
      clear hK K
      refine stepM 11 rfl (by kernel_rfl) rfl (fun K hK => ?_)
      go_simp
      refine (HTO.out _ _ HJ.out).mono ?_
      rintro e w7 ⟨R, v, rfl, hR, hJ, hkb⟩
      have HJ := Lib.hid hJ
      clear hJ
      subst hR
      refine hK _ _ (hkb) ?_
      clear hK K
      refine takeK 12 rfl (by kernel_rfl) (by kernel_rfl) (by kernel_rfl) rfl (fun _ _ _ _ h => h) rfl (fun K hK => ?_)
      refine quiet_build_st 60 #[(0, .tmp 7), (1, .tmp 9), (2, .tmp 11), (3, .tmp 14), (5, .tmp 17)] rfl fields ZR (memoC kind ch rd OC (.slice none 0 0) (sigC C key v)) _ _ hfu hzr hfp (by simp [Value.cells, Act.eval]) (HFL.out v) ?_
      refine hK _ ?_
      simp only [Act.put, List.setIfInBounds_toArray, List.set_cons_succ, List.set_cons_zero]
      clear hK K
      refine relist (by kernel_rfl) (hM _ _ _ HJ.out)
  rintro g v W hJ
  have HGB := Lib.hid (hJ.blk g rfl)
  have HJ := Lib.hid hJ
  clear hJ
  have hvo : ∀ u ∈ (memoC kind ch rd OC (.slice none 0 0) (sigC C key v)), u.oneCell' = true := by obtain ⟨A2, c2, h⟩ := HJ.out.own.2.form; rw [h]; exact memoC_one HOO.out (sigC_one hone _ _ _ _) rfl
  refine stepM 14 rfl (by kernel_rfl) rfl (fun K hK => ?_)
  refine wp_store_row 60 (.tmp 3) (.tmp 18) rfl g rfl ZR (memoC kind ch rd OC (.slice none 0 0) (sigC C key v)) _ rfl HGB.out.2 (szMemo (memoC_len HOL.out (sigC_len HCL.out _ _))) (by rw [memoC_len HOL.out (sigC_len HCL.out _ _), HZL.out]) hvo ?_
  refine hK _ _ (fun b hb => (setRow_only _).block _ (Nat.lt_of_lt_of_le hb HJ.out.ext.size) (by have := HGB.out.1; simp; omega)) ?_
  clear hK K
  (try simp only [Act.put, List.setIfInBounds_toArray, List.set_cons_succ, List.set_cons_zero])
  refine doneM (by kernel_rfl) ?_ _
  have hg0 := HGB.out.1
  have hx0 := HX.out.size
  have hbl := HB2.out.lt
  have hx9 : Ext w (W.setRow g (memoC kind ch rd OC (.slice none 0 0) (sigC C key v)).toArray) := grown_then (HX.out.trans HJ.out.ext) (setRow_only _) (.inr (by rintro b ⟨⟩; omega))
  have hb1 : Blk (W.setRow g (memoC kind ch rd OC (.slice none 0 0) (sigC C key v)).toArray) w.heap.size 39 IN := (HB1.out.keep HJ.out.ext (by simp)).keep (setRow_only _) (by simp; omega)
  have hb2 : Blk (W.setRow g (memoC kind ch rd OC (.slice none 0 0) (sigC C key v)).toArray) (w.heap.size + 1) 60 ZR := (HB2.out.keep HJ.out.ext (by simp)).keep (setRow_only _) (by simp; omega)
  have hb3 : Blk (W.setRow g (memoC kind ch rd OC (.slice none 0 0) (sigC C key v)).toArray) g 60 (memoC kind ch rd OC (.slice none 0 0) (sigC C key v)) := setRow_at HGB.out.2
  have hov : OwnD 90 (W.setRow g (memoC kind ch rd OC (.slice none 0 0) (sigC C key v)).toArray) v ds := ⟨HJ.out.own.1, HJ.out.own.2.keep (setRow_only _) (by
    cases hvb : v.ownBlock with
    | none => exact .inl rfl
    | some b => exact .inr (fun e => (HJ.out.far b hvb).2 e.symm))⟩
  have hfv : ∀ b, v.ownBlock = some b → w.heap.size + 2 ≤ b ∧ b ≠ g := fun b hb => by
    have h1 := HJ.out.far b hb
    exact ⟨by omega, fun e => h1.2 (by rw [e])⟩
  have hgg : w.heap.size + 1 < g := by omega
  generalize (W.setRow g (memoC kind ch rd OC (.slice none 0 0) (sigC C key v)).toArray) = w1 at *
  have c20 : w1.cell? ⟨w.heap.size, 42, none⟩ = some (.slice A (List.length (α := Hp) hs) c) := (hb1.cell 42).trans HI42.out
  have HX1 := Lib.hid hx9
  have HB91 := Lib.hid hb1
  have HB92 := Lib.hid hb2
  have HB93 := Lib.hid hb3
  have HOV := Lib.hid hov
  have HFV := Lib.hid hfv
  clear hx9 hb1 hb2 hb3 hov hfv HX HB1 HB2 HJ HGB HBL HCO HCS HK0 HK1 HK2 hg0 hx0 hbl hvo
  have hsl := sigC_len HCL.out key v
  have hso : ∀ u ∈ sigC C key v, u.oneCell' = true := by obtain ⟨A2, c2, h⟩ := HOV.out.2.form; rw [h]; exact sigC_one hone _ _ _ _
  obtain ⟨SG, hSG⟩ : ∃ SG, SG = sigC C key v := ⟨_, rfl⟩
  rw [← hSG] at hsl hso HB93
  have HSGE := Lib.hid hSG
  have HSL := Lib.hid hsl
  have HSO := Lib.hid hso
  clear hSG hsl hso
  go_wp2
  go_loopw [5, 22] (fun p i wr => ∃ (k : Nat) (tr : Value), k ≤ List.length (α := Hp) hs ∧ i = .int .i64 k ∧ Ext w wr ∧ Blk wr (w.heap.size + 1) 60 ZR ∧ Blk wr g 60 (memoC kind ch rd OC tr SG) ∧ OwnH 64 wr tr (hs.take k) ∧ OwnD 90 wr v ds ∧ (∀ b, tr.ownBlock = some b → w.heap.size + 2 ≤ b ∧ b ≠ g ∧ v.ownBlock ≠ some b) ∧ ∃ q, p = q) (fun _ i _ => List.length (α := Hp) hs - (intOf i).toNat)
  case atStart => exact ⟨0, .slice none 0 0, by omega, rfl, HX1.out, HB92.out, HB93.out, ⟨by simp, Own.nil _ _ _⟩, HOV.out, by simp [Value.ownBlock], _, rfl⟩
  case round =>
    clear HX1 HB91 HB92 HB93 c20 HOV
    obtain ⟨k, tr, hk, rfl, hx, hb2, hb3, hot, hov, hfar, q, rfl⟩ := hrel
    by_cases hlt : k < List.length (α := Hp) hs
    · obtain ⟨ad, rfl, hf, hcells⟩ := hcell (by omega)
      obtain ⟨hcc, hok⟩ := hops_at hall (hcells.keep (hx.same hF _ hf)) hlt
      have htk : hs.take (k + 1) = hs.take k ++ [hs[k]] := List.take_succ_eq_append_getElem hlt
      have htl : List.length (α := Hp) (hs.take k) = k := by rw [List.length_take]; omega
      generalize hdk : hs[k] = dk at *
      obtain ⟨D, hDE⟩ : ∃ D, D = hopC dk := ⟨_, rfl⟩
      have hone3 : ∀ u ∈ D, u.oneCell' = true := by rw [hDE]; exact hopC_one dk
      have hDl : D.length = 3 := by rw [hDE]; rfl
      have hD0 : D[0]? = some (.int .u32 (dk.1 : Int)) := by rw [hDE]; rfl
      have hD1 : D[1]? = some (.int .u64 (dk.2.1 : Int)) := by rw [hDE]; rfl
      have hD2 : D[2]? = some (.int .u64 (dk.2.2.1 : Int)) := by rw [hDE]; rfl
      rw [← hDE] at hcc
      have hb3' : Blk (wr.alloc (.cells D.toArray 80)) g 60 (memoC kind ch rd OC tr SG) := hb3.keep ((Ext.refl _).alloc _) (by simp)
      have hvw' : (wr.alloc (.cells D.toArray 80)).cell? ⟨g, 42, none⟩ = some tr := (hb3'.cell 42).trans (memoC_tr HOL.out)
      have hcd := Blk.new wr 80 D
      have q0 := (hcd.cell 0).trans hD0
      have q1 := (hcd.cell 1).trans hD1
      have q2 := (hcd.cell 2).trans hD2
      have hxa : Ext wr ((wr.alloc (.cells D.toArray 80)).alloc (.cells D.toArray 64)) := ((Ext.refl wr).alloc _).alloc _
      have how : Own wr 64 3 tr k ((hs.take k).flatMap hopC) := by have h := hot.2; rw [htl] at h; exact h
      have HOW := Lib.hid how
      have HXA := Lib.hid hxa
      have HX := Lib.hid hx
      have HB2 := Lib.hid hb2
      have HB3 := Lib.hid hb3
      have HOT := Lib.hid hot
      have HOV := Lib.hid hov
      have HFAR := Lib.hid hfar
      have HDL := Lib.hid hDl
      have HTK := Lib.hid htk
      have HTL := Lib.hid htl
      have HDE := Lib.hid hDE
      have HOK := Lib.hid hok
      clear how hx hb2 hb3 hot hov hfar hDl htk htl hDE hok hcells hb3' hxa hdk hcd hD0 hD1 hD2
      go_wp2_with (first
        | (refine wpList_load_agg _ rfl 80 (.tmp 24) rfl _ rfl D _ Try.underlying80 rfl (szHa HDL.out) hcc ?_)
        | (refine wpList_alloc _ rfl 80 rfl _ hze ?_)
        | (refine wpList_store_new _ rfl 80 (.tmp 5) (.tmp 25) rfl rfl ZE D _ rfl (szHa HDL.out) (by rw [HDL.out, HZE.out]) hone3 ?_)
        | (refine wpList_build (.inl rfl) 64 _ rfl (.agg (hopC dk).toArray) (by kernel_rfl) ?_; rw [← HDE.out])
        | (refine wpList_one _ rfl 51 (.tmp 34) rfl 64 D Try.underlying51 rfl (szHb HDL.out) zHb (by rw [HDL.out]; decide) (by rw [HDL.out]; decide) ?_)
        | (at_builtin
           go_must (refine wpList_app _ rfl (.tmp 27) (.tmp 35) _ _ rfl 64 64 i1 z1 3 24 Try.underlying51 Try.underlying51 hi1 hz1 hi2 hi3 hi4 (by decide) tr _ _ rfl (HOW.out.ext HXA.out) _ 1 1 D rfl (by rw [HDL.out]) (src_at rfl D _ 1) hone3 (by unfold maxLen; omega) (by omega) ?_)
           intro v7 w7 ho7 hm7
           obtain ⟨A7, c7, hv7⟩ := Own.form ho7
           subst hv7
           have HB7 := Lib.hid ((HB3.out.keep HXA.out (by simp)).keep hm7.grown (fun e => (HFAR.out _ e.symm).2.1 rfl))
           have s9 : w7.cell? ⟨g, 42, none⟩ = some tr := (HB7.out.cell 42).trans (memoC_tr HOL.out)
           have f9 : w7.frozen? ⟨g, 42, none⟩ = false := HB7.out.free 42)
        | fail)
      have hov7 : OwnD 90 w7 v ds := ⟨HOV.out.1, (HOV.out.2.ext HXA.out).keep hm7.grown (by
        cases hvb : v.ownBlock with
        | none => exact .inl rfl
        | some b => exact .inr (fun e => (HFAR.out b e.symm).2.2 hvb))⟩
      have far7 : ∀ b, (Value.slice A7 (k + 1) c7).ownBlock = some b → w.heap.size + 2 ≤ b ∧ b ≠ g ∧ v.ownBlock ≠ some b := fun b hb => by
        rcases hm7.at_ with e | hn
        · exact HFAR.out b (e.symm.trans hb)
        · have h1 := hn b hb
          have h2 := HB3.out.lt
          have h3 := HX.out.size
          have h4 := HXA.out.size
          refine ⟨by omega, by omega, fun e => ?_⟩
          have h5 := HOV.out.lt b e
          omega
      have ne : ∀ x, (x < w.heap.size + 2 ∨ x = g) → some x ≠ tr.ownBlock := fun x hx e => by have := HFAR.out x e.symm; omega
      have hx8 : Ext w (w7.setCell ⟨g, 42, none⟩ (Value.slice A7 (k + 1) c7)) := grown_then (grown_then (HX.out.trans HXA.out) hm7.grown (.inr fun x hx => by have := HFAR.out x hx; omega)) (only_set 42 _) (.inr (by rintro b ⟨⟩; omega))
      have hb28 : Blk (w7.setCell ⟨g, 42, none⟩ (Value.slice A7 (k + 1) c7)) (w.heap.size + 1) 60 ZR := ((HB2.out.keep HXA.out (by simp)).keep hm7.grown (ne _ (.inl (by omega)))).keep (only_set 42 _) (by simp; omega)
      have hb38 : Blk (w7.setCell ⟨g, 42, none⟩ (Value.slice A7 (k + 1) c7)) g 60 (memoC kind ch rd OC (Value.slice A7 (k + 1) c7) SG) := by
        have := HB7.out.set 42 (Value.slice A7 (k + 1) c7)
        rwa [memoC_set HOL.out] at this
      have hov8 : OwnD 90 (w7.setCell ⟨g, 42, none⟩ (Value.slice A7 (k + 1) c7)) v ds := ⟨hov7.1, hov7.2.keep (row := some g) (only_set 42 _) (by
        cases hvb : v.ownBlock with
        | none => exact .inl rfl
        | some b => exact .inr (by have := (HFV.out b hvb).2; simpa using this))⟩
      have ho8 : OwnH 64 (w7.setCell ⟨g, 42, none⟩ (Value.slice A7 (k + 1) c7)) (Value.slice A7 (k + 1) c7) (hs.take (k + 1)) := by
        rw [HTK.out]
        refine ⟨fun d hd => ?_, ?_⟩
        · rcases List.mem_append.1 hd with hd | hd
          · exact HOT.out.1 d hd
          · rw [List.mem_singleton.1 hd]; exact HOK.out
        · have e1 : (hs.take k ++ [dk]).flatMap hopC = (hs.take k).flatMap hopC ++ D := by rw [HDE.out]; simp
          have e2 : List.length (α := Hp) (hs.take k ++ [dk]) = k + 1 := by rw [List.length_append, HTL.out]; rfl
          rw [e1, e2]
          refine ho7.keep (row := some g) (only_set 42 _) ?_
          cases hvb : (Value.slice A7 (k + 1) c7).ownBlock with
          | none => exact .inl rfl
          | some b => exact .inr (by have := (far7 b hvb).2.1; simpa using this)
      have HX8 := Lib.hid hx8
      have HB28 := Lib.hid hb28
      have HB38 := Lib.hid hb38
      have HO8 := Lib.hid ho8
      have HV8 := Lib.hid hov8
      have HF8 := Lib.hid far7
      go_roundw
      case rel => exact ⟨k + 1, _, by omega, by go_num, HX8.out, HB28.out, HB38.out, HO8.out, HV8.out, HF8.out, _, rfl⟩
      case measure => simp [intOf]; omega
    · obtain rfl : k = List.length (α := Hp) hs := by omega
      have htk : hs.take (List.length (α := Hp) hs) = hs := List.take_length
      rw [htk] at hot
      have hcm := hb3.cells
      have hr2 : wr.heap[w.heap.size + 1]? = some (.cells ZR.toArray 60 (0, 0)) := hb2
      have hml := memoC_len (kind := kind) (ch := ch) (rd := rd) (tr := tr) HOL.out HSL.out
      have hmone : ∀ u ∈ memoC kind ch rd OC tr SG, u.oneCell' = true := by obtain ⟨A2, c2, h⟩ := hot.2.form; rw [h]; exact memoC_one HOO.out HSO.out rfl
      obtain ⟨M, hM⟩ : ∃ M, M = memoC kind ch rd OC tr SG := ⟨_, rfl⟩
      rw [← hM] at hcm hml hmone
      have HM := Lib.hid hM
      have HX := Lib.hid hx
      have HOT := Lib.hid hot
      have HOV := Lib.hid hov
      have HML := Lib.hid hml
      have HFAR := Lib.hid hfar
      clear hx hb2 hb3 hot hov hml hM hfar htk
      go_wp2_with (first
        | (refine wpList_load_agg _ rfl 60 (.tmp 3) rfl _ rfl M _ Try.underlying60 rfl (szMemo HML.out) hcm ?_)
        | (refine wpList_store_row _ rfl 60 (.tmp 2) (.tmp 39) rfl (w.heap.size + 1) rfl ZR M _ rfl hr2 (szMemo HML.out) (by rw [HML.out, HZL.out]) hmone ?_)
        | fail)
      have hc9 := Blk.cells (t := 60) (setRow_at (cs' := M.toArray) hr2)
      (try simp only [Exit.inBlock, Exit.then])
      refine bodyPost_ret (results_agg rfl _ _ _ _ _ rfl Try.underlying60 rfl (szMemo HML.out) hc9) rfl ?_
      refine ⟨tr, v, by rw [HM.out, HSGE.out], ⟨HOT.out.1, HOT.out.2.keep (row := some (w.heap.size + 1)) (setRow_only _) ?_⟩, ⟨HOV.out.1, HOV.out.2.keep (row := some (w.heap.size + 1)) (setRow_only _) ?_⟩, grown_then HX.out (setRow_only _) (.inr (by rintro b ⟨⟩; omega)), fun b hb => by have h := HFAR.out b hb; exact ⟨by omega, h.2.2⟩, fun b hb => by have := HFV.out b hb; omega⟩
      · cases hvb : tr.ownBlock with
        | none => exact .inl rfl
        | some b => exact .inr (by have := (HFAR.out b hvb).1; simp; omega)
      · cases hvb : v.ownBlock with
        | none => exact .inl rfl
        | some b => exact .inr (by have := (HFV.out b hvb).1; simp; omega)
end Go.Proofs.Ytemladlnpaaefaa
