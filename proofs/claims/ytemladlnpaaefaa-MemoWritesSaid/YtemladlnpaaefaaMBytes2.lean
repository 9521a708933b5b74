/- The walk of memo's Bytes: of an Offer, and of an Agree. Conditions: the cells, what Right answers, and that there aren't too many. -/
import Derived.Test.YtemladlnpaaefaaMBytes
import Derived.Test.YtemladlnpaaefaaLayTrail
import Derived.Test.YtemladlnpaaefaaLayOp
set_option linter.unusedVariables false
set_option linter.unusedSimpArgs false
set_option linter.unnecessarySimpa false
namespace Go.Proofs.Ytemladlnpaaefaa
open Go.RowKit

theorem BJ.four' {w0 W : World} {k : UInt8} {ch : Nat} {v13 v16 : Value} (h : BJ w0 k ch none none (some v13) (some v16) W) : Calls Try.prog 16 #[v13, v16] W fun e w' => ∃ v17, e = .returned v17 ∧ OwnB w' v17 ([k] ++ be 4 ch) ∧ Ext w0 w' ∧ KeepB (fun b => b < w0.heap.size) W w' ∧ ∀ b, v17.ownBlock = some b → w0.heap.size ≤ b := by
  have hfr : ∀ g, v13.ownBlock = some g → w0.heap.size ≤ g := (h.p13 _ rfl).2
  refine (Out_Four v13 v16 [k] [ch] W _ (h.p13 _ rfl).1 (h.p16 _ rfl).1 (fun b hb => ⟨(h.p16 _ rfl).2 b hb, fun e => h.ap13 v13 v16 b rfl rfl e hb⟩) (show 1 + 4 * 1 ≤ 140737488355328 by decide)).mono ?_
  rintro e w' ⟨v17, rfl, ho, hm⟩
  refine ⟨v17, rfl, by simpa using ho, grown_then h.ext hm.grown (.inr hfr), fun b hb => hm.grown.block b (Nat.lt_of_lt_of_le hb h.ext.size) (fun e => by have := hfr b e.symm; omega), fun b hb => ?_⟩
  rcases hm.at_ with e | hn
  · exact hfr b (e.symm.trans hb)
  · exact Nat.le_trans h.ext.size (hn b hb)
section
variable {g : Nat} {w0 w : World} {v0 cur : Value} {bs : List UInt8} {xs : List Item}
theorem CJ.op (o : Wish) (hok : CondOk o.c) (ham : (Lit.int .u64 (o.am : Int)).wf = true) (hid : (Lit.int .u64 (o.id : Int)).wf = true) (h : CJ g w0 v0 cur bs xs w) (hb : bs.length ≤ 140737488353280) :
    Calls Try.prog 19 #[cur, .agg (wishCells o).toArray] w fun e w' => ∃ v', e = .returned v' ∧ CJ g w0 v0 v' (bs ++ opB o) xs w' ∧ KeepB (fun b => b = g) w w' := by
  refine (LayOp o cur bs w hok ham hid h.own hb).mono ?_
  rintro e w' ⟨v', rfl, ho, hm⟩
  exact ⟨v', rfl, h.call ho hm⟩
theorem CJ.trail {hs : List Hp} {u : Value} (h : CJ g w0 v0 cur bs xs w) (hx : (⟨HopT, hs, u⟩ : Item) ∈ xs) (hb : bs.length + 20 * List.length (α := Hp) hs ≤ 140737488350000) :
    Calls Try.prog 18 #[cur, u] w fun e w' => ∃ v', e = .returned v' ∧ CJ g w0 v0 v' (bs ++ trailB hs) xs w' ∧ KeepB (fun b => b = g) w w' := by
  refine (LayTrail u hs cur bs w (h.it _ hx).1 (h.it _ hx).2 h.own hb).mono ?_
  rintro e w' ⟨v', rfl, ho, hm⟩
  exact ⟨v', rfl, h.call ho hm⟩
theorem CJ.ring {BB : List UInt8} {key : Nat} {ds : List Dg} {u : Value} (h : CJ g w0 v0 cur bs xs w) (hB : BB.length = 1024) (hkey : (Lit.int .u32 (key : Int)).wf = true) (hx : (⟨.arr 32 .u8, ds, u⟩ : Item) ∈ xs) (hb : bs.length + 32 * List.length (α := Dg) ds ≤ 140737488350000) :
    Calls Try.prog 17 #[.agg (sigC (bv BB) key u).toArray, cur] w fun e w' => ∃ v', e = .returned v' ∧ CJ g w0 v0 v' (bs ++ sigB BB key ds) xs w' ∧ KeepB (fun b => b = g) w w' := by
  refine (Ring_Lay BB key u ds cur bs w hB hkey (h.it _ hx).1 (h.it _ hx).2 h.own hb).mono ?_
  rintro e w' ⟨v', rfl, ho, hm⟩
  exact ⟨v', rfl, h.call ho hm⟩
end
theorem trailB_len (hs : List Hp) : (trailB hs).length = 1 + 20 * List.length (α := Hp) hs := by
  show (List.flatMap hopB hs).length + 1 = _
  rw [hops_len]; omega
theorem szRing {n : Nat} (h : n = 1026) : (Try.prog.info? 58).map (·.size) = some n := by subst h; kernel_rfl
/-- A memo's bytes, by its kind. -/
def memoB (kind : Int) (ch rd : Nat) (o : Wish) (hs : List Hp) (BB : List UInt8) (key : Nat) (ds : List Dg) : List UInt8 :=
  if kind = 1 then byteOf kind :: (be 4 ch ++ (be 8 rd ++ (opB o ++ (trailB hs ++ sigB BB key ds))))
  else if kind = 2 then byteOf kind :: (be 4 ch ++ (be 8 rd ++ sigB BB key ds))
  else byteOf kind :: be 4 ch
set_option maxRecDepth 100000 in
set_option maxHeartbeats 16000000 in
theorem Bytes1 (ch rd : Nat) (o : Wish) (tr : Value) (hs : List Hp) (BB : List UInt8) (key : Nat) (u : Value) (ds : List Dg) (w : World) (hok : CondOk o.c) (ham : (Lit.int .u64 (o.am : Int)).wf = true) (hid : (Lit.int .u64 (o.id : Int)).wf = true) (hB : BB.length = 1024) (hkey : (Lit.int .u32 (key : Int)).wf = true)
    (hch : (Lit.int .u32 (ch : Int)).wf = true) (hrd : (Lit.int .u64 (rd : Int)).wf = true) (htr : Hold ⟨HopT, hs, tr⟩ w) (hu : Hold ⟨.arr 32 .u8, ds, u⟩ w) (hl1 : List.length (α := Hp) hs ≤ 1000) (hl2 : List.length (α := Dg) ds ≤ 1000)
    (hr : ∀ W, Ext w W → Calls Try.prog 9 #[.agg (memoC 1 ch rd (wishCells o) tr (sigC (bv BB) key u)).toArray] W fun e w' => e = .returned (.bool true) ∧ Ext W w') :
    Calls Try.prog 7 #[.agg (memoC 1 ch rd (wishCells o) tr (sigC (bv BB) key u)).toArray] w fun e w' => ∃ v, e = .returned (.tuple #[v, .int .i64 0]) ∧ OwnB w' v (memoB 1 ch rd o hs BB key ds) ∧ Ext w w' := by
  have hol := wishCells_len hok
  have hcl : (bv BB).length = 1024 := by rw [bv_length]; exact hB
  have hl := memoC_len (kind := 1) (ch := ch) (rd := rd) (tr := tr) hol (sigC_len hcl key u)
  have m0 : (memoC 1 ch rd (wishCells o) tr (sigC (bv BB) key u))[0]? = some (.int .i64 1) := rfl
  have m1 : (memoC 1 ch rd (wishCells o) tr (sigC (bv BB) key u))[1]? = some (.int .u32 (ch : Int)) := rfl
  have m2 : (memoC 1 ch rd (wishCells o) tr (sigC (bv BB) key u))[2]? = some (.int .u64 (rd : Int)) := rfl
  have mo := memoC_op (kind := 1) (ch := ch) (rd := rd) (tr := tr) (SG := sigC (bv BB) key u) hol
  have mt := memoC_tr (kind := 1) (ch := ch) (rd := rd) (tr := tr) (SG := sigC (bv BB) key u) hol
  have ms := memoC_sig (kind := 1) (ch := ch) (rd := rd) (tr := tr) (SG := sigC (bv BB) key u) hol
  have hsl := sigC_len hcl key u
  have hrg := fun (g : Nat) (w0 w : World) (v0 cur : Value) (bs : List UInt8) (xs : List Item) (h : CJ g w0 v0 cur bs xs w) hx hb => CJ.ring (BB := BB) (key := key) (ds := ds) (u := u) h hB hkey hx hb
  have hop := fun (g : Nat) (w0 w : World) (v0 cur : Value) (bs : List UInt8) (xs : List Item) (h : CJ g w0 v0 cur bs xs w) hb => CJ.op o hok ham hid h hb
  have hob := opB_len hok
  have htb := trailB_len hs
  generalize memoC 1 ch rd (wishCells o) tr (sigC (bv BB) key u) = M at *
  generalize sigC (bv BB) key u = SG at *
  generalize wishCells o = OC at *
  have hb0 : Blk (w.alloc (.cells M.toArray 60)) w.heap.size 60 M := Blk.new _ _ _
  have hx0 : Ext w (w.alloc (.cells M.toArray 60)) := (Ext.refl w).alloc _
  have hcm := hb0.cells
  have HRG := Lib.hid hrg
  have HOPC := Lib.hid hop
  have HOB := Lib.hid hob
  have HTB := Lib.hid htb
  have HML := Lib.hid hl
  have HOL := Lib.hid hol
  have HSL := Lib.hid hsl
  have HM0 := Lib.hid m0
  have HM1 := Lib.hid m1
  have HM2 := Lib.hid m2
  have HMO := Lib.hid mo
  have HMT := Lib.hid mt
  have HMS := Lib.hid ms
  have HR := Lib.hid hr
  have HB0 := Lib.hid hb0
  have HX0 := Lib.hid hx0
  have HTR := Lib.hid htr
  have HU := Lib.hid hu
  clear hb0 hx0 hl hr m0 m1 m2 mo mt ms hol hcl hsl hrg hop hob htb htr hu
  go_enter Try.func7, Try.ntmps7
  go_wp2_with (first
    | (refine wpList_load_agg _ rfl 60 (.tmp 1) rfl _ rfl M _ Try.underlying60 rfl (szMemo HML.out) hcm ?_)
    | fail)
  refine (HR.out _ HX0.out).mono ?_
  rintro e w1 ⟨rfl, hx1⟩
  have hb1 := HB0.out.keep hx1 (by simp)
  have hx2 := HX0.out.trans hx1
  have HB1 := Lib.hid hb1
  have HX2 := Lib.hid hx2
  clear hb1 hx2 hx1 hcm
  go_wp2
  have hb : Blk w1.drew w.heap.size 60 M := HB1.out
  have hx : Ext w w1.drew := HX2.out.drew
  refine startM (KeepB fun b => b < w1.drew.heap.size) (by kernel_rfl) ?_
  (try simp only [Act.put, List.setIfInBounds_toArray, List.set_cons_succ, List.set_cons_zero])
  generalize w1.drew = w0 at *
  have HK0 := Lib.hid ((hb.cell 0).trans HM0.out)
  have HK1 := Lib.hid ((hb.cell 1).trans HM1.out)
  have HBL := Lib.hid hb.lt
  have HB := Lib.hid hb
  have HX := Lib.hid hx
  have hJ := BJ.start w0 (byteOf 1) ch
  have HJ := Lib.hid hJ
  clear hb hx hJ HB1 HX2
  refine takeK 1 rfl (by kernel_rfl) (by kernel_rfl) (by kernel_rfl) rfl (fun _ _ _ _ h => h) rfl (fun K hK => ?_)
  go_big_quiet_op
  first | refine hK _ ?_ | refine ⟨_, fun _ _ => rfl, hK _ ?_⟩
  clear hK K
  refine takeK 2 rfl (by kernel_rfl) (by kernel_rfl) (by kernel_rfl) rfl (fun _ _ _ _ h => h) rfl (fun K hK => ?_)
  refine quiet_cell _ _ rfl _ rfl _ _ Try.underlying3 rfl (fun W' h => KeepB.cell h HK0.out HBL.out) ?_
  refine hK _ ?_
  simp only [Act.put, List.setIfInBounds_toArray, List.set_cons_succ, List.set_cons_zero]
  clear hK K
  refine takeK 3 rfl (by kernel_rfl) (by kernel_rfl) (by kernel_rfl) rfl (fun _ _ _ _ h => h) rfl (fun K hK => ?_)
  go_big_quiet_op
  first | refine hK _ ?_ | refine ⟨_, fun _ _ => rfl, hK _ ?_⟩
  clear hK K
  refine takeK 6 rfl (by kernel_rfl) (by kernel_rfl) (by kernel_rfl) rfl (fun _ _ _ _ h => h) rfl (fun K hK => ?_)
  go_big_quiet_op
  first | refine hK _ ?_ | refine ⟨_, fun _ _ => rfl, hK _ ?_⟩
  clear hK K
  refine takeK 7 rfl (by kernel_rfl) (by kernel_rfl) (by kernel_rfl) rfl (fun _ _ _ _ h => h) rfl (fun K hK => ?_)
  refine quiet_cell _ _ rfl _ rfl _ _ Try.underlying22 rfl (fun W' h => KeepB.cell h HK1.out HBL.out) ?_
  refine hK _ ?_
  simp only [Act.put, List.setIfInBounds_toArray, List.set_cons_succ, List.set_cons_zero]
  clear hK K
  apply sharedB (fun _ _ v13 v16 W => BJ w0 (byteOf 1) ch none none (some v13) (some v16) W)
  · intro hM
    refine threeM 0 4 8 rfl rfl rfl (by kernel_rfl) rfl rfl rfl (fun K hK => ?_) (fun K hK => ?_) (fun K hK => ?_)
    · refine wp_b8 HJ.out 71 rfl Try.underlying71 ?_
      intro v8 W8 hJ hkb
      have HJ := Lib.hid hJ
      clear hJ
      refine hK _ _ (hkb) ?_
      clear hK K
      (try simp only [Act.put, List.setIfInBounds_toArray, List.set_cons_succ, List.set_cons_zero])
      refine bothM 4 8 rfl rfl (by kernel_rfl) rfl rfl (fun K hK => ?_) (fun K hK => ?_)
      · refine wp_b12 HJ.out 42 (.tmp 11) rfl Try.underlying42 rfl ?_
        intro v12 W12 hJ hkb
        have HJ := Lib.hid hJ
        clear hJ
        refine hK _ _ (hkb) ?_
        clear hK K
        (try simp only [Act.put, List.setIfInBounds_toArray, List.set_cons_succ, List.set_cons_zero])
        refine bothM 5 8 rfl rfl (by kernel_rfl) rfl rfl (fun K hK => ?_) (fun K hK => ?_)
        · go_simp
          refine (BJ.one HJ.out).mono ?_
          rintro e W13 ⟨v13, rfl, hJ, hkb⟩
          have HJ := Lib.hid hJ
          clear hJ
          refine hK _ _ (hkb) ?_
          clear hK K
          refine stepM 8 rfl (by kernel_rfl) rfl (fun K hK => ?_)
          refine wp_b16 HJ.out hch 91 (.tmp 15) rfl Try.underlying91 rfl ?_
          intro v16 W16 hJ hkb
          have HJ := Lib.hid hJ
          clear hJ
          refine hK _ _ (hkb) ?_
          clear hK K
          (try simp only [Act.put, List.setIfInBounds_toArray, List.set_cons_succ, List.set_cons_zero])
          exact hM v8 v12 v13 v16 _ HJ.out
        · refine wp_b16 HJ.out hch 91 (.tmp 15) rfl Try.underlying91 rfl ?_
          intro v16 W16 hJ hkb
          have HJ := Lib.hid hJ
          clear hJ
          refine hK _ _ (hkb) ?_
          clear hK K
          (try simp only [Act.put, List.setIfInBounds_toArray, List.set_cons_succ, List.set_cons_zero])
          refine stepM 5 rfl (by kernel_rfl) rfl (fun K hK => ?_)
          go_simp
          refine (BJ.one HJ.out).mono ?_
          rintro e W13 ⟨v13, rfl, hJ, hkb⟩
          have HJ := Lib.hid hJ
          clear hJ
          refine hK _ _ (hkb) ?_
          clear hK K
          refine relist (by kernel_rfl) (hM v8 v12 v13 v16 _ HJ.out)
      · refine wp_b16 HJ.out hch 91 (.tmp 15) rfl Try.underlying91 rfl ?_
        intro v16 W16 hJ hkb
        have HJ := Lib.hid hJ
        clear hJ
        refine hK _ _ (hkb) ?_
        clear hK K
        (try simp only [Act.put, List.setIfInBounds_toArray, List.set_cons_succ, List.set_cons_zero])
        refine stepM 4 rfl (by kernel_rfl) rfl (fun K hK => ?_)
        refine wp_b12 HJ.out 42 (.tmp 11) rfl Try.underlying42 rfl ?_
        intro v12 W12 hJ hkb
        have HJ := Lib.hid hJ
        clear hJ
        refine hK _ _ (hkb) ?_
        clear hK K
        (try simp only [Act.put, List.setIfInBounds_toArray, List.set_cons_succ, List.set_cons_zero])
        refine stepM 5 rfl (by kernel_rfl) rfl (fun K hK => ?_)
        go_simp
        refine (BJ.one HJ.out).mono ?_
        rintro e W13 ⟨v13, rfl, hJ, hkb⟩
        have HJ := Lib.hid hJ
        clear hJ
        refine hK _ _ (hkb) ?_
        clear hK K
        refine relist (by kernel_rfl) (hM v8 v12 v13 v16 _ HJ.out)
    · refine wp_b12 HJ.out 42 (.tmp 11) rfl Try.underlying42 rfl ?_
      intro v12 W12 hJ hkb
      have HJ := Lib.hid hJ
      clear hJ
      refine hK _ _ (hkb) ?_
      clear hK K
      (try simp only [Act.put, List.setIfInBounds_toArray, List.set_cons_succ, List.set_cons_zero])
      refine bothM 0 8 rfl rfl (by kernel_rfl) rfl rfl (fun K hK => ?_) (fun K hK => ?_)
      · refine wp_b8 HJ.out 71 rfl Try.underlying71 ?_
        intro v8 W8 hJ hkb
        have HJ := Lib.hid hJ
        clear hJ
        refine hK _ _ (hkb) ?_
        clear hK K
        (try simp only [Act.put, List.setIfInBounds_toArray, List.set_cons_succ, List.set_cons_zero])
        refine bothM 5 8 rfl rfl (by kernel_rfl) rfl rfl (fun K hK => ?_) (fun K hK => ?_)
        · go_simp
          refine (BJ.one HJ.out).mono ?_
          rintro e W13 ⟨v13, rfl, hJ, hkb⟩
          have HJ := Lib.hid hJ
          clear hJ
          refine hK _ _ (hkb) ?_
          clear hK K
          refine stepM 8 rfl (by kernel_rfl) rfl (fun K hK => ?_)
          refine wp_b16 HJ.out hch 91 (.tmp 15) rfl Try.underlying91 rfl ?_
          intro v16 W16 hJ hkb
          have HJ := Lib.hid hJ
          clear hJ
          refine hK _ _ (hkb) ?_
          clear hK K
          (try simp only [Act.put, List.setIfInBounds_toArray, List.set_cons_succ, List.set_cons_zero])
          refine relist (by kernel_rfl) (hM v8 v12 v13 v16 _ HJ.out)
        · refine wp_b16 HJ.out hch 91 (.tmp 15) rfl Try.underlying91 rfl ?_
          intro v16 W16 hJ hkb
          have HJ := Lib.hid hJ
          clear hJ
          refine hK _ _ (hkb) ?_
          clear hK K
          (try simp only [Act.put, List.setIfInBounds_toArray, List.set_cons_succ, List.set_cons_zero])
          refine stepM 5 rfl (by kernel_rfl) rfl (fun K hK => ?_)
          go_simp
          refine (BJ.one HJ.out).mono ?_
          rintro e W13 ⟨v13, rfl, hJ, hkb⟩
          have HJ := Lib.hid hJ
          clear hJ
          refine hK _ _ (hkb) ?_
          clear hK K
          refine relist (by kernel_rfl) (hM v8 v12 v13 v16 _ HJ.out)
      · refine wp_b16 HJ.out hch 91 (.tmp 15) rfl Try.underlying91 rfl ?_
        intro v16 W16 hJ hkb
        have HJ := Lib.hid hJ
        clear hJ
        refine hK _ _ (hkb) ?_
        clear hK K
        (try simp only [Act.put, List.setIfInBounds_toArray, List.set_cons_succ, List.set_cons_zero])
        refine stepM 0 rfl (by kernel_rfl) rfl (fun K hK => ?_)
        refine wp_b8 HJ.out 71 rfl Try.underlying71 ?_
        intro v8 W8 hJ hkb
        have HJ := Lib.hid hJ
        clear hJ
        refine hK _ _ (hkb) ?_
        clear hK K
        (try simp only [Act.put, List.setIfInBounds_toArray, List.set_cons_succ, List.set_cons_zero])
        refine stepM 5 rfl (by kernel_rfl) rfl (fun K hK => ?_)
        go_simp
        refine (BJ.one HJ.out).mono ?_
        rintro e W13 ⟨v13, rfl, hJ, hkb⟩
        have HJ := Lib.hid hJ
        clear hJ
        refine hK _ _ (hkb) ?_
        clear hK K
        refine relist (by kernel_rfl) (hM v8 v12 v13 v16 _ HJ.out)
    · refine wp_b16 HJ.out hch 91 (.tmp 15) rfl Try.underlying91 rfl ?_
      intro v16 W16 hJ hkb
      have HJ := Lib.hid hJ
      clear hJ
      refine hK _ _ (hkb) ?_
      clear hK K
      (try simp only [Act.put, List.setIfInBounds_toArray, List.set_cons_succ, List.set_cons_zero])
      refine bothM 0 4 rfl rfl (by kernel_rfl) rfl rfl (fun K hK => ?_) (fun K hK => ?_)
      · refine wp_b8 HJ.out 71 rfl Try.underlying71 ?_
        intro v8 W8 hJ hkb
        have HJ := Lib.hid hJ
        clear hJ
        refine hK _ _ (hkb) ?_
        clear hK K
        (try simp only [Act.put, List.setIfInBounds_toArray, List.set_cons_succ, List.set_cons_zero])
        refine stepM 4 rfl (by kernel_rfl) rfl (fun K hK => ?_)
        refine wp_b12 HJ.out 42 (.tmp 11) rfl Try.underlying42 rfl ?_
        intro v12 W12 hJ hkb
        have HJ := Lib.hid hJ
        clear hJ
        refine hK _ _ (hkb) ?_
        clear hK K
        (try simp only [Act.put, List.setIfInBounds_toArray, List.set_cons_succ, List.set_cons_zero])
        refine stepM 5 rfl (by kernel_rfl) rfl (fun K hK => ?_)
        go_simp
        refine (BJ.one HJ.out).mono ?_
        rintro e W13 ⟨v13, rfl, hJ, hkb⟩
        have HJ := Lib.hid hJ
        clear hJ
        refine hK _ _ (hkb) ?_
        clear hK K
        refine relist (by kernel_rfl) (hM v8 v12 v13 v16 _ HJ.out)
      · refine wp_b12 HJ.out 42 (.tmp 11) rfl Try.underlying42 rfl ?_
        intro v12 W12 hJ hkb
        have HJ := Lib.hid hJ
        clear hJ
        refine hK _ _ (hkb) ?_
        clear hK K
        (try simp only [Act.put, List.setIfInBounds_toArray, List.set_cons_succ, List.set_cons_zero])
        refine stepM 0 rfl (by kernel_rfl) rfl (fun K hK => ?_)
        refine wp_b8 HJ.out 71 rfl Try.underlying71 ?_
        intro v8 W8 hJ hkb
        have HJ := Lib.hid hJ
        clear hJ
        refine hK _ _ (hkb) ?_
        clear hK K
        (try simp only [Act.put, List.setIfInBounds_toArray, List.set_cons_succ, List.set_cons_zero])
        refine stepM 5 rfl (by kernel_rfl) rfl (fun K hK => ?_)
        go_simp
        refine (BJ.one HJ.out).mono ?_
        rintro e W13 ⟨v13, rfl, hJ, hkb⟩
        have HJ := Lib.hid hJ
        clear hJ
        refine hK _ _ (hkb) ?_
        clear hK K
        refine relist (by kernel_rfl) (hM v8 v12 v13 v16 _ HJ.out)
  intro v8 v12 v13 v16 W hJ
  have HJ := Lib.hid hJ
  clear hJ
  refine stepM 9 rfl (by kernel_rfl) rfl (fun K hK => ?_)
  go_simp
  refine (BJ.four' HJ.out).mono ?_
  rintro e W17 ⟨v17, rfl, ho17, hx17, hkb, hf17⟩
  refine hK _ _ (hkb) ?_
  clear hK K
  refine takeK 10 rfl (by kernel_rfl) (by kernel_rfl) (by kernel_rfl) rfl (fun _ _ _ _ h => h) rfl (fun K hK => ?_)
  go_big_quiet_op
  first | refine hK _ ?_ | refine ⟨_, fun _ _ => rfl, hK _ ?_⟩
  clear hK K
  refine doneM (by kernel_rfl) ?_ _
  have hb17 := HB.out.keep hx17 (by simp)
  have k0 : W17.cell? ⟨w.heap.size, 0, none⟩ = some (.int .i64 1) := (hb17.cell 0).trans HM0.out
  have HB17 := Lib.hid hb17
  have HX17 := Lib.hid (HX.out.trans hx17)
  have HO17 := Lib.hid ho17
  have HF17 := Lib.hid hf17
  clear hb17 hx17 ho17 hf17 hkb HJ
  go_wp2
  have hbq : Blk W17.drew w.heap.size 60 M := HB17.out
  have hxq : Ext w W17.drew := HX17.out.drew
  have hoq : OwnB W17.drew v17 ([(byteOf 1)] ++ be 4 ch) := HO17.out.ext (Ext.refl _).drew
  refine startM (KeepB fun b => b = w.heap.size) (by kernel_rfl) ?_
  (try simp only [Act.put, List.setIfInBounds_toArray, List.set_cons_succ, List.set_cons_zero])
  have hbl0 := HBL.out
  generalize W17.drew = wq at *
  have HQ2 := Lib.hid ((hbq.cell 2).trans HM2.out)
  have HQT := Lib.hid ((hbq.cell 42).trans HMT.out)
  have hqo : Cells wq ⟨w.heap.size, 3, none⟩ OC := by have h := (hbq.cells.drop 3).take 39; rw [HMO.out, addr_at] at h; exact h
  have hqs : Cells wq ⟨w.heap.size, 43, none⟩ SG := by have h := hbq.cells.drop 43; rw [HMS.out, addr_at] at h; exact h
  have HQO := Lib.hid hqo
  have HQS := Lib.hid hqs
  have hlt : ∀ b, v17.ownBlock = some b → w.heap.size < b := fun b hb => by have := HF17.out b hb; omega
  have keepit : ∀ x : Item, Hold x w → Hold x wq ∧ ∀ b, v17.ownBlock = some b → x.v.ownBlock ≠ some b := fun x h => ⟨⟨hxq.holds h.2 h.1, fun b hb => Nat.lt_of_lt_of_le (h.2 b hb) hxq.size⟩, fun b hb e => by have h1 := hlt b hb; have h2 := h.2 b e; omega⟩
  have hJ0 : CJ w.heap.size wq v17 v17 ([(byteOf 1)] ++ be 4 ch) [⟨HopT, hs, tr⟩, ⟨.arr 32 .u8, ds, u⟩] wq := ⟨Moved.refl _ _, hbq.lt, fun b hb e => by have := hlt b hb; omega, hoq, fun x hxm => by
    simp only [List.mem_cons, List.not_mem_nil, or_false] at hxm
    rcases hxm with rfl | rfl
    · exact keepit _ HTR.out
    · exact keepit _ HU.out⟩
  have hfr : ∀ b, v17.ownBlock = some b → w.heap.size ≤ b := fun b hb => Nat.le_of_lt (hlt b hb)
  have HXQ := Lib.hid hxq
  have HFR := Lib.hid hfr
  clear hbq hxq hoq hqo hqs keepit hlt hfr
  refine takeK 0 rfl (by kernel_rfl) (by kernel_rfl) (by kernel_rfl) rfl (fun _ _ _ _ h => h) rfl (fun K hK => ?_)
  go_big_quiet_op
  first | refine hK _ ?_ | refine ⟨_, fun _ _ => rfl, hK _ ?_⟩
  clear hK K
  refine takeK 1 rfl (by kernel_rfl) (by kernel_rfl) (by kernel_rfl) rfl (fun _ _ _ _ h => h) rfl (fun K hK => ?_)
  refine quiet_agg 58 (.tmp 22) rfl _ rfl SG _ Try.underlying58 rfl (szRing HSL.out) (fun W' h => KeepB.cells h HQS.out rfl) ?_
  refine hK _ ?_
  simp only [Act.put, List.setIfInBounds_toArray, List.set_cons_succ, List.set_cons_zero]
  clear hK K
  refine takeK 2 rfl (by kernel_rfl) (by kernel_rfl) (by kernel_rfl) rfl (fun _ _ _ _ h => h) rfl (fun K hK => ?_)
  go_big_quiet_op
  first | refine hK _ ?_ | refine ⟨_, fun _ _ => rfl, hK _ ?_⟩
  clear hK K
  refine takeK 3 rfl (by kernel_rfl) (by kernel_rfl) (by kernel_rfl) rfl (fun _ _ _ _ h => h) rfl (fun K hK => ?_)
  go_big_quiet_op
  first | refine hK _ ?_ | refine ⟨_, fun _ _ => rfl, hK _ ?_⟩
  clear hK K
  refine takeK 4 rfl (by kernel_rfl) (by kernel_rfl) (by kernel_rfl) rfl (fun _ _ _ _ h => h) rfl (fun K hK => ?_)
  refine quiet_cell _ _ rfl _ rfl _ _ Try.underlying23 rfl (fun W' h => KeepB.cell h HQ2.out rfl) ?_
  refine hK _ ?_
  simp only [Act.put, List.setIfInBounds_toArray, List.set_cons_succ, List.set_cons_zero]
  clear hK K
  refine takeK 7 rfl (by kernel_rfl) (by kernel_rfl) (by kernel_rfl) rfl (fun _ _ _ _ h => h) rfl (fun K hK => ?_)
  go_big_quiet_op
  first | refine hK _ ?_ | refine ⟨_, fun _ _ => rfl, hK _ ?_⟩
  clear hK K
  refine takeK 8 rfl (by kernel_rfl) (by kernel_rfl) (by kernel_rfl) rfl (fun _ _ _ _ h => h) rfl (fun K hK => ?_)
  refine quiet_agg 50 (.tmp 29) rfl _ rfl OC _ Try.underlying50 rfl (op_size HOL.out) (fun W' h => KeepB.cells h HQO.out rfl) ?_
  refine hK _ ?_
  simp only [Act.put, List.setIfInBounds_toArray, List.set_cons_succ, List.set_cons_zero]
  clear hK K
  refine takeK 10 rfl (by kernel_rfl) (by kernel_rfl) (by kernel_rfl) rfl (fun _ _ _ _ h => h) rfl (fun K hK => ?_)
  go_big_quiet_op
  first | refine hK _ ?_ | refine ⟨_, fun _ _ => rfl, hK _ ?_⟩
  clear hK K
  refine takeK 11 rfl (by kernel_rfl) (by kernel_rfl) (by kernel_rfl) rfl (fun _ _ _ _ h => h) rfl (fun K hK => ?_)
  refine quiet_cell _ _ rfl _ rfl _ _ Try.underlying51 rfl (fun W' h => KeepB.cell h HQT.out rfl) ?_
  refine hK _ ?_
  simp only [Act.put, List.setIfInBounds_toArray, List.set_cons_succ, List.set_cons_zero]
  clear hK K
  apply lat4 (fun v27 v28 v31 v34 W => CJ w.heap.size wq v17 v34 (((([(byteOf 1)] ++ be 4 ch) ++ [rd].flatMap (be 8)) ++ opB o) ++ trailB hs) [⟨HopT, hs, tr⟩, ⟨.arr 32 .u8, ds, u⟩] W)
  intro hM3
  apply lat3 (fun v27 v28 v31 W => CJ w.heap.size wq v17 v31 ((([(byteOf 1)] ++ be 4 ch) ++ [rd].flatMap (be 8)) ++ opB o) [⟨HopT, hs, tr⟩, ⟨.arr 32 .u8, ds, u⟩] W)
  intro hM2
  apply lat2 (fun v27 v28 W => CJ w.heap.size wq v17 v28 (([(byteOf 1)] ++ be 4 ch) ++ [rd].flatMap (be 8)) [⟨HopT, hs, tr⟩, ⟨.arr 32 .u8, ds, u⟩] W)
  intro hM1
  apply lat1 (fun v27 W => CJ w.heap.size wq v17 v17 ([(byteOf 1)] ++ be 4 ch) [⟨.nat .u64, [rd], v27⟩, ⟨HopT, hs, tr⟩, ⟨.arr 32 .u8, ds, u⟩] W)
  intro hM0
  · have HJ := Lib.hid hJ0
    refine stepM 5 rfl (by kernel_rfl) rfl (fun K hK => ?_)
    refine HJ.out.mk1 95 (.tmp 26) rfl 23 Try.underlying95 (.nat .u64) rd _ [Value.int .u64 (rd : Int)] rfl rfl (fun _ _ => ⟨rfl, hrd⟩) u64_size1 u64_zero1 (show 1 ≤ 16777216 by decide) (show 0 < 1 by decide) ?_
    intro v27 W hJ hkb
    have HJ := Lib.hid hJ
    clear hJ
    refine hK _ _ hkb ?_
    clear hK K
    (try simp only [Act.put, List.setIfInBounds_toArray, List.set_cons_succ, List.set_cons_zero])
    exact hM0 v27 _ (HJ.out.sub (by intro x hx; simp only [List.mem_cons, List.not_mem_nil, or_false] at hx; rcases hx with rfl | rfl | rfl <;> first | exact (.head _) | exact (.tail _ (.head _)) | exact (.tail _ (.tail _ (.head _)))))
  · intro v27 W hJ
    have HJ := Lib.hid hJ
    clear hJ
    refine stepM 6 rfl (by kernel_rfl) rfl (fun K hK => ?_)
    go_simp
    refine (HJ.out.eight (.head _) (by have h1 := HTB.out; have h2 := HOB.out; simp only [List.length_append, List.length_cons, List.length_nil, List.flatMap_cons, List.flatMap_nil, be_length, h1, h2]; omega)).mono ?_
    rintro e W ⟨v28, rfl, hJ, hkb⟩
    have HJ := Lib.hid hJ
    clear hJ
    refine hK _ _ hkb ?_
    clear hK K
    exact hM1 v27 v28 _ (HJ.out.sub (by intro x hx; simp only [List.mem_cons, List.not_mem_nil, or_false] at hx; rcases hx with rfl | rfl <;> first | exact (.tail _ (.head _)) | exact (.tail _ (.tail _ (.head _)))))
  · intro v27 v28 W hJ
    have HJ := Lib.hid hJ
    clear hJ
    refine stepM 9 rfl (by kernel_rfl) rfl (fun K hK => ?_)
    go_simp
    refine (HOPC.out _ _ _ _ _ _ _ HJ.out (by have h1 := HTB.out; have h2 := HOB.out; simp only [List.length_append, List.length_cons, List.length_nil, List.flatMap_cons, List.flatMap_nil, be_length, h1, h2]; omega)).mono ?_
    rintro e W ⟨v31, rfl, hJ, hkb⟩
    have HJ := Lib.hid hJ
    clear hJ
    refine hK _ _ hkb ?_
    clear hK K
    exact hM2 v27 v28 v31 _ (HJ.out.sub (by intro x hx; simp only [List.mem_cons, List.not_mem_nil, or_false] at hx; rcases hx with rfl | rfl <;> first | exact (.head _) | exact (.tail _ (.head _))))
  · intro v27 v28 v31 W hJ
    have HJ := Lib.hid hJ
    clear hJ
    refine stepM 12 rfl (by kernel_rfl) rfl (fun K hK => ?_)
    go_simp
    refine (HJ.out.trail (hs := hs) (u := tr) (.head _) (by have h1 := HTB.out; have h2 := HOB.out; simp only [List.length_append, List.length_cons, List.length_nil, List.flatMap_cons, List.flatMap_nil, be_length, h1, h2]; omega)).mono ?_
    rintro e W ⟨v34, rfl, hJ, hkb⟩
    have HJ := Lib.hid hJ
    clear hJ
    refine hK _ _ hkb ?_
    clear hK K
    exact hM3 v27 v28 v31 v34 _ (HJ.out.sub (by intro x hx; simp only [List.mem_cons, List.not_mem_nil, or_false] at hx; rcases hx with rfl | rfl <;> first | exact (.head _) | exact (.tail _ (.head _))))
  intro v27 v28 v31 v34 W hJ
  have HJ := Lib.hid hJ
  clear hJ
  refine stepM 13 rfl (by kernel_rfl) rfl (fun K hK => ?_)
  go_simp
  refine (HRG.out _ _ _ _ _ _ _ HJ.out (.tail _ (.head _)) (by have h1 := HTB.out; have h2 := HOB.out; simp only [List.length_append, List.length_cons, List.length_nil, List.flatMap_cons, List.flatMap_nil, be_length, h1, h2]; omega)).mono ?_
  rintro e W ⟨v35, rfl, hJ, hkb⟩
  have HJ := Lib.hid hJ
  clear hJ
  refine hK _ _ hkb ?_
  clear hK K
  refine takeK 14 rfl (by kernel_rfl) (by kernel_rfl) (by kernel_rfl) rfl (fun _ _ _ _ h => h) rfl (fun K hK => ?_)
  go_big_quiet_op
  first | refine hK _ ?_ | refine ⟨_, fun _ _ => rfl, hK _ ?_⟩
  clear hK K
  refine doneM (by kernel_rfl) ?_ _
  have ho9 := HJ.out.own
  have hx9 : Ext w W := grown_then HXQ.out HJ.out.mv.grown (.inr HFR.out)
  clear HJ
  go_wp2
  go_ret2
  exact ⟨_, rfl, by simpa [memoB] using ho9, hx9⟩
set_option maxRecDepth 100000 in
set_option maxHeartbeats 16000000 in
theorem Bytes2 (ch rd : Nat) (o : Wish) (tr : Value) (hs : List Hp) (BB : List UInt8) (key : Nat) (u : Value) (ds : List Dg) (w : World) (hok : CondOk o.c) (ham : (Lit.int .u64 (o.am : Int)).wf = true) (hid : (Lit.int .u64 (o.id : Int)).wf = true) (hB : BB.length = 1024) (hkey : (Lit.int .u32 (key : Int)).wf = true)
    (hch : (Lit.int .u32 (ch : Int)).wf = true) (hrd : (Lit.int .u64 (rd : Int)).wf = true) (htr : Hold ⟨HopT, hs, tr⟩ w) (hu : Hold ⟨.arr 32 .u8, ds, u⟩ w) (hl1 : List.length (α := Hp) hs ≤ 1000) (hl2 : List.length (α := Dg) ds ≤ 1000)
    (hr : ∀ W, Ext w W → Calls Try.prog 9 #[.agg (memoC 2 ch rd (wishCells o) tr (sigC (bv BB) key u)).toArray] W fun e w' => e = .returned (.bool true) ∧ Ext W w') :
    Calls Try.prog 7 #[.agg (memoC 2 ch rd (wishCells o) tr (sigC (bv BB) key u)).toArray] w fun e w' => ∃ v, e = .returned (.tuple #[v, .int .i64 0]) ∧ OwnB w' v (memoB 2 ch rd o hs BB key ds) ∧ Ext w w' := by
  have hol := wishCells_len hok
  have hcl : (bv BB).length = 1024 := by rw [bv_length]; exact hB
  have hl := memoC_len (kind := 2) (ch := ch) (rd := rd) (tr := tr) hol (sigC_len hcl key u)
  have m0 : (memoC 2 ch rd (wishCells o) tr (sigC (bv BB) key u))[0]? = some (.int .i64 2) := rfl
  have m1 : (memoC 2 ch rd (wishCells o) tr (sigC (bv BB) key u))[1]? = some (.int .u32 (ch : Int)) := rfl
  have m2 : (memoC 2 ch rd (wishCells o) tr (sigC (bv BB) key u))[2]? = some (.int .u64 (rd : Int)) := rfl
  have mo := memoC_op (kind := 2) (ch := ch) (rd := rd) (tr := tr) (SG := sigC (bv BB) key u) hol
  have mt := memoC_tr (kind := 2) (ch := ch) (rd := rd) (tr := tr) (SG := sigC (bv BB) key u) hol
  have ms := memoC_sig (kind := 2) (ch := ch) (rd := rd) (tr := tr) (SG := sigC (bv BB) key u) hol
  have hsl := sigC_len hcl key u
  have hrg := fun (g : Nat) (w0 w : World) (v0 cur : Value) (bs : List UInt8) (xs : List Item) (h : CJ g w0 v0 cur bs xs w) hx hb => CJ.ring (BB := BB) (key := key) (ds := ds) (u := u) h hB hkey hx hb
  have hop := fun (g : Nat) (w0 w : World) (v0 cur : Value) (bs : List UInt8) (xs : List Item) (h : CJ g w0 v0 cur bs xs w) hb => CJ.op o hok ham hid h hb
  have hob := opB_len hok
  have htb := trailB_len hs
  generalize memoC 2 ch rd (wishCells o) tr (sigC (bv BB) key u) = M at *
  generalize sigC (bv BB) key u = SG at *
  generalize wishCells o = OC at *
  have hb0 : Blk (w.alloc (.cells M.toArray 60)) w.heap.size 60 M := Blk.new _ _ _
  have hx0 : Ext w (w.alloc (.cells M.toArray 60)) := (Ext.refl w).alloc _
  have hcm := hb0.cells
  have HRG := Lib.hid hrg
  have HOPC := Lib.hid hop
  have HOB := Lib.hid hob
  have HTB := Lib.hid htb
  have HML := Lib.hid hl
  have HOL := Lib.hid hol
  have HSL := Lib.hid hsl
  have HM0 := Lib.hid m0
  have HM1 := Lib.hid m1
  have HM2 := Lib.hid m2
  have HMO := Lib.hid mo
  have HMT := Lib.hid mt
  have HMS := Lib.hid ms
  have HR := Lib.hid hr
  have HB0 := Lib.hid hb0
  have HX0 := Lib.hid hx0
  have HTR := Lib.hid htr
  have HU := Lib.hid hu
  clear hb0 hx0 hl hr m0 m1 m2 mo mt ms hol hcl hsl hrg hop hob htb htr hu
  go_enter Try.func7, Try.ntmps7
  go_wp2_with (first
    | (refine wpList_load_agg _ rfl 60 (.tmp 1) rfl _ rfl M _ Try.underlying60 rfl (szMemo HML.out) hcm ?_)
    | fail)
  refine (HR.out _ HX0.out).mono ?_
  rintro e w1 ⟨rfl, hx1⟩
  have hb1 := HB0.out.keep hx1 (by simp)
  have hx2 := HX0.out.trans hx1
  have HB1 := Lib.hid hb1
  have HX2 := Lib.hid hx2
  clear hb1 hx2 hx1 hcm
  go_wp2
  have hb : Blk w1.drew w.heap.size 60 M := HB1.out
  have hx : Ext w w1.drew := HX2.out.drew
  refine startM (KeepB fun b => b < w1.drew.heap.size) (by kernel_rfl) ?_
  (try simp only [Act.put, List.setIfInBounds_toArray, List.set_cons_succ, List.set_cons_zero])
  generalize w1.drew = w0 at *
  have HK0 := Lib.hid ((hb.cell 0).trans HM0.out)
  have HK1 := Lib.hid ((hb.cell 1).trans HM1.out)
  have HBL := Lib.hid hb.lt
  have HB := Lib.hid hb
  have HX := Lib.hid hx
  have hJ := BJ.start w0 (byteOf 2) ch
  have HJ := Lib.hid hJ
  clear hb hx hJ HB1 HX2
  refine takeK 1 rfl (by kernel_rfl) (by kernel_rfl) (by kernel_rfl) rfl (fun _ _ _ _ h => h) rfl (fun K hK => ?_)
  go_big_quiet_op
  first | refine hK _ ?_ | refine ⟨_, fun _ _ => rfl, hK _ ?_⟩
  clear hK K
  refine takeK 2 rfl (by kernel_rfl) (by kernel_rfl) (by kernel_rfl) rfl (fun _ _ _ _ h => h) rfl (fun K hK => ?_)
  refine quiet_cell _ _ rfl _ rfl _ _ Try.underlying3 rfl (fun W' h => KeepB.cell h HK0.out HBL.out) ?_
  refine hK _ ?_
  simp only [Act.put, List.setIfInBounds_toArray, List.set_cons_succ, List.set_cons_zero]
  clear hK K
  refine takeK 3 rfl (by kernel_rfl) (by kernel_rfl) (by kernel_rfl) rfl (fun _ _ _ _ h => h) rfl (fun K hK => ?_)
  go_big_quiet_op
  first | refine hK _ ?_ | refine ⟨_, fun _ _ => rfl, hK _ ?_⟩
  clear hK K
  refine takeK 6 rfl (by kernel_rfl) (by kernel_rfl) (by kernel_rfl) rfl (fun _ _ _ _ h => h) rfl (fun K hK => ?_)
  go_big_quiet_op
  first | refine hK _ ?_ | refine ⟨_, fun _ _ => rfl, hK _ ?_⟩
  clear hK K
  refine takeK 7 rfl (by kernel_rfl) (by kernel_rfl) (by kernel_rfl) rfl (fun _ _ _ _ h => h) rfl (fun K hK => ?_)
  refine quiet_cell _ _ rfl _ rfl _ _ Try.underlying22 rfl (fun W' h => KeepB.cell h HK1.out HBL.out) ?_
  refine hK _ ?_
  simp only [Act.put, List.setIfInBounds_toArray, List.set_cons_succ, List.set_cons_zero]
  clear hK K
  apply sharedB (fun _ _ v13 v16 W => BJ w0 (byteOf 2) ch none none (some v13) (some v16) W)
  · intro hM
    refine threeM 0 4 8 rfl rfl rfl (by kernel_rfl) rfl rfl rfl (fun K hK => ?_) (fun K hK => ?_) (fun K hK => ?_)
    · refine wp_b8 HJ.out 71 rfl Try.underlying71 ?_
      intro v8 W8 hJ hkb
      have HJ := Lib.hid hJ
      clear hJ
      refine hK _ _ (hkb) ?_
      clear hK K
      (try simp only [Act.put, List.setIfInBounds_toArray, List.set_cons_succ, List.set_cons_zero])
      refine bothM 4 8 rfl rfl (by kernel_rfl) rfl rfl (fun K hK => ?_) (fun K hK => ?_)
      · refine wp_b12 HJ.out 42 (.tmp 11) rfl Try.underlying42 rfl ?_
        intro v12 W12 hJ hkb
        have HJ := Lib.hid hJ
        clear hJ
        refine hK _ _ (hkb) ?_
        clear hK K
        (try simp only [Act.put, List.setIfInBounds_toArray, List.set_cons_succ, List.set_cons_zero])
        refine bothM 5 8 rfl rfl (by kernel_rfl) rfl rfl (fun K hK => ?_) (fun K hK => ?_)
        · go_simp
          refine (BJ.one HJ.out).mono ?_
          rintro e W13 ⟨v13, rfl, hJ, hkb⟩
          have HJ := Lib.hid hJ
          clear hJ
          refine hK _ _ (hkb) ?_
          clear hK K
          refine stepM 8 rfl (by kernel_rfl) rfl (fun K hK => ?_)
          refine wp_b16 HJ.out hch 91 (.tmp 15) rfl Try.underlying91 rfl ?_
          intro v16 W16 hJ hkb
          have HJ := Lib.hid hJ
          clear hJ
          refine hK _ _ (hkb) ?_
          clear hK K
          (try simp only [Act.put, List.setIfInBounds_toArray, List.set_cons_succ, List.set_cons_zero])
          exact hM v8 v12 v13 v16 _ HJ.out
        · refine wp_b16 HJ.out hch 91 (.tmp 15) rfl Try.underlying91 rfl ?_
          intro v16 W16 hJ hkb
          have HJ := Lib.hid hJ
          clear hJ
          refine hK _ _ (hkb) ?_
          clear hK K
          (try simp only [Act.put, List.setIfInBounds_toArray, List.set_cons_succ, List.set_cons_zero])
          refine stepM 5 rfl (by kernel_rfl) rfl (fun K hK => ?_)
          go_simp
          refine (BJ.one HJ.out).mono ?_
          rintro e W13 ⟨v13, rfl, hJ, hkb⟩
          have HJ := Lib.hid hJ
          clear hJ
          refine hK _ _ (hkb) ?_
          clear hK K
          refine relist (by kernel_rfl) (hM v8 v12 v13 v16 _ HJ.out)
      · refine wp_b16 HJ.out hch 91 (.tmp 15) rfl Try.underlying91 rfl ?_
        intro v16 W16 hJ hkb
        have HJ := Lib.hid hJ
        clear hJ
        refine hK _ _ (hkb) ?_
        clear hK K
        (try simp only [Act.put, List.setIfInBounds_toArray, List.set_cons_succ, List.set_cons_zero])
        refine stepM 4 rfl (by kernel_rfl) rfl (fun K hK => ?_)
        refine wp_b12 HJ.out 42 (.tmp 11) rfl Try.underlying42 rfl ?_
        intro v12 W12 hJ hkb
        have HJ := Lib.hid hJ
        clear hJ
        refine hK _ _ (hkb) ?_
        clear hK K
        (try simp only [Act.put, List.setIfInBounds_toArray, List.set_cons_succ, List.set_cons_zero])
        refine stepM 5 rfl (by kernel_rfl) rfl (fun K hK => ?_)
        go_simp
        refine (BJ.one HJ.out).mono ?_
        rintro e W13 ⟨v13, rfl, hJ, hkb⟩
        have HJ := Lib.hid hJ
        clear hJ
        refine hK _ _ (hkb) ?_
        clear hK K
        refine relist (by kernel_rfl) (hM v8 v12 v13 v16 _ HJ.out)
    · refine wp_b12 HJ.out 42 (.tmp 11) rfl Try.underlying42 rfl ?_
      intro v12 W12 hJ hkb
      have HJ := Lib.hid hJ
      clear hJ
      refine hK _ _ (hkb) ?_
      clear hK K
      (try simp only [Act.put, List.setIfInBounds_toArray, List.set_cons_succ, List.set_cons_zero])
      refine bothM 0 8 rfl rfl (by kernel_rfl) rfl rfl (fun K hK => ?_) (fun K hK => ?_)
      · refine wp_b8 HJ.out 71 rfl Try.underlying71 ?_
        intro v8 W8 hJ hkb
        have HJ := Lib.hid hJ
        clear hJ
        refine hK _ _ (hkb) ?_
        clear hK K
        (try simp only [Act.put, List.setIfInBounds_toArray, List.set_cons_succ, List.set_cons_zero])
        refine bothM 5 8 rfl rfl (by kernel_rfl) rfl rfl (fun K hK => ?_) (fun K hK => ?_)
        · go_simp
          refine (BJ.one HJ.out).mono ?_
          rintro e W13 ⟨v13, rfl, hJ, hkb⟩
          have HJ := Lib.hid hJ
          clear hJ
          refine hK _ _ (hkb) ?_
          clear hK K
          refine stepM 8 rfl (by kernel_rfl) rfl (fun K hK => ?_)
          refine wp_b16 HJ.out hch 91 (.tmp 15) rfl Try.underlying91 rfl ?_
          intro v16 W16 hJ hkb
          have HJ := Lib.hid hJ
          clear hJ
          refine hK _ _ (hkb) ?_
          clear hK K
          (try simp only [Act.put, List.setIfInBounds_toArray, List.set_cons_succ, List.set_cons_zero])
          refine relist (by kernel_rfl) (hM v8 v12 v13 v16 _ HJ.out)
        · refine wp_b16 HJ.out hch 91 (.tmp 15) rfl Try.underlying91 rfl ?_
          intro v16 W16 hJ hkb
          have HJ := Lib.hid hJ
          clear hJ
          refine hK _ _ (hkb) ?_
          clear hK K
          (try simp only [Act.put, List.setIfInBounds_toArray, List.set_cons_succ, List.set_cons_zero])
          refine stepM 5 rfl (by kernel_rfl) rfl (fun K hK => ?_)
          go_simp
          refine (BJ.one HJ.out).mono ?_
          rintro e W13 ⟨v13, rfl, hJ, hkb⟩
          have HJ := Lib.hid hJ
          clear hJ
          refine hK _ _ (hkb) ?_
          clear hK K
          refine relist (by kernel_rfl) (hM v8 v12 v13 v16 _ HJ.out)
      · refine wp_b16 HJ.out hch 91 (.tmp 15) rfl Try.underlying91 rfl ?_
        intro v16 W16 hJ hkb
        have HJ := Lib.hid hJ
        clear hJ
        refine hK _ _ (hkb) ?_
        clear hK K
        (try simp only [Act.put, List.setIfInBounds_toArray, List.set_cons_succ, List.set_cons_zero])
        refine stepM 0 rfl (by kernel_rfl) rfl (fun K hK => ?_)
        refine wp_b8 HJ.out 71 rfl Try.underlying71 ?_
        intro v8 W8 hJ hkb
        have HJ := Lib.hid hJ
        clear hJ
        refine hK _ _ (hkb) ?_
        clear hK K
        (try simp only [Act.put, List.setIfInBounds_toArray, List.set_cons_succ, List.set_cons_zero])
        refine stepM 5 rfl (by kernel_rfl) rfl (fun K hK => ?_)
        go_simp
        refine (BJ.one HJ.out).mono ?_
        rintro e W13 ⟨v13, rfl, hJ, hkb⟩
        have HJ := Lib.hid hJ
        clear hJ
        refine hK _ _ (hkb) ?_
        clear hK K
        refine relist (by kernel_rfl) (hM v8 v12 v13 v16 _ HJ.out)
    · refine wp_b16 HJ.out hch 91 (.tmp 15) rfl Try.underlying91 rfl ?_
      intro v16 W16 hJ hkb
      have HJ := Lib.hid hJ
      clear hJ
      refine hK _ _ (hkb) ?_
      clear hK K
      (try simp only [Act.put, List.setIfInBounds_toArray, List.set_cons_succ, List.set_cons_zero])
      refine bothM 0 4 rfl rfl (by kernel_rfl) rfl rfl (fun K hK => ?_) (fun K hK => ?_)
      · refine wp_b8 HJ.out 71 rfl Try.underlying71 ?_
        intro v8 W8 hJ hkb
        have HJ := Lib.hid hJ
        clear hJ
        refine hK _ _ (hkb) ?_
        clear hK K
        (try simp only [Act.put, List.setIfInBounds_toArray, List.set_cons_succ, List.set_cons_zero])
        refine stepM 4 rfl (by kernel_rfl) rfl (fun K hK => ?_)
        refine wp_b12 HJ.out 42 (.tmp 11) rfl Try.underlying42 rfl ?_
        intro v12 W12 hJ hkb
        have HJ := Lib.hid hJ
        clear hJ
        refine hK _ _ (hkb) ?_
        clear hK K
        (try simp only [Act.put, List.setIfInBounds_toArray, List.set_cons_succ, List.set_cons_zero])
        refine stepM 5 rfl (by kernel_rfl) rfl (fun K hK => ?_)
        go_simp
        refine (BJ.one HJ.out).mono ?_
        rintro e W13 ⟨v13, rfl, hJ, hkb⟩
        have HJ := Lib.hid hJ
        clear hJ
        refine hK _ _ (hkb) ?_
        clear hK K
        refine relist (by kernel_rfl) (hM v8 v12 v13 v16 _ HJ.out)
      · refine wp_b12 HJ.out 42 (.tmp 11) rfl Try.underlying42 rfl ?_
        intro v12 W12 hJ hkb
        have HJ := Lib.hid hJ
        clear hJ
        refine hK _ _ (hkb) ?_
        clear hK K
        (try simp only [Act.put, List.setIfInBounds_toArray, List.set_cons_succ, List.set_cons_zero])
        refine stepM 0 rfl (by kernel_rfl) rfl (fun K hK => ?_)
        refine wp_b8 HJ.out 71 rfl Try.underlying71 ?_
        intro v8 W8 hJ hkb
        have HJ := Lib.hid hJ
        clear hJ
        refine hK _ _ (hkb) ?_
        clear hK K
        (try simp only [Act.put, List.setIfInBounds_toArray, List.set_cons_succ, List.set_cons_zero])
        refine stepM 5 rfl (by kernel_rfl) rfl (fun K hK => ?_)
        go_simp
        refine (BJ.one HJ.out).mono ?_
        rintro e W13 ⟨v13, rfl, hJ, hkb⟩
        have HJ := Lib.hid hJ
        clear hJ
        refine hK _ _ (hkb) ?_
        clear hK K
        refine relist (by kernel_rfl) (hM v8 v12 v13 v16 _ HJ.out)
  intro v8 v12 v13 v16 W hJ
  have HJ := Lib.hid hJ
  clear hJ
  refine stepM 9 rfl (by kernel_rfl) rfl (fun K hK => ?_)
  go_simp
  refine (BJ.four' HJ.out).mono ?_
  rintro e W17 ⟨v17, rfl, ho17, hx17, hkb, hf17⟩
  refine hK _ _ (hkb) ?_
  clear hK K
  refine takeK 10 rfl (by kernel_rfl) (by kernel_rfl) (by kernel_rfl) rfl (fun _ _ _ _ h => h) rfl (fun K hK => ?_)
  go_big_quiet_op
  first | refine hK _ ?_ | refine ⟨_, fun _ _ => rfl, hK _ ?_⟩
  clear hK K
  refine doneM (by kernel_rfl) ?_ _
  have hb17 := HB.out.keep hx17 (by simp)
  have k0 : W17.cell? ⟨w.heap.size, 0, none⟩ = some (.int .i64 2) := (hb17.cell 0).trans HM0.out
  have HB17 := Lib.hid hb17
  have HX17 := Lib.hid (HX.out.trans hx17)
  have HO17 := Lib.hid ho17
  have HF17 := Lib.hid hf17
  clear hb17 hx17 ho17 hf17 hkb HJ
  go_wp2
  have hbq : Blk W17.drew w.heap.size 60 M := HB17.out
  have hxq : Ext w W17.drew := HX17.out.drew
  have hoq : OwnB W17.drew v17 ([(byteOf 2)] ++ be 4 ch) := HO17.out.ext (Ext.refl _).drew
  refine startM (KeepB fun b => b = w.heap.size) (by kernel_rfl) ?_
  (try simp only [Act.put, List.setIfInBounds_toArray, List.set_cons_succ, List.set_cons_zero])
  have hbl0 := HBL.out
  generalize W17.drew = wq at *
  have HQ2 := Lib.hid ((hbq.cell 2).trans HM2.out)
  have HQT := Lib.hid ((hbq.cell 42).trans HMT.out)
  have hqo : Cells wq ⟨w.heap.size, 3, none⟩ OC := by have h := (hbq.cells.drop 3).take 39; rw [HMO.out, addr_at] at h; exact h
  have hqs : Cells wq ⟨w.heap.size, 43, none⟩ SG := by have h := hbq.cells.drop 43; rw [HMS.out, addr_at] at h; exact h
  have HQO := Lib.hid hqo
  have HQS := Lib.hid hqs
  have hlt : ∀ b, v17.ownBlock = some b → w.heap.size < b := fun b hb => by have := HF17.out b hb; omega
  have keepit : ∀ x : Item, Hold x w → Hold x wq ∧ ∀ b, v17.ownBlock = some b → x.v.ownBlock ≠ some b := fun x h => ⟨⟨hxq.holds h.2 h.1, fun b hb => Nat.lt_of_lt_of_le (h.2 b hb) hxq.size⟩, fun b hb e => by have h1 := hlt b hb; have h2 := h.2 b e; omega⟩
  have hJ0 : CJ w.heap.size wq v17 v17 ([(byteOf 2)] ++ be 4 ch) [⟨HopT, hs, tr⟩, ⟨.arr 32 .u8, ds, u⟩] wq := ⟨Moved.refl _ _, hbq.lt, fun b hb e => by have := hlt b hb; omega, hoq, fun x hxm => by
    simp only [List.mem_cons, List.not_mem_nil, or_false] at hxm
    rcases hxm with rfl | rfl
    · exact keepit _ HTR.out
    · exact keepit _ HU.out⟩
  have hfr : ∀ b, v17.ownBlock = some b → w.heap.size ≤ b := fun b hb => Nat.le_of_lt (hlt b hb)
  have HXQ := Lib.hid hxq
  have HFR := Lib.hid hfr
  clear hbq hxq hoq hqo hqs keepit hlt hfr
  refine takeK 0 rfl (by kernel_rfl) (by kernel_rfl) (by kernel_rfl) rfl (fun _ _ _ _ h => h) rfl (fun K hK => ?_)
  go_big_quiet_op
  first | refine hK _ ?_ | refine ⟨_, fun _ _ => rfl, hK _ ?_⟩
  clear hK K
  refine takeK 1 rfl (by kernel_rfl) (by kernel_rfl) (by kernel_rfl) rfl (fun _ _ _ _ h => h) rfl (fun K hK => ?_)
  refine quiet_agg 58 (.tmp 38) rfl _ rfl SG _ Try.underlying58 rfl (szRing HSL.out) (fun W' h => KeepB.cells h HQS.out rfl) ?_
  refine hK _ ?_
  simp only [Act.put, List.setIfInBounds_toArray, List.set_cons_succ, List.set_cons_zero]
  clear hK K
  refine takeK 2 rfl (by kernel_rfl) (by kernel_rfl) (by kernel_rfl) rfl (fun _ _ _ _ h => h) rfl (fun K hK => ?_)
  go_big_quiet_op
  first | refine hK _ ?_ | refine ⟨_, fun _ _ => rfl, hK _ ?_⟩
  clear hK K
  refine takeK 3 rfl (by kernel_rfl) (by kernel_rfl) (by kernel_rfl) rfl (fun _ _ _ _ h => h) rfl (fun K hK => ?_)
  go_big_quiet_op
  first | refine hK _ ?_ | refine ⟨_, fun _ _ => rfl, hK _ ?_⟩
  clear hK K
  refine takeK 4 rfl (by kernel_rfl) (by kernel_rfl) (by kernel_rfl) rfl (fun _ _ _ _ h => h) rfl (fun K hK => ?_)
  refine quiet_cell _ _ rfl _ rfl _ _ Try.underlying23 rfl (fun W' h => KeepB.cell h HQ2.out rfl) ?_
  refine hK _ ?_
  simp only [Act.put, List.setIfInBounds_toArray, List.set_cons_succ, List.set_cons_zero]
  clear hK K
  apply lat2 (fun v43 v44 W => CJ w.heap.size wq v17 v44 (([(byteOf 2)] ++ be 4 ch) ++ [rd].flatMap (be 8)) [⟨HopT, hs, tr⟩, ⟨.arr 32 .u8, ds, u⟩] W)
  intro hM1
  apply lat1 (fun v43 W => CJ w.heap.size wq v17 v17 ([(byteOf 2)] ++ be 4 ch) [⟨.nat .u64, [rd], v43⟩, ⟨HopT, hs, tr⟩, ⟨.arr 32 .u8, ds, u⟩] W)
  intro hM0
  · have HJ := Lib.hid hJ0
    refine stepM 5 rfl (by kernel_rfl) rfl (fun K hK => ?_)
    refine HJ.out.mk1 95 (.tmp 42) rfl 23 Try.underlying95 (.nat .u64) rd _ [Value.int .u64 (rd : Int)] rfl rfl (fun _ _ => ⟨rfl, hrd⟩) u64_size1 u64_zero1 (show 1 ≤ 16777216 by decide) (show 0 < 1 by decide) ?_
    intro v43 W hJ hkb
    have HJ := Lib.hid hJ
    clear hJ
    refine hK _ _ hkb ?_
    clear hK K
    (try simp only [Act.put, List.setIfInBounds_toArray, List.set_cons_succ, List.set_cons_zero])
    exact hM0 v43 _ (HJ.out.sub (by intro x hx; simp only [List.mem_cons, List.not_mem_nil, or_false] at hx; rcases hx with rfl | rfl | rfl <;> first | exact (.head _) | exact (.tail _ (.head _)) | exact (.tail _ (.tail _ (.head _)))))
  · intro v43 W hJ
    have HJ := Lib.hid hJ
    clear hJ
    refine stepM 6 rfl (by kernel_rfl) rfl (fun K hK => ?_)
    go_simp
    refine (HJ.out.eight (.head _) (by have h1 := HTB.out; have h2 := HOB.out; simp only [List.length_append, List.length_cons, List.length_nil, List.flatMap_cons, List.flatMap_nil, be_length, h1, h2]; omega)).mono ?_
    rintro e W ⟨v44, rfl, hJ, hkb⟩
    have HJ := Lib.hid hJ
    clear hJ
    refine hK _ _ hkb ?_
    clear hK K
    exact hM1 v43 v44 _ (HJ.out.sub (by intro x hx; simp only [List.mem_cons, List.not_mem_nil, or_false] at hx; rcases hx with rfl | rfl <;> first | exact (.tail _ (.head _)) | exact (.tail _ (.tail _ (.head _)))))
  intro v43 v44 W hJ
  have HJ := Lib.hid hJ
  clear hJ
  refine stepM 7 rfl (by kernel_rfl) rfl (fun K hK => ?_)
  go_simp
  refine (HRG.out _ _ _ _ _ _ _ HJ.out (.tail _ (.head _)) (by have h1 := HTB.out; have h2 := HOB.out; simp only [List.length_append, List.length_cons, List.length_nil, List.flatMap_cons, List.flatMap_nil, be_length, h1, h2]; omega)).mono ?_
  rintro e W ⟨v45, rfl, hJ, hkb⟩
  have HJ := Lib.hid hJ
  clear hJ
  refine hK _ _ hkb ?_
  clear hK K
  refine takeK 8 rfl (by kernel_rfl) (by kernel_rfl) (by kernel_rfl) rfl (fun _ _ _ _ h => h) rfl (fun K hK => ?_)
  go_big_quiet_op
  first | refine hK _ ?_ | refine ⟨_, fun _ _ => rfl, hK _ ?_⟩
  clear hK K
  refine doneM (by kernel_rfl) ?_ _
  have ho9 := HJ.out.own
  have hx9 : Ext w W := grown_then HXQ.out HJ.out.mv.grown (.inr HFR.out)
  clear HJ
  go_wp2
  go_ret2
  exact ⟨_, rfl, by simpa [memoB] using ho9, hx9⟩
end Go.Proofs.Ytemladlnpaaefaa
