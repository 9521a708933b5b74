/- The walk of the document's Bytes of layer 18. Conditions: the cells, what Right answers, and that there aren't too many. -/
import Derived.Test.YtemladlnpaaefaaRTrail
import Derived.Test.YtemladlnpaaefaaRRingLay
import Derived.Test.YtemladlnpaaefaaMBytes2
set_option linter.unusedVariables false
set_option linter.unusedSimpArgs false
set_option linter.unnecessarySimpa false
namespace Go.Proofs.Ytemladlnpaaefaa
open Go.RowKit

section
variable {g : Nat} {w0 w : World} {v0 cur : Value} {bs : List UInt8} {xs : List Item}
theorem CJ.rop (o : Wish) (hok : CondOk o.c) (ham : o.am < 18446744073709551616) (hid : o.id < 18446744073709551616) (h : CJ g w0 v0 cur bs xs w) (hb : bs.length ≤ 140737488353280) :
    Calls Try.prog 25 #[cur, .agg (wishCells o).toArray] w fun e w' => ∃ v', e = .returned v' ∧ CJ g w0 v0 v' (bs ++ opB o) xs w' ∧ KeepB (fun b => b = g) w w' := by
  refine (ROp o cur bs w _ hok ham hid (OwnB.holds h.own) (OwnB.lt h.own) hb).mono ?_
  rintro e w' ⟨v', rfl, ho, hf⟩
  exact ⟨v', rfl, h.call ho (Fresh.moved hf cur)⟩
theorem CJ.rtrail (h : CJ g w0 v0 cur bs xs w) (u : Value) (hs : List Hp) (F : Fp) (hu : Hops w F u hs) (hF : ∀ b, F b → b < w.heap.size) (hb : bs.length + 20 * List.length (α := Hp) hs ≤ 140737488350000) :
    Calls Try.prog 24 #[cur, u] w fun e w' => ∃ v', e = .returned v' ∧ CJ g w0 v0 v' (bs ++ trailB hs) xs w' ∧ KeepB (fun b => b = g) w w' := by
  refine (RTrail u hs cur bs w (fun b => F b ∨ cur.ownBlock = some b) (Ty.keep (fun _ _ => rfl) (fun b hb => .inl hb) _ hu) (Ty.keep (fun _ _ => rfl) (fun b hb => .inr hb) _ (OwnB.holds h.own)) (fun b hb => hb.elim (hF b) (OwnB.lt h.own b)) hb).mono ?_
  rintro e w' ⟨v', rfl, ho, hf⟩
  exact ⟨v', rfl, h.call ho (Fresh.moved hf cur)⟩
theorem CJ.rring (h : CJ g w0 v0 cur bs xs w) (BB : List UInt8) (key : Nat) (u : Value) (ds : List Dg) (F : Fp) (hB : BB.length = 1024) (hkey : (Lit.int .u32 (key : Int)).wf = true) (hu : Ways w F u ds) (hF : ∀ b, F b → b < w.heap.size) (hb : bs.length + 32 * List.length (α := Dg) ds ≤ 140737488350000) :
    Calls Try.prog 26 #[cur, .agg (sigC (bv BB) key u).toArray] w fun e w' => ∃ v', e = .returned v' ∧ CJ g w0 v0 v' (bs ++ sigB BB key ds) xs w' ∧ KeepB (fun b => b = g) w w' := by
  refine (RRing_Lay BB key u ds cur bs w (fun b => F b ∨ cur.ownBlock = some b) hB hkey (Ty.keep (fun _ _ => rfl) (fun b hb => .inl hb) _ hu) (Ty.keep (fun _ _ => rfl) (fun b hb => .inr hb) _ (OwnB.holds h.own)) (fun b hb => hb.elim (hF b) (OwnB.lt h.own b)) hb).mono ?_
  rintro e w' ⟨v', rfl, ho, hf⟩
  exact ⟨v', rfl, h.call ho (Fresh.moved hf cur)⟩
end
theorem szMemoR {n : Nat} (h : n = 1069) : (Try.prog.info? 39).map (·.size) = some n := by subst h; kernel_rfl
set_option maxRecDepth 100000 in
set_option maxHeartbeats 4000000 in
theorem RBytesBad (M : List Value) (w : World) (hl : M.length = 1069) (hr : ∀ W, Ext w W → Calls Try.prog 11 #[.agg M.toArray] W fun e w' => e = .returned (.bool false) ∧ Ext W w') :
    Calls Try.prog 10 #[.agg M.toArray] w fun e w' => e = .returned (.tuple #[.slice none 0 0, .int .i64 1]) ∧ Ext w w' := by
  have hb0 : Blk (w.alloc (.cells M.toArray 39)) w.heap.size 39 M := Blk.new _ _ _
  have hx0 : Ext w (w.alloc (.cells M.toArray 39)) := (Ext.refl w).alloc _
  have hcm := hb0.cells
  have HML := Lib.hid hl
  have HR := Lib.hid hr
  have HX0 := Lib.hid hx0
  clear hb0 hx0 hl hr
  go_enter Try.func10, Try.ntmps10
  go_wp2_with (first
    | (refine wpList_load_agg _ rfl 39 (.tmp 1) rfl _ rfl M _ Try.underlying39 rfl (szMemoR HML.out) hcm ?_)
    | fail)
  refine (HR.out _ HX0.out).mono ?_
  rintro e w1 ⟨rfl, hx1⟩
  go_wp2
  go_ret2
  exact ⟨rfl, HX0.out.trans hx1⟩
set_option maxRecDepth 100000 in
set_option maxHeartbeats 4000000 in
theorem RBytes0 (M : List Value) (ch : Nat) (w : World) (hl : M.length = 1069) (m0 : M[0]? = some (.int .i64 0)) (m1 : M[1]? = some (.int .u32 (ch : Int))) (hch : (Lit.int .u32 (ch : Int)).wf = true) (hr : ∀ W, Ext w W → Calls Try.prog 11 #[.agg M.toArray] W fun e w' => e = .returned (.bool true) ∧ Ext W w') :
    Calls Try.prog 10 #[.agg M.toArray] w fun e w' => ∃ v, e = .returned (.tuple #[v, .int .i64 0]) ∧ OwnB w' v ([(0 : UInt8)] ++ be 4 ch) ∧ Ext w w' := by
  have hc32 := bounds_u32 hch
  have hch64 : ch < 18446744073709551616 := by omega
  have hkw : ((ch : Nat) : Int) % 18446744073709551616 = ch := by omega
  have hb0 : Blk (w.alloc (.cells M.toArray 39)) w.heap.size 39 M := Blk.new _ _ _
  have hx0 : Ext w (w.alloc (.cells M.toArray 39)) := (Ext.refl w).alloc _
  have hcm := hb0.cells
  have HML := Lib.hid hl
  have HM0 := Lib.hid m0
  have HM1 := Lib.hid m1
  have HR := Lib.hid hr
  have HB0 := Lib.hid hb0
  have HX0 := Lib.hid hx0
  clear hb0 hx0 hl hr m0 m1
  go_enter Try.func10, Try.ntmps10
  go_wp2_with (first
    | (refine wpList_load_agg _ rfl 39 (.tmp 1) rfl _ rfl M _ Try.underlying39 rfl (szMemoR HML.out) hcm ?_)
    | fail)
  refine (HR.out _ HX0.out).mono ?_
  rintro e w1 ⟨rfl, hx1⟩
  have hb1 := HB0.out.keep hx1 (by simp)
  have hx2 := HX0.out.trans hx1
  have k0 := (hb1.cell 0).trans HM0.out
  have hw1 : (Ty.sl .u8).holds (w1.alloc (.cells #[Value.int .u8 0] 5)) (fun b => b = w1.heap.size) [.slice (some ⟨w1.heap.size, 0, none⟩) 1 1] [(0 : UInt8)] := sl_made (cs := [Value.int .u8 0]) rfl rfl rfl (by decide) ⟨[Value.int .u8 0], [], rfl, rfl, rfl⟩
  have k1a : (w1.alloc (.cells #[Value.int .u8 0] 5)).cell? ⟨w.heap.size, 1, none⟩ = some (.int .u32 (ch : Int)) := ((hb1.keep ((Ext.refl w1).alloc (.cells #[Value.int .u8 0] 5)) (by simp)).cell 1).trans HM1.out
  have HW1 := Lib.hid hw1
  have HB1 := Lib.hid hb1
  have HX2 := Lib.hid hx2
  clear hb1 hx2 hx1 hcm hw1
  go_wp2_with (first
    | (go_at_call 23; refine (Ref_Num _ [(0 : UInt8)] ch 4 _ _ HW1.out (by rintro b rfl; simp) hch64 (by omega) (show 1 + 4 ≤ 140737488355328 by decide)).mono ?_; rintro e w15 ⟨v15, rfl, ho15, hf15⟩; have hb15 := HB1.out.keep (((Ext.refl w1).alloc (.cells #[Value.int .u8 0] 5)).trans (Fresh.ext hf15)) (by simp); have k15 := (hb15.cell 0).trans HM0.out)
    | fail)
  go_ret2
  exact ⟨_, rfl, ho15, HX2.out.trans (((Ext.refl w1).alloc _).trans (Fresh.ext hf15))⟩
set_option maxRecDepth 100000 in
set_option maxHeartbeats 16000000 in
theorem RBytes1 (ch rd : Nat) (o : Wish) (tr : Value) (hs : List Hp) (BB : List UInt8) (key : Nat) (u : Value) (ds : List Dg) (w : World) (F : Fp) (hok : CondOk o.c) (ham : o.am < 18446744073709551616) (hid : o.id < 18446744073709551616) (hB : BB.length = 1024) (hkey : (Lit.int .u32 (key : Int)).wf = true)
    (hch : (Lit.int .u32 (ch : Int)).wf = true) (hrd : rd < 18446744073709551616) (htr : Hops w F tr hs) (hu : Ways w F u ds) (hF : ∀ b, F b → b < w.heap.size) (hl1 : List.length (α := Hp) hs ≤ 1000) (hl2 : List.length (α := Dg) ds ≤ 1000)
    (hr : ∀ W, Ext w W → Calls Try.prog 11 #[.agg (memoC 1 ch rd (wishCells o) tr (sigC (bv BB) key u)).toArray] W fun e w' => e = .returned (.bool true) ∧ Ext W w') :
    Calls Try.prog 10 #[.agg (memoC 1 ch rd (wishCells o) tr (sigC (bv BB) key u)).toArray] w fun e w' => ∃ v, e = .returned (.tuple #[v, .int .i64 0]) ∧ OwnB w' v (memoB 1 ch rd o hs BB key ds) ∧ Ext w w' := by
  have hol := wishCells_len hok
  have hcl : (bv BB).length = 1024 := by rw [bv_length]; exact hB
  have hl := memoC_len (kind := 1) (ch := ch) (rd := rd) (tr := tr) hol (sigC_len hcl key u)
  have m0 : (memoC 1 ch rd (wishCells o) tr (sigC (bv BB) key u))[0]? = some (.int .i64 1) := rfl
  have m1 : (memoC 1 ch rd (wishCells o) tr (sigC (bv BB) key u))[1]? = some (.int .u32 (ch : Int)) := rfl
  have m2 : (memoC 1 ch rd (wishCells o) tr (sigC (bv BB) key u))[2]? = some (.int .u64 (rd : Int)) := rfl
  have mo := memoC_op (kind := 1) (ch := ch) (rd := rd) (tr := tr) (SG := sigC (bv BB) key u) hol
  have mt := memoC_tr (kind := 1) (ch := ch) (rd := rd) (tr := tr) (SG := sigC (bv BB) key u) hol
  have ms := memoC_sig (kind := 1) (ch := ch) (rd := rd) (tr := tr) (SG := sigC (bv BB) key u) hol
  have hsl := sigC_len hcl key u
  have hrg := fun (g : Nat) (w0 w : World) (v0 cur : Value) (bs : List UInt8) (xs : List Item) (h : CJ g w0 v0 cur bs xs w) F hx hF hb => CJ.rring h BB key u ds F hB hkey hx hF hb
  have hop := fun (g : Nat) (w0 w : World) (v0 cur : Value) (bs : List UInt8) (xs : List Item) (h : CJ g w0 v0 cur bs xs w) hb => CJ.rop o hok ham hid h hb
  have hob := opB_len hok
  have htb := trailB_len hs
  have hl4 : (be 4 ch).length = 4 := be_length 4 ch
  have hc32 := bounds_u32 hch
  have hch64 : ch < 18446744073709551616 := by omega
  have hkw : ((ch : Nat) : Int) % 18446744073709551616 = ch := by omega
  generalize memoC 1 ch rd (wishCells o) tr (sigC (bv BB) key u) = M at *
  generalize sigC (bv BB) key u = SG at *
  generalize wishCells o = OC at *
  have hb0 : Blk (w.alloc (.cells M.toArray 39)) w.heap.size 39 M := Blk.new _ _ _
  have hx0 : Ext w (w.alloc (.cells M.toArray 39)) := (Ext.refl w).alloc _
  have hcm := hb0.cells
  have HRG := Lib.hid hrg
  have HOPC := Lib.hid hop
  have HOB := Lib.hid hob
  have HTB := Lib.hid htb
  have HL4 := Lib.hid hl4
  have HML := Lib.hid hl
  have HOL := Lib.hid hol
  have HSL := Lib.hid hsl
  have HM0 := Lib.hid m0
  have HM1 := Lib.hid m1
  have HM2 := Lib.hid m2
  have HMO := Lib.hid mo
  have HMT := Lib.hid mt
  have HMS := Lib.hid ms
  have HR := Lib.hid hr
  have HB0 := Lib.hid hb0
  have HX0 := Lib.hid hx0
  have HTR := Lib.hid htr
  have HU := Lib.hid hu
  have HFF := Lib.hid hF
  clear hb0 hx0 hl hr m0 m1 m2 mo mt ms hol hcl hsl hrg hop hob htb hl4 htr hu hF
  go_enter Try.func10, Try.ntmps10
  go_wp2_with (first
    | (refine wpList_load_agg _ rfl 39 (.tmp 1) rfl _ rfl M _ Try.underlying39 rfl (szMemoR HML.out) hcm ?_)
    | fail)
  refine (HR.out _ HX0.out).mono ?_
  rintro e w1 ⟨rfl, hx1⟩
  have hb1 := HB0.out.keep hx1 (by simp)
  have hx2 := HX0.out.trans hx1
  have k0 := (hb1.cell 0).trans HM0.out
  have k1 := (hb1.cell 1).trans HM1.out
  have hw1 : (Ty.sl .u8).holds (w1.alloc (.cells #[Value.int .u8 1] 5)) (fun b => b = w1.heap.size) [.slice (some ⟨w1.heap.size, 0, none⟩) 1 1] [byteOf 1] := sl_made (cs := [Value.int .u8 1]) rfl rfl rfl (by decide) ⟨[Value.int .u8 1], [], rfl, rfl, rfl⟩
  have k1a : (w1.alloc (.cells #[Value.int .u8 1] 5)).cell? ⟨w.heap.size, 1, none⟩ = some (.int .u32 (ch : Int)) := ((hb1.keep ((Ext.refl w1).alloc (.cells #[Value.int .u8 1] 5)) (by simp)).cell 1).trans HM1.out
  have HW1 := Lib.hid hw1
  have HB1 := Lib.hid hb1
  have HX2 := Lib.hid hx2
  clear hb1 hx2 hx1 hcm hw1
  go_wp2_with (first
    | (go_at_call 23; refine (Ref_Num _ [byteOf 1] ch 4 _ _ HW1.out (by rintro b rfl; simp) hch64 (by omega) (show 1 + 4 ≤ 140737488355328 by decide)).mono ?_; rintro e w15 ⟨v15, rfl, ho15, hf15⟩; have hb15 := HB1.out.keep (((Ext.refl w1).alloc (.cells #[Value.int .u8 1] 5)).trans (Fresh.ext hf15)) (by simp); have k15 := (hb15.cell 0).trans HM0.out)
    | fail)
  have hx15 : Ext w w15 := HX2.out.trans (((Ext.refl w1).alloc _).trans (Fresh.ext hf15))
  have hlt : ∀ b, v15.ownBlock = some b → w.heap.size < b := fun b hb => by
    have h1 := Fresh.new hf15 b hb
    have h2 := HB1.out.lt
    simp at h1
    omega
  have hbq : Blk w15.drew w.heap.size 39 M := hb15
  have hxq : Ext w w15.drew := hx15.drew
  have hoq : OwnB w15.drew v15 ([byteOf 1] ++ be 4 ch) := OwnB.ext ho15 (Ext.refl _).drew
  refine startM (KeepB fun b => b = w.heap.size) (by kernel_rfl) ?_
  (try simp only [Act.put, List.setIfInBounds_toArray, List.set_cons_succ, List.set_cons_zero])
  generalize w15.drew = w0 at *
  have HQ0 := Lib.hid ((hbq.cell 0).trans HM0.out)
  have HQ2 := Lib.hid ((hbq.cell 2).trans HM2.out)
  have HQT := Lib.hid ((hbq.cell 42).trans HMT.out)
  have hqo : Cells w0 ⟨w.heap.size, 3, none⟩ OC := by have h := (hbq.cells.drop 3).take 39; rw [HMO.out, addr_at] at h; exact h
  have hqs : Cells w0 ⟨w.heap.size, 43, none⟩ SG := by have h := hbq.cells.drop 43; rw [HMS.out, addr_at] at h; exact h
  have HQO := Lib.hid hqo
  have HQS := Lib.hid hqs
  have hne : ∀ b, v15.ownBlock = some b → b ≠ w.heap.size := fun b hb e => by have := hlt b hb; omega
  have hfar : Far F w0 v15 := fun b hb => ⟨Nat.lt_of_lt_of_le (HFF.out b hb) hxq.size, fun e => by have h1 := hlt b e; have h2 := HFF.out b hb; omega⟩
  have htq := hxq.holds HFF.out HTR.out
  have huq := hxq.holds HFF.out HU.out
  have HTQ : Hid (∀ {cur : Value} {l : List UInt8} {xs : List Item} {W : World}, CJ w.heap.size w0 v15 cur l xs W → Hops W F tr hs) := Lib.hid (fun h => h.mv.holds hfar htq)
  have HWQ : Hid (∀ {cur : Value} {l : List UInt8} {xs : List Item} {W : World}, CJ w.heap.size w0 v15 cur l xs W → Ways W F u ds) := Lib.hid (fun h => h.mv.holds hfar huq)
  have HFQ : Hid (∀ {cur : Value} {l : List UInt8} {xs : List Item} {W : World}, CJ w.heap.size w0 v15 cur l xs W → ∀ b, F b → b < W.heap.size) := Lib.hid (fun h b hb => Nat.lt_of_lt_of_le (hfar b hb).1 h.mv.grown.size)
  have hJ0 : CJ w.heap.size w0 v15 v15 ([byteOf 1] ++ be 4 ch) [] w0 := CJ.start hbq.lt hoq hne
  have HXQ := Lib.hid hxq
  have HBQ := Lib.hid hbq
  have HNE := Lib.hid hne
  have HLT := Lib.hid hlt
  clear hbq hxq hoq hqo hqs hne hfar htq huq hlt k0 k1 k1a k15 hb15 hx15 ho15 hf15
  refine takeK 0 rfl (by kernel_rfl) (by kernel_rfl) (by kernel_rfl) rfl (fun _ _ _ _ h => h) rfl (fun K hK => ?_)
  go_big_quiet_op
  first | refine hK _ ?_ | refine ⟨_, fun _ _ => rfl, hK _ ?_⟩
  clear hK K
  refine takeK 1 rfl (by kernel_rfl) (by kernel_rfl) (by kernel_rfl) rfl (fun _ _ _ _ h => h) rfl (fun K hK => ?_)
  go_big_quiet_op
  first | refine hK _ ?_ | refine ⟨_, fun _ _ => rfl, hK _ ?_⟩
  clear hK K
  refine takeK 2 rfl (by kernel_rfl) (by kernel_rfl) (by kernel_rfl) rfl (fun _ _ _ _ h => h) rfl (fun K hK => ?_)
  refine quiet_cell _ _ rfl _ rfl _ _ Try.underlying23 rfl (fun W' h => KeepB.cell h HQ2.out rfl) ?_
  refine hK _ ?_
  simp only [Act.put, List.setIfInBounds_toArray, List.set_cons_succ, List.set_cons_zero]
  clear hK K
  refine takeK 4 rfl (by kernel_rfl) (by kernel_rfl) (by kernel_rfl) rfl (fun _ _ _ _ h => h) rfl (fun K hK => ?_)
  go_big_quiet_op
  first | refine hK _ ?_ | refine ⟨_, fun _ _ => rfl, hK _ ?_⟩
  clear hK K
  refine takeK 5 rfl (by kernel_rfl) (by kernel_rfl) (by kernel_rfl) rfl (fun _ _ _ _ h => h) rfl (fun K hK => ?_)
  refine quiet_agg 28 (.tmp 23) rfl _ rfl OC _ Try.underlying28 rfl (szOp18 HOL.out) (fun W' h => KeepB.cells h HQO.out rfl) ?_
  refine hK _ ?_
  simp only [Act.put, List.setIfInBounds_toArray, List.set_cons_succ, List.set_cons_zero]
  clear hK K
  refine takeK 7 rfl (by kernel_rfl) (by kernel_rfl) (by kernel_rfl) rfl (fun _ _ _ _ h => h) rfl (fun K hK => ?_)
  go_big_quiet_op
  first | refine hK _ ?_ | refine ⟨_, fun _ _ => rfl, hK _ ?_⟩
  clear hK K
  refine takeK 8 rfl (by kernel_rfl) (by kernel_rfl) (by kernel_rfl) rfl (fun _ _ _ _ h => h) rfl (fun K hK => ?_)
  refine quiet_cell _ _ rfl _ rfl _ _ Try.underlying29 rfl (fun W' h => KeepB.cell h HQT.out rfl) ?_
  refine hK _ ?_
  simp only [Act.put, List.setIfInBounds_toArray, List.set_cons_succ, List.set_cons_zero]
  clear hK K
  apply lat2 (fun v22 v25 W => CJ w.heap.size w0 v15 v25 ((([byteOf 1] ++ be 4 ch) ++ be 8 rd) ++ opB o) [] W)
  intro hM1
  apply lat1 (fun v22 W => CJ w.heap.size w0 v15 v22 (([byteOf 1] ++ be 4 ch) ++ be 8 rd) [] W)
  intro hM0
  · have HJ := Lib.hid hJ0
    refine stepM 3 rfl (by kernel_rfl) rfl (fun K hK => ?_)
    go_simp
    refine (HJ.out.num rd 8 hrd (by omega) (by have h1 := HTB.out; have h2 := HOB.out; have h3 := HL4.out; simp only [List.length_append, List.length_cons, List.length_nil, be_length, h1, h2, h3]; omega)).mono ?_
    rintro e W ⟨v22, rfl, hJ, hkb⟩
    have HJ := Lib.hid hJ
    clear hJ
    refine hK _ _ hkb ?_
    clear hK K
    exact hM0 v22 _ (HJ.out.sub (by intro x hx; cases hx))
  · intro v22 W hJ
    have HJ := Lib.hid hJ
    clear hJ
    refine stepM 6 rfl (by kernel_rfl) rfl (fun K hK => ?_)
    go_simp
    refine (HOPC.out _ _ _ _ _ _ _ HJ.out (by have h1 := HTB.out; have h2 := HOB.out; have h3 := HL4.out; simp only [List.length_append, List.length_cons, List.length_nil, be_length, h1, h2, h3]; omega)).mono ?_
    rintro e W ⟨v25, rfl, hJ, hkb⟩
    have HJ := Lib.hid hJ
    clear hJ
    refine hK _ _ hkb ?_
    clear hK K
    exact hM1 v22 v25 _ (HJ.out.sub (by intro x hx; cases hx))
  intro v22 v25 W hJ
  have HJ := Lib.hid hJ
  clear hJ
  refine stepM 9 rfl (by kernel_rfl) rfl (fun K hK => ?_)
  go_simp
  refine (HJ.out.rtrail tr hs F (HTQ.out HJ.out) (HFQ.out HJ.out) (by have h1 := HTB.out; have h2 := HOB.out; have h3 := HL4.out; simp only [List.length_append, List.length_cons, List.length_nil, be_length, h1, h2, h3]; omega)).mono ?_
  rintro e W ⟨v28, rfl, hJ, hkb⟩
  have HJ := Lib.hid hJ
  clear hJ
  refine hK _ _ hkb ?_
  clear hK K
  refine takeK 10 rfl (by kernel_rfl) (by kernel_rfl) (by kernel_rfl) rfl (fun _ _ _ _ h => h) rfl (fun K hK => ?_)
  go_big_quiet_op
  first | refine hK _ ?_ | refine ⟨_, fun _ _ => rfl, hK _ ?_⟩
  clear hK K
  refine doneM (by kernel_rfl) ?_ _
  have hfr : ∀ b, v15.ownBlock = some b → w.heap.size ≤ b := fun b hb => Nat.le_of_lt (HLT.out b hb)
  have hx9 : Ext w W := grown_then HXQ.out HJ.out.mv.grown (.inr hfr)
  have hb9 : Blk W w.heap.size 39 M := by
    show W.heap[w.heap.size]? = _
    rw [HJ.out.blk HNE.out]; exact HBQ.out
  have k9 := (hb9.cell 0).trans HM0.out
  have hcs9 : Cells W ⟨w.heap.size, 43, none⟩ SG := by have h := hb9.cells.drop 43; rw [HMS.out, addr_at] at h; exact h
  have hw9 := HWQ.out HJ.out
  have hF9 := HFQ.out HJ.out
  have HJ9 := Lib.hid (HRG.out _ _ _ _ _ _ _ HJ.out F hw9 hF9 (by have h1 := HTB.out; have h2 := HOB.out; have h3 := HL4.out; simp only [List.length_append, List.length_cons, List.length_nil, be_length, h1, h2, h3]; omega))
  have HX9 := Lib.hid hx9
  have HFR := Lib.hid hfr
  clear HJ hw9 hF9 hx9 hfr
  go_wp2_with (first
    | (refine wpList_load_agg _ rfl 37 (.tmp 30) rfl _ rfl SG _ Try.underlying37 rfl (szSg18 HSL.out) hcs9 ?_)
    | (go_at_call 26; refine HJ9.out.mono ?_; rintro e w32 ⟨v32, rfl, hJ32, hkb32⟩; have k32 := (World.cell?_of_block (hkb32 _ rfl)).trans k9)
    | fail)
  go_ret2
  have hx32 : Ext w w32 := grown_then HXQ.out hJ32.mv.grown (.inr HFR.out)
  exact ⟨_, rfl, by simpa [memoB] using hJ32.own, hx32⟩
set_option maxRecDepth 100000 in
set_option maxHeartbeats 16000000 in
theorem RBytes2 (ch rd : Nat) (o : Wish) (tr : Value) (hs : List Hp) (BB : List UInt8) (key : Nat) (u : Value) (ds : List Dg) (w : World) (F : Fp) (hok : CondOk o.c) (ham : o.am < 18446744073709551616) (hid : o.id < 18446744073709551616) (hB : BB.length = 1024) (hkey : (Lit.int .u32 (key : Int)).wf = true)
    (hch : (Lit.int .u32 (ch : Int)).wf = true) (hrd : rd < 18446744073709551616) (htr : Hops w F tr hs) (hu : Ways w F u ds) (hF : ∀ b, F b → b < w.heap.size) (hl1 : List.length (α := Hp) hs ≤ 1000) (hl2 : List.length (α := Dg) ds ≤ 1000)
    (hr : ∀ W, Ext w W → Calls Try.prog 11 #[.agg (memoC 2 ch rd (wishCells o) tr (sigC (bv BB) key u)).toArray] W fun e w' => e = .returned (.bool true) ∧ Ext W w') :
    Calls Try.prog 10 #[.agg (memoC 2 ch rd (wishCells o) tr (sigC (bv BB) key u)).toArray] w fun e w' => ∃ v, e = .returned (.tuple #[v, .int .i64 0]) ∧ OwnB w' v (memoB 2 ch rd o hs BB key ds) ∧ Ext w w' := by
  have hol := wishCells_len hok
  have hcl : (bv BB).length = 1024 := by rw [bv_length]; exact hB
  have hl := memoC_len (kind := 2) (ch := ch) (rd := rd) (tr := tr) hol (sigC_len hcl key u)
  have m0 : (memoC 2 ch rd (wishCells o) tr (sigC (bv BB) key u))[0]? = some (.int .i64 2) := rfl
  have m1 : (memoC 2 ch rd (wishCells o) tr (sigC (bv BB) key u))[1]? = some (.int .u32 (ch : Int)) := rfl
  have m2 : (memoC 2 ch rd (wishCells o) tr (sigC (bv BB) key u))[2]? = some (.int .u64 (rd : Int)) := rfl
  have mo := memoC_op (kind := 2) (ch := ch) (rd := rd) (tr := tr) (SG := sigC (bv BB) key u) hol
  have mt := memoC_tr (kind := 2) (ch := ch) (rd := rd) (tr := tr) (SG := sigC (bv BB) key u) hol
  have ms := memoC_sig (kind := 2) (ch := ch) (rd := rd) (tr := tr) (SG := sigC (bv BB) key u) hol
  have hsl := sigC_len hcl key u
  have hrg := fun (g : Nat) (w0 w : World) (v0 cur : Value) (bs : List UInt8) (xs : List Item) (h : CJ g w0 v0 cur bs xs w) F hx hF hb => CJ.rring h BB key u ds F hB hkey hx hF hb
  have hop := fun (g : Nat) (w0 w : World) (v0 cur : Value) (bs : List UInt8) (xs : List Item) (h : CJ g w0 v0 cur bs xs w) hb => CJ.rop o hok ham hid h hb
  have hob := opB_len hok
  have htb := trailB_len hs
  have hl4 : (be 4 ch).length = 4 := be_length 4 ch
  have hc32 := bounds_u32 hch
  have hch64 : ch < 18446744073709551616 := by omega
  have hkw : ((ch : Nat) : Int) % 18446744073709551616 = ch := by omega
  generalize memoC 2 ch rd (wishCells o) tr (sigC (bv BB) key u) = M at *
  generalize sigC (bv BB) key u = SG at *
  generalize wishCells o = OC at *
  have hb0 : Blk (w.alloc (.cells M.toArray 39)) w.heap.size 39 M := Blk.new _ _ _
  have hx0 : Ext w (w.alloc (.cells M.toArray 39)) := (Ext.refl w).alloc _
  have hcm := hb0.cells
  have HRG := Lib.hid hrg
  have HOPC := Lib.hid hop
  have HOB := Lib.hid hob
  have HTB := Lib.hid htb
  have HL4 := Lib.hid hl4
  have HML := Lib.hid hl
  have HOL := Lib.hid hol
  have HSL := Lib.hid hsl
  have HM0 := Lib.hid m0
  have HM1 := Lib.hid m1
  have HM2 := Lib.hid m2
  have HMO := Lib.hid mo
  have HMT := Lib.hid mt
  have HMS := Lib.hid ms
  have HR := Lib.hid hr
  have HB0 := Lib.hid hb0
  have HX0 := Lib.hid hx0
  have HTR := Lib.hid htr
  have HU := Lib.hid hu
  have HFF := Lib.hid hF
  clear hb0 hx0 hl hr m0 m1 m2 mo mt ms hol hcl hsl hrg hop hob htb hl4 htr hu hF
  go_enter Try.func10, Try.ntmps10
  go_wp2_with (first
    | (refine wpList_load_agg _ rfl 39 (.tmp 1) rfl _ rfl M _ Try.underlying39 rfl (szMemoR HML.out) hcm ?_)
    | fail)
  refine (HR.out _ HX0.out).mono ?_
  rintro e w1 ⟨rfl, hx1⟩
  have hb1 := HB0.out.keep hx1 (by simp)
  have hx2 := HX0.out.trans hx1
  have k0 := (hb1.cell 0).trans HM0.out
  have k1 := (hb1.cell 1).trans HM1.out
  have hw1 : (Ty.sl .u8).holds (w1.alloc (.cells #[Value.int .u8 2] 5)) (fun b => b = w1.heap.size) [.slice (some ⟨w1.heap.size, 0, none⟩) 1 1] [byteOf 2] := sl_made (cs := [Value.int .u8 2]) rfl rfl rfl (by decide) ⟨[Value.int .u8 2], [], rfl, rfl, rfl⟩
  have k1a : (w1.alloc (.cells #[Value.int .u8 2] 5)).cell? ⟨w.heap.size, 1, none⟩ = some (.int .u32 (ch : Int)) := ((hb1.keep ((Ext.refl w1).alloc (.cells #[Value.int .u8 2] 5)) (by simp)).cell 1).trans HM1.out
  have HW1 := Lib.hid hw1
  have HB1 := Lib.hid hb1
  have HX2 := Lib.hid hx2
  clear hb1 hx2 hx1 hcm hw1
  go_wp2_with (first
    | (go_at_call 23; refine (Ref_Num _ [byteOf 2] ch 4 _ _ HW1.out (by rintro b rfl; simp) hch64 (by omega) (show 1 + 4 ≤ 140737488355328 by decide)).mono ?_; rintro e w15 ⟨v15, rfl, ho15, hf15⟩; have hb15 := HB1.out.keep (((Ext.refl w1).alloc (.cells #[Value.int .u8 2] 5)).trans (Fresh.ext hf15)) (by simp); have k15 := (hb15.cell 0).trans HM0.out)
    | fail)
  have hx15 : Ext w w15 := HX2.out.trans (((Ext.refl w1).alloc _).trans (Fresh.ext hf15))
  have hlt : ∀ b, v15.ownBlock = some b → w.heap.size < b := fun b hb => by
    have h1 := Fresh.new hf15 b hb
    have h2 := HB1.out.lt
    simp at h1
    omega
  have hbq : Blk w15.drew w.heap.size 39 M := hb15
  have hxq : Ext w w15.drew := hx15.drew
  have hoq : OwnB w15.drew v15 ([byteOf 2] ++ be 4 ch) := OwnB.ext ho15 (Ext.refl _).drew
  refine startM (KeepB fun b => b = w.heap.size) (by kernel_rfl) ?_
  (try simp only [Act.put, List.setIfInBounds_toArray, List.set_cons_succ, List.set_cons_zero])
  generalize w15.drew = w0 at *
  have HQ0 := Lib.hid ((hbq.cell 0).trans HM0.out)
  have HQ2 := Lib.hid ((hbq.cell 2).trans HM2.out)
  have HQT := Lib.hid ((hbq.cell 42).trans HMT.out)
  have hqo : Cells w0 ⟨w.heap.size, 3, none⟩ OC := by have h := (hbq.cells.drop 3).take 39; rw [HMO.out, addr_at] at h; exact h
  have hqs : Cells w0 ⟨w.heap.size, 43, none⟩ SG := by have h := hbq.cells.drop 43; rw [HMS.out, addr_at] at h; exact h
  have HQO := Lib.hid hqo
  have HQS := Lib.hid hqs
  have hne : ∀ b, v15.ownBlock = some b → b ≠ w.heap.size := fun b hb e => by have := hlt b hb; omega
  have hfar : Far F w0 v15 := fun b hb => ⟨Nat.lt_of_lt_of_le (HFF.out b hb) hxq.size, fun e => by have h1 := hlt b e; have h2 := HFF.out b hb; omega⟩
  have htq := hxq.holds HFF.out HTR.out
  have huq := hxq.holds HFF.out HU.out
  have HTQ : Hid (∀ {cur : Value} {l : List UInt8} {xs : List Item} {W : World}, CJ w.heap.size w0 v15 cur l xs W → Hops W F tr hs) := Lib.hid (fun h => h.mv.holds hfar htq)
  have HWQ : Hid (∀ {cur : Value} {l : List UInt8} {xs : List Item} {W : World}, CJ w.heap.size w0 v15 cur l xs W → Ways W F u ds) := Lib.hid (fun h => h.mv.holds hfar huq)
  have HFQ : Hid (∀ {cur : Value} {l : List UInt8} {xs : List Item} {W : World}, CJ w.heap.size w0 v15 cur l xs W → ∀ b, F b → b < W.heap.size) := Lib.hid (fun h b hb => Nat.lt_of_lt_of_le (hfar b hb).1 h.mv.grown.size)
  have hJ0 : CJ w.heap.size w0 v15 v15 ([byteOf 2] ++ be 4 ch) [] w0 := CJ.start hbq.lt hoq hne
  have HXQ := Lib.hid hxq
  have HBQ := Lib.hid hbq
  have HNE := Lib.hid hne
  have HLT := Lib.hid hlt
  clear hbq hxq hoq hqo hqs hne hfar htq huq hlt k0 k1 k1a k15 hb15 hx15 ho15 hf15
  refine takeK 0 rfl (by kernel_rfl) (by kernel_rfl) (by kernel_rfl) rfl (fun _ _ _ _ h => h) rfl (fun K hK => ?_)
  go_big_quiet_op
  first | refine hK _ ?_ | refine ⟨_, fun _ _ => rfl, hK _ ?_⟩
  clear hK K
  refine takeK 1 rfl (by kernel_rfl) (by kernel_rfl) (by kernel_rfl) rfl (fun _ _ _ _ h => h) rfl (fun K hK => ?_)
  go_big_quiet_op
  first | refine hK _ ?_ | refine ⟨_, fun _ _ => rfl, hK _ ?_⟩
  clear hK K
  refine takeK 2 rfl (by kernel_rfl) (by kernel_rfl) (by kernel_rfl) rfl (fun _ _ _ _ h => h) rfl (fun K hK => ?_)
  refine quiet_cell _ _ rfl _ rfl _ _ Try.underlying23 rfl (fun W' h => KeepB.cell h HQ2.out rfl) ?_
  refine hK _ ?_
  simp only [Act.put, List.setIfInBounds_toArray, List.set_cons_succ, List.set_cons_zero]
  clear hK K
  refine takeK 4 rfl (by kernel_rfl) (by kernel_rfl) (by kernel_rfl) rfl (fun _ _ _ _ h => h) rfl (fun K hK => ?_)
  go_big_quiet_op
  first | refine hK _ ?_ | refine ⟨_, fun _ _ => rfl, hK _ ?_⟩
  clear hK K
  refine takeK 5 rfl (by kernel_rfl) (by kernel_rfl) (by kernel_rfl) rfl (fun _ _ _ _ h => h) rfl (fun K hK => ?_)
  refine quiet_agg 37 (.tmp 40) rfl _ rfl SG _ Try.underlying37 rfl (szSg18 HSL.out) (fun W' h => KeepB.cells h HQS.out rfl) ?_
  refine hK _ ?_
  simp only [Act.put, List.setIfInBounds_toArray, List.set_cons_succ, List.set_cons_zero]
  clear hK K
  apply lat1 (fun v39 W => CJ w.heap.size w0 v15 v39 (([byteOf 2] ++ be 4 ch) ++ be 8 rd) [] W)
  intro hM0
  · have HJ := Lib.hid hJ0
    refine stepM 3 rfl (by kernel_rfl) rfl (fun K hK => ?_)
    go_simp
    refine (HJ.out.num rd 8 hrd (by omega) (by have h1 := HTB.out; have h2 := HOB.out; have h3 := HL4.out; simp only [List.length_append, List.length_cons, List.length_nil, be_length, h1, h2, h3]; omega)).mono ?_
    rintro e W ⟨v39, rfl, hJ, hkb⟩
    have HJ := Lib.hid hJ
    clear hJ
    refine hK _ _ hkb ?_
    clear hK K
    exact hM0 v39 _ (HJ.out.sub (by intro x hx; cases hx))
  intro v39 W hJ
  have HJ := Lib.hid hJ
  clear hJ
  refine stepM 6 rfl (by kernel_rfl) rfl (fun K hK => ?_)
  go_simp
  refine (HRG.out _ _ _ _ _ _ _ HJ.out F (HWQ.out HJ.out) (HFQ.out HJ.out) (by have h1 := HTB.out; have h2 := HOB.out; have h3 := HL4.out; simp only [List.length_append, List.length_cons, List.length_nil, be_length, h1, h2, h3]; omega)).mono ?_
  rintro e W ⟨v42, rfl, hJ, hkb⟩
  have HJ := Lib.hid hJ
  clear hJ
  refine hK _ _ hkb ?_
  clear hK K
  refine takeK 7 rfl (by kernel_rfl) (by kernel_rfl) (by kernel_rfl) rfl (fun _ _ _ _ h => h) rfl (fun K hK => ?_)
  go_big_quiet_op
  first | refine hK _ ?_ | refine ⟨_, fun _ _ => rfl, hK _ ?_⟩
  clear hK K
  refine doneM (by kernel_rfl) ?_ _
  have hfr : ∀ b, v15.ownBlock = some b → w.heap.size ≤ b := fun b hb => Nat.le_of_lt (HLT.out b hb)
  have hx9 : Ext w W := grown_then HXQ.out HJ.out.mv.grown (.inr hfr)
  have hb9 : Blk W w.heap.size 39 M := by
    show W.heap[w.heap.size]? = _
    rw [HJ.out.blk HNE.out]; exact HBQ.out
  have k9 := (hb9.cell 0).trans HM0.out
  have ho9 := HJ.out.own
  clear HJ
  go_wp2
  go_ret2
  exact ⟨_, rfl, by simpa [memoB] using ho9, hx9⟩
end Go.Proofs.Ytemladlnpaaefaa
