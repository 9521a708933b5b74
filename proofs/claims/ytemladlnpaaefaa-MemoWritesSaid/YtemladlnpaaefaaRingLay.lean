/- The walk of ring's Lay: a signature's bytes, and its way's. Conditions: the pieces are 1024 bytes; the bytes aren't too many. -/
import Derived.Test.YtemladlnpaaefaaLayCond
import Derived.Test.YtemladlnpaaefaaLampLay
import Derived.Test.YtemladlnpaaefaaTo05
set_option linter.unusedVariables false
set_option linter.unusedSimpArgs false
set_option linter.unnecessarySimpa false
namespace Go.Proofs.Ytemladlnpaaefaa
open Go.RowKit

theorem szLampL {n : Nat} (h : n = 1024) : (Try.prog.info? 55).map (·.size) = some n := by subst h; kernel_rfl
theorem u32_size2 : (Try.prog.info? 22).map (·.size) = some 1 := by kernel_rfl
theorem u32_zero2 : ((Try.prog.info? 22).bind (·.zero)).isSome = true := by kernel_rfl
theorem CJ.lamp {g : Nat} {w0 w : World} {v0 cur : Value} {bs : List UInt8} {xs : List Item} (BB : List UInt8) (hB : BB.length = 1024) (h : CJ g w0 v0 cur bs xs w) (hb : bs.length + 1024 ≤ 140737488355328) :
    Calls Try.prog 33 #[.agg (bv BB).toArray, cur] w fun e w' => ∃ v', e = .returned v' ∧ CJ g w0 v0 v' (bs ++ layS BB 32) xs w' ∧ KeepB (fun b => b = g) w w' := by
  refine (Lamp_Lay BB cur bs w hB h.own hb).mono ?_
  rintro e w' ⟨v', rfl, ho, hm⟩
  exact ⟨v', rfl, h.call ho hm⟩
/-- A ring's signature as bytes. -/
def sigB (BB : List UInt8) (key : Nat) (ds : List Dg) : List UInt8 := be 4 key ++ (byteOf ((List.length (α := Dg) ds : Nat) : Int) :: (layS BB 32 ++ List.flatMap id ds))
set_option maxRecDepth 100000 in
set_option maxHeartbeats 8000000 in
theorem Ring_Lay (BB : List UInt8) (key : Nat) (u : Value) (ds : List Dg) (v : Value) (bs : List UInt8) (w : World) (hB : BB.length = 1024) (hkey : (Lit.int .u32 (key : Int)).wf = true) (hu : Hold ⟨.arr 32 .u8, ds, u⟩ w) (hap : ∀ b, v.ownBlock = some b → u.ownBlock ≠ some b) (ho : OwnB w v bs) (hb : bs.length + 32 * List.length (α := Dg) ds ≤ 140737488350000) :
    Calls Try.prog 17 #[.agg (sigC (bv BB) key u).toArray, v] w fun e w' => ∃ v', e = .returned v' ∧ OwnB w' v' (bs ++ sigB BB key ds) ∧ Moved w w' v v' := by
  obtain ⟨A, d, xs, hv, _⟩ := ways_open hu.1
  have hv : u = .slice A (List.length (α := Dg) ds) d := hv
  subst hv
  have hcl : (bv BB).length = 1024 := by rw [bv_length]; exact hB
  have hls : (layS BB 32).length = 1024 := layS_len hB 32 (by omega)
  have k1024 := sigC_key hcl key (.slice A (List.length (α := Dg) ds) d)
  have k1025 := sigC_way hcl key (.slice A (List.length (α := Dg) ds) d)
  have kc := sigC_take hcl key (.slice A (List.length (α := Dg) ds) d)
  generalize sigC (bv BB) key (.slice A (List.length (α := Dg) ds) d) = SC at *
  have hb0 : Blk (w.alloc (.cells SC.toArray 58)) w.heap.size 58 SC := Blk.new _ _ _
  have hx0 : Ext w (w.alloc (.cells SC.toArray 58)) := (Ext.refl w).alloc _
  have hne : ∀ b, v.ownBlock = some b → b ≠ w.heap.size := fun b hb e => by have := OwnB.lt ho b hb; omega
  have HB := Lib.hid hB
  have HLS := Lib.hid hls
  have HB0 := Lib.hid hb0
  have HX0 := Lib.hid hx0
  have HO := Lib.hid ho
  have HNE := Lib.hid hne
  have HU := Lib.hid hu
  have HAP := Lib.hid hap
  clear hb0 hx0 ho hne hu hap hcl hls
  go_enter Try.func17, Try.ntmps17
  go_wp2
  have hb0 : Blk (w.alloc (.cells SC.toArray 58)).drew w.heap.size 58 SC := HB0.out
  have hx : Ext w (w.alloc (.cells SC.toArray 58)).drew := HX0.out.drew
  refine startM (KeepB fun b => b = w.heap.size) (by kernel_rfl) ?_
  (try simp only [Act.put, List.setIfInBounds_toArray, List.set_cons_succ, List.set_cons_zero])
  generalize (w.alloc (.cells SC.toArray 58)).drew = w0 at *
  have HK1024 := Lib.hid ((hb0.cell 1024).trans k1024)
  have HK1025 := Lib.hid ((hb0.cell 1025).trans k1025)
  have hkc : Cells w0 ⟨w.heap.size, 0, none⟩ (bv BB) := by have h := hb0.cells.take 1024; rw [kc] at h; exact h
  have HKC := Lib.hid hkc
  have hJ0 : CJ w.heap.size w0 v v bs [⟨.arr 32 .u8, ds, .slice A (List.length (α := Dg) ds) d⟩] w0 := ⟨Moved.refl _ _, hb0.lt, HNE.out, HO.out.ext hx, fun x hxm => by
    rw [List.mem_singleton.1 hxm]
    exact ⟨⟨hx.holds HU.out.2 HU.out.1, fun b hb => Nat.lt_of_lt_of_le (HU.out.2 b hb) hx.size⟩, HAP.out⟩⟩
  have HX := Lib.hid hx
  clear hb0 hx hkc k1024 k1025 kc
  refine takeK 0 rfl (by kernel_rfl) (by kernel_rfl) (by kernel_rfl) rfl (fun _ _ _ _ h => h) rfl (fun K hK => ?_)
  go_big_quiet_op
  first | refine hK _ ?_ | refine ⟨_, fun _ _ => rfl, hK _ ?_⟩
  clear hK K
  refine takeK 1 rfl (by kernel_rfl) (by kernel_rfl) (by kernel_rfl) rfl (fun _ _ _ _ h => h) rfl (fun K hK => ?_)
  refine quiet_agg 55 (.tmp 5) rfl _ rfl (bv BB) _ Try.underlying55 rfl (szLampL (by rw [bv_length]; exact HB.out)) (fun W' h => KeepB.cells h HKC.out rfl) ?_
  refine hK _ ?_
  simp only [Act.put, List.setIfInBounds_toArray, List.set_cons_succ, List.set_cons_zero]
  clear hK K
  refine takeK 2 rfl (by kernel_rfl) (by kernel_rfl) (by kernel_rfl) rfl (fun _ _ _ _ h => h) rfl (fun K hK => ?_)
  go_big_quiet_op
  first | refine hK _ ?_ | refine ⟨_, fun _ _ => rfl, hK _ ?_⟩
  clear hK K
  refine takeK 3 rfl (by kernel_rfl) (by kernel_rfl) (by kernel_rfl) rfl (fun _ _ _ _ h => h) rfl (fun K hK => ?_)
  go_big_quiet_op
  first | refine hK _ ?_ | refine ⟨_, fun _ _ => rfl, hK _ ?_⟩
  clear hK K
  refine takeK 4 rfl (by kernel_rfl) (by kernel_rfl) (by kernel_rfl) rfl (fun _ _ _ _ h => h) rfl (fun K hK => ?_)
  refine quiet_cell _ _ rfl _ rfl _ _ Try.underlying22 rfl (fun W' h => KeepB.cell h HK1024.out rfl) ?_
  refine hK _ ?_
  simp only [Act.put, List.setIfInBounds_toArray, List.set_cons_succ, List.set_cons_zero]
  clear hK K
  refine takeK 7 rfl (by kernel_rfl) (by kernel_rfl) (by kernel_rfl) rfl (fun _ _ _ _ h => h) rfl (fun K hK => ?_)
  go_big_quiet_op
  first | refine hK _ ?_ | refine ⟨_, fun _ _ => rfl, hK _ ?_⟩
  clear hK K
  refine takeK 8 rfl (by kernel_rfl) (by kernel_rfl) (by kernel_rfl) rfl (fun _ _ _ _ h => h) rfl (fun K hK => ?_)
  refine quiet_cell _ _ rfl _ rfl _ _ Try.underlying56 rfl (fun W' h => KeepB.cell h HK1025.out rfl) ?_
  refine hK _ ?_
  simp only [Act.put, List.setIfInBounds_toArray, List.set_cons_succ, List.set_cons_zero]
  clear hK K
  refine takeK 9 rfl (by kernel_rfl) (by kernel_rfl) (by kernel_rfl) rfl (fun _ _ _ _ h => h) rfl (fun K hK => ?_)
  go_big_quiet_op
  first | refine hK _ ?_ | refine ⟨_, fun _ _ => rfl, hK _ ?_⟩
  clear hK K
  refine takeK 10 rfl (by kernel_rfl) (by kernel_rfl) (by kernel_rfl) rfl (fun _ _ _ _ h => h) rfl (fun K hK => ?_)
  go_big_quiet_op
  first | refine hK _ ?_ | refine ⟨_, fun _ _ => rfl, hK _ ?_⟩
  clear hK K
  refine takeK 14 rfl (by kernel_rfl) (by kernel_rfl) (by kernel_rfl) rfl (fun _ _ _ _ h => h) rfl (fun K hK => ?_)
  go_big_quiet_op
  first | refine hK _ ?_ | refine ⟨_, fun _ _ => rfl, hK _ ?_⟩
  clear hK K
  refine takeK 15 rfl (by kernel_rfl) (by kernel_rfl) (by kernel_rfl) rfl (fun _ _ _ _ h => h) rfl (fun K hK => ?_)
  refine quiet_cell _ _ rfl _ rfl _ _ Try.underlying56 rfl (fun W' h => KeepB.cell h HK1025.out rfl) ?_
  refine hK _ ?_
  simp only [Act.put, List.setIfInBounds_toArray, List.set_cons_succ, List.set_cons_zero]
  clear hK K
  apply lat5 (fun v10 v11 v16 v17 v18 W => CJ w.heap.size w0 v v18 (((bs ++ [key].flatMap (be 4)) ++ [byteOf ((List.length (α := Dg) ds : Nat) : Int)]) ++ layS BB 32) [⟨.arr 32 .u8, ds, .slice A (List.length (α := Dg) ds) d⟩] W)
  intro hM6
  apply lat4 (fun v10 v11 v16 v17 W => CJ w.heap.size w0 v v17 ((bs ++ [key].flatMap (be 4)) ++ [byteOf ((List.length (α := Dg) ds : Nat) : Int)]) [⟨.arr 32 .u8, ds, .slice A (List.length (α := Dg) ds) d⟩] W)
  intro hM5
  apply lat3 (fun v10 v11 v16 W => CJ w.heap.size w0 v v11 (bs ++ [key].flatMap (be 4)) [⟨.u8, [byteOf ((List.length (α := Dg) ds : Nat) : Int)], v16⟩, ⟨.arr 32 .u8, ds, .slice A (List.length (α := Dg) ds) d⟩] W)
  intro hM4
  apply lat2 (fun v10 v16 W => CJ w.heap.size w0 v v bs [⟨.nat .u32, [key], v10⟩, ⟨.u8, [byteOf ((List.length (α := Dg) ds : Nat) : Int)], v16⟩, ⟨.arr 32 .u8, ds, .slice A (List.length (α := Dg) ds) d⟩] W)
  intro hM3
  apply lat2 (fun v10 v11 W => CJ w.heap.size w0 v v11 (bs ++ [key].flatMap (be 4)) [⟨.arr 32 .u8, ds, .slice A (List.length (α := Dg) ds) d⟩] W)
  intro hM2
  apply lat1 (fun v16 W => CJ w.heap.size w0 v v bs [⟨.u8, [byteOf ((List.length (α := Dg) ds : Nat) : Int)], v16⟩, ⟨.arr 32 .u8, ds, .slice A (List.length (α := Dg) ds) d⟩] W)
  intro hM1
  apply lat1 (fun v10 W => CJ w.heap.size w0 v v bs [⟨.nat .u32, [key], v10⟩, ⟨.arr 32 .u8, ds, .slice A (List.length (α := Dg) ds) d⟩] W)
  intro hM0
  · have HJ := Lib.hid hJ0
    refine manyM 5 [11] (by kernel_rfl) ⟨oneM rfl rfl (fun K hK => ?_), oneM rfl rfl (fun K hK => ?_), trivial⟩
    · refine HJ.out.mk1 91 (.tmp 9) rfl 22 Try.underlying91 (.nat .u32) key _ [Value.int .u32 (key : Int)] rfl rfl (fun _ _ => ⟨rfl, hkey⟩) u32_size2 u32_zero2 (show 1 ≤ 16777216 by decide) (show 0 < 1 by decide) ?_
      intro v10 W hJ hkb
      have HJ := Lib.hid hJ
      clear hJ
      refine hK _ _ hkb ?_
      clear hK K
      (try simp only [Act.put, List.setIfInBounds_toArray, List.set_cons_succ, List.set_cons_zero])
      exact hM0 v10 _ (HJ.out.sub (by intro x hx; simp only [List.mem_cons, List.not_mem_nil, or_false] at hx; rcases hx with rfl | rfl <;> first | exact (.head _) | exact (.tail _ (.head _))))
    · refine HJ.out.mk1 42 (.tmp 15) rfl 5 Try.underlying42 .u8 (byteOf ((List.length (α := Dg) ds : Nat) : Int)) _ [Value.int .u8 ((byteOf ((List.length (α := Dg) ds : Nat) : Int)).toNat : Int)] rfl (by rw [byteOf_eq]; rfl) (fun _ _ => rfl) u8_size1 u8_zero1 (show 1 ≤ 16777216 by decide) (show 0 < 1 by decide) ?_
      intro v16 W hJ hkb
      have HJ := Lib.hid hJ
      clear hJ
      refine hK _ _ hkb ?_
      clear hK K
      (try simp only [Act.put, List.setIfInBounds_toArray, List.set_cons_succ, List.set_cons_zero])
      exact hM1 v16 _ (HJ.out.sub (by intro x hx; simp only [List.mem_cons, List.not_mem_nil, or_false] at hx; rcases hx with rfl | rfl <;> first | exact (.head _) | exact (.tail _ (.head _))))
  · intro v10 W hJ
    have HJ := Lib.hid hJ
    clear hJ
    refine manyM 6 [11] (by kernel_rfl) ⟨oneM rfl rfl (fun K hK => ?_), oneM rfl rfl (fun K hK => ?_), trivial⟩
    · go_simp
      refine (HJ.out.four (.head _) (by have hls := HLS.out; simp only [List.length_append, List.length_cons, List.length_nil, List.flatMap_cons, List.flatMap_nil, be_length, hls]; omega)).mono ?_
      rintro e W ⟨v11, rfl, hJ, hkb⟩
      have HJ := Lib.hid hJ
      clear hJ
      refine hK _ _ hkb ?_
      clear hK K
      exact hM2 v10 v11 _ (HJ.out.sub (by intro x hx; simp only [List.mem_cons, List.not_mem_nil, or_false] at hx; rcases hx with rfl <;> first | exact (.tail _ (.head _))))
    · refine HJ.out.mk1 42 (.tmp 15) rfl 5 Try.underlying42 .u8 (byteOf ((List.length (α := Dg) ds : Nat) : Int)) _ [Value.int .u8 ((byteOf ((List.length (α := Dg) ds : Nat) : Int)).toNat : Int)] rfl (by rw [byteOf_eq]; rfl) (fun _ _ => rfl) u8_size1 u8_zero1 (show 1 ≤ 16777216 by decide) (show 0 < 1 by decide) ?_
      intro v16 W hJ hkb
      have HJ := Lib.hid hJ
      clear hJ
      refine hK _ _ hkb ?_
      clear hK K
      (try simp only [Act.put, List.setIfInBounds_toArray, List.set_cons_succ, List.set_cons_zero])
      exact hM3 v10 v16 _ (HJ.out.sub (by intro x hx; simp only [List.mem_cons, List.not_mem_nil, or_false] at hx; rcases hx with rfl | rfl | rfl <;> first | exact (.tail _ (.head _)) | exact (.head _) | exact (.tail _ (.tail _ (.head _)))))
  · intro v16 W hJ
    have HJ := Lib.hid hJ
    clear hJ
    refine stepM 5 rfl (by kernel_rfl) rfl (fun K hK => ?_)
    refine HJ.out.mk1 91 (.tmp 9) rfl 22 Try.underlying91 (.nat .u32) key _ [Value.int .u32 (key : Int)] rfl rfl (fun _ _ => ⟨rfl, hkey⟩) u32_size2 u32_zero2 (show 1 ≤ 16777216 by decide) (show 0 < 1 by decide) ?_
    intro v10 W hJ hkb
    have HJ := Lib.hid hJ
    clear hJ
    refine hK _ _ hkb ?_
    clear hK K
    (try simp only [Act.put, List.setIfInBounds_toArray, List.set_cons_succ, List.set_cons_zero])
    exact relist (by kernel_rfl) (hM3 v10 v16 _ (HJ.out.sub (by intro x hx; simp only [List.mem_cons, List.not_mem_nil, or_false] at hx; rcases hx with rfl | rfl | rfl <;> first | exact (.head _) | exact (.tail _ (.head _)) | exact (.tail _ (.tail _ (.head _))))))
  · intro v10 v11 W hJ
    have HJ := Lib.hid hJ
    clear hJ
    refine stepM 11 rfl (by kernel_rfl) rfl (fun K hK => ?_)
    refine HJ.out.mk1 42 (.tmp 15) rfl 5 Try.underlying42 .u8 (byteOf ((List.length (α := Dg) ds : Nat) : Int)) _ [Value.int .u8 ((byteOf ((List.length (α := Dg) ds : Nat) : Int)).toNat : Int)] rfl (by rw [byteOf_eq]; rfl) (fun _ _ => rfl) u8_size1 u8_zero1 (show 1 ≤ 16777216 by decide) (show 0 < 1 by decide) ?_
    intro v16 W hJ hkb
    have HJ := Lib.hid hJ
    clear hJ
    refine hK _ _ hkb ?_
    clear hK K
    (try simp only [Act.put, List.setIfInBounds_toArray, List.set_cons_succ, List.set_cons_zero])
    exact hM4 v10 v11 v16 _ (HJ.out.sub (by intro x hx; simp only [List.mem_cons, List.not_mem_nil, or_false] at hx; rcases hx with rfl | rfl <;> first | exact (.head _) | exact (.tail _ (.head _))))
  · intro v10 v16 W hJ
    have HJ := Lib.hid hJ
    clear hJ
    refine stepM 6 rfl (by kernel_rfl) rfl (fun K hK => ?_)
    go_simp
    refine (HJ.out.four (.head _) (by have hls := HLS.out; simp only [List.length_append, List.length_cons, List.length_nil, List.flatMap_cons, List.flatMap_nil, be_length, hls]; omega)).mono ?_
    rintro e W ⟨v11, rfl, hJ, hkb⟩
    have HJ := Lib.hid hJ
    clear hJ
    refine hK _ _ hkb ?_
    clear hK K
    exact relist (by kernel_rfl) (hM4 v10 v11 v16 _ (HJ.out.sub (by intro x hx; simp only [List.mem_cons, List.not_mem_nil, or_false] at hx; rcases hx with rfl | rfl <;> first | exact (.tail _ (.head _)) | exact (.tail _ (.tail _ (.head _))))))
  · intro v10 v11 v16 W hJ
    have HJ := Lib.hid hJ
    clear hJ
    refine stepM 12 rfl (by kernel_rfl) rfl (fun K hK => ?_)
    go_simp
    refine (HJ.out.one (.head _) (by have hls := HLS.out; simp only [List.length_append, List.length_cons, List.length_nil, List.flatMap_cons, List.flatMap_nil, be_length, hls]; omega)).mono ?_
    rintro e W ⟨v17, rfl, hJ, hkb⟩
    have HJ := Lib.hid hJ
    clear hJ
    refine hK _ _ hkb ?_
    clear hK K
    exact hM5 v10 v11 v16 v17 _ (HJ.out.sub (by intro x hx; simp only [List.mem_cons, List.not_mem_nil, or_false] at hx; rcases hx with rfl <;> first | exact (.tail _ (.head _))))
  · intro v10 v11 v16 v17 W hJ
    have HJ := Lib.hid hJ
    clear hJ
    refine stepM 13 rfl (by kernel_rfl) rfl (fun K hK => ?_)
    go_simp
    refine (CJ.lamp BB HB.out HJ.out (by have hls := HLS.out; simp only [List.length_append, List.length_cons, List.length_nil, List.flatMap_cons, List.flatMap_nil, be_length, hls]; omega)).mono ?_
    rintro e W ⟨v18, rfl, hJ, hkb⟩
    have HJ := Lib.hid hJ
    clear hJ
    refine hK _ _ hkb ?_
    clear hK K
    exact hM6 v10 v11 v16 v17 v18 _ (HJ.out.sub (by intro x hx; simp only [List.mem_cons, List.not_mem_nil, or_false] at hx; rcases hx with rfl <;> first | exact (.head _)))
  intro v10 v11 v16 v17 v18 W hJ
  have HJ := Lib.hid hJ
  clear hJ
  refine stepM 16 rfl (by kernel_rfl) rfl (fun K hK => ?_)
  go_simp
  refine (HJ.out.sum (l := ds) (.head _) (by have hls := HLS.out; simp only [List.length_append, List.length_cons, List.length_nil, List.flatMap_cons, List.flatMap_nil, be_length, hls]; omega)).mono ?_
  rintro e W ⟨v21, rfl, hJ, hkb⟩
  have HJ := Lib.hid hJ
  clear hJ
  refine hK _ _ hkb ?_
  clear hK K
  refine takeK 17 rfl (by kernel_rfl) (by kernel_rfl) (by kernel_rfl) rfl (fun _ _ _ _ h => h) rfl (fun K hK => ?_)
  go_big_quiet_op
  first | refine hK _ ?_ | refine ⟨_, fun _ _ => rfl, hK _ ?_⟩
  clear hK K
  refine doneM (by kernel_rfl) ?_ _
  have ho9 := HJ.out.own
  have hm9 := Moved.pre HX.out HJ.out.mv
  clear HJ
  go_wp2
  go_ret
  exact ⟨_, rfl, by simpa [sigB] using ho9, hm9⟩
end Go.Proofs.Ytemladlnpaaefaa
