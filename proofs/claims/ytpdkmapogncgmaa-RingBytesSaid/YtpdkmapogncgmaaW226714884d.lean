/- Walks and plain laws, put together in build order. Conditions: what each of them names. -/
import Derived.Test.YtpdkmapogncgmaaWf995d71995
set_option linter.unusedVariables false
set_option linter.unusedSimpArgs false
set_option linter.unnecessarySimpa false
namespace Go.Proofs.Ytpdkmapogncgmaa
section
open Go.RowKit

theorem szLampL {n : Nat} (h : n = 1024) : (Try.prog.info? 36).map (·.size) = some n := by subst h; kernel_rfl
theorem u32_size2 : (Try.prog.info? 27).map (·.size) = some 1 := by kernel_rfl
theorem u32_zero2 : ((Try.prog.info? 27).bind (·.zero)).isSome = true := by kernel_rfl
theorem CJ.lamp {g : Nat} {w0 w : World} {v0 cur : Value} {bs : List UInt8} {xs : List Item} (BB : List UInt8) (hB : BB.length = 1024) (h : CJ g w0 v0 cur bs xs w) (hb : bs.length + 1024 ≤ 140737488355328) :
    Calls Try.prog 56 #[.agg (bv BB).toArray, cur] w fun e w' => ∃ v', e = .returned v' ∧ CJ g w0 v0 v' (bs ++ layS BB 32) xs w' ∧ KeepB (fun b => b = g) w w' := by
  refine (Lamp_Lay BB cur bs w hB h.own hb).mono ?_
  rintro e w' ⟨v', rfl, ho, hm⟩
  exact ⟨v', rfl, h.call ho hm⟩
/-- A ring's signature as bytes. -/
def sigB (BB : List UInt8) (key : Nat) (ds : List Dg) : List UInt8 := be 4 key ++ (byteOf ((List.length (α := Dg) ds : Nat) : Int) :: (layS BB 32 ++ List.flatMap id ds))
set_option maxRecDepth 100000 in
set_option maxHeartbeats 8000000 in
theorem Ring_Lay (BB : List UInt8) (key : Nat) (u : Value) (ds : List Dg) (v : Value) (bs : List UInt8) (w : World) (hB : BB.length = 1024) (hkey : (Lit.int .u32 (key : Int)).wf = true) (hu : Hold ⟨.arr 32 .u8, ds, u⟩ w) (hap : ∀ b, v.ownBlock = some b → u.ownBlock ≠ some b) (ho : OwnB w v bs) (hb : bs.length + 32 * List.length (α := Dg) ds ≤ 140737488350000) :
    Calls Try.prog 30 #[.agg (sigC (bv BB) key u).toArray, v] w fun e w' => ∃ v', e = .returned v' ∧ OwnB w' v' (bs ++ sigB BB key ds) ∧ Moved w w' v v' := by
  obtain ⟨A, d, xs, hv, _⟩ := ways_open hu.1
  have hv : u = .slice A (List.length (α := Dg) ds) d := hv
  subst hv
  have hcl : (bv BB).length = 1024 := by rw [bv_length]; exact hB
  have hls : (layS BB 32).length = 1024 := layS_len hB 32 (by omega)
  have k1024 := sigC_key hcl key (.slice A (List.length (α := Dg) ds) d)
  have k1025 := sigC_way hcl key (.slice A (List.length (α := Dg) ds) d)
  have kc := sigC_take hcl key (.slice A (List.length (α := Dg) ds) d)
  generalize sigC (bv BB) key (.slice A (List.length (α := Dg) ds) d) = SC at *
  have hb0 : Blk (w.alloc (.cells SC.toArray 39)) w.heap.size 39 SC := Blk.new _ _ _
  have hx0 : Ext w (w.alloc (.cells SC.toArray 39)) := (Ext.refl w).alloc _
  have hne : ∀ b, v.ownBlock = some b → b ≠ w.heap.size := fun b hb e => by have := OwnB.lt ho b hb; omega
  have HB := Lib.hid hB
  have HLS := Lib.hid hls
  have HB0 := Lib.hid hb0
  have HX0 := Lib.hid hx0
  have HO := Lib.hid ho
  have HNE := Lib.hid hne
  have HU := Lib.hid hu
  have HAP := Lib.hid hap
  clear hb0 hx0 ho hne hu hap hcl hls
  go_enter Try.func30, Try.ntmps30
  go_wp2
  have hb0 : Blk (w.alloc (.cells SC.toArray 39)).drew w.heap.size 39 SC := HB0.out
  have hx : Ext w (w.alloc (.cells SC.toArray 39)).drew := HX0.out.drew
  refine startM (KeepB fun b => b = w.heap.size) (by kernel_rfl) ?_
  (try simp only [Act.put, List.setIfInBounds_toArray, List.set_cons_succ, List.set_cons_zero])
  generalize (w.alloc (.cells SC.toArray 39)).drew = w0 at *
  have HK1024 := Lib.hid ((hb0.cell 1024).trans k1024)
  have HK1025 := Lib.hid ((hb0.cell 1025).trans k1025)
  have hkc : Cells w0 ⟨w.heap.size, 0, none⟩ (bv BB) := by have h := hb0.cells.take 1024; rw [kc] at h; exact h
  have HKC := Lib.hid hkc
  have hJ0 : CJ w.heap.size w0 v v bs [⟨.arr 32 .u8, ds, .slice A (List.length (α := Dg) ds) d⟩] w0 := ⟨Moved.refl _ _, hb0.lt, HNE.out, HO.out.ext hx, fun x hxm => by
    rw [List.mem_singleton.1 hxm]
    exact ⟨⟨hx.holds HU.out.2 HU.out.1, fun b hb => Nat.lt_of_lt_of_le (HU.out.2 b hb) hx.size⟩, HAP.out⟩⟩
  have HX := Lib.hid hx
  clear hb0 hx hkc k1024 k1025 kc
  refine takeK 0 rfl (by kernel_rfl) (by kernel_rfl) (by kernel_rfl) rfl (fun _ _ _ _ h => h) rfl (fun K hK => ?_)
  go_big_quiet_op
  first | refine hK _ ?_ | refine ⟨_, fun _ _ => rfl, hK _ ?_⟩
  clear hK K
  refine takeK 1 rfl (by kernel_rfl) (by kernel_rfl) (by kernel_rfl) rfl (fun _ _ _ _ h => h) rfl (fun K hK => ?_)
  refine quiet_agg 36 (.tmp 5) rfl _ rfl (bv BB) _ Try.underlying36 rfl (szLampL (by rw [bv_length]; exact HB.out)) (fun W' h => KeepB.cells h HKC.out rfl) ?_
  refine hK _ ?_
  simp only [Act.put, List.setIfInBounds_toArray, List.set_cons_succ, List.set_cons_zero]
  clear hK K
  refine takeK 2 rfl (by kernel_rfl) (by kernel_rfl) (by kernel_rfl) rfl (fun _ _ _ _ h => h) rfl (fun K hK => ?_)
  go_big_quiet_op
  first | refine hK _ ?_ | refine ⟨_, fun _ _ => rfl, hK _ ?_⟩
  clear hK K
  refine takeK 3 rfl (by kernel_rfl) (by kernel_rfl) (by kernel_rfl) rfl (fun _ _ _ _ h => h) rfl (fun K hK => ?_)
  go_big_quiet_op
  first | refine hK _ ?_ | refine ⟨_, fun _ _ => rfl, hK _ ?_⟩
  clear hK K
  refine takeK 4 rfl (by kernel_rfl) (by kernel_rfl) (by kernel_rfl) rfl (fun _ _ _ _ h => h) rfl (fun K hK => ?_)
  refine quiet_cell _ _ rfl _ rfl _ _ Try.underlying27 rfl (fun W' h => KeepB.cell h HK1024.out rfl) ?_
  refine hK _ ?_
  simp only [Act.put, List.setIfInBounds_toArray, List.set_cons_succ, List.set_cons_zero]
  clear hK K
  refine takeK 7 rfl (by kernel_rfl) (by kernel_rfl) (by kernel_rfl) rfl (fun _ _ _ _ h => h) rfl (fun K hK => ?_)
  go_big_quiet_op
  first | refine hK _ ?_ | refine ⟨_, fun _ _ => rfl, hK _ ?_⟩
  clear hK K
  refine takeK 8 rfl (by kernel_rfl) (by kernel_rfl) (by kernel_rfl) rfl (fun _ _ _ _ h => h) rfl (fun K hK => ?_)
  refine quiet_cell _ _ rfl _ rfl _ _ Try.underlying37 rfl (fun W' h => KeepB.cell h HK1025.out rfl) ?_
  refine hK _ ?_
  simp only [Act.put, List.setIfInBounds_toArray, List.set_cons_succ, List.set_cons_zero]
  clear hK K
  refine takeK 9 rfl (by kernel_rfl) (by kernel_rfl) (by kernel_rfl) rfl (fun _ _ _ _ h => h) rfl (fun K hK => ?_)
  go_big_quiet_op
  first | refine hK _ ?_ | refine ⟨_, fun _ _ => rfl, hK _ ?_⟩
  clear hK K
  refine takeK 10 rfl (by kernel_rfl) (by kernel_rfl) (by kernel_rfl) rfl (fun _ _ _ _ h => h) rfl (fun K hK => ?_)
  go_big_quiet_op
  first | refine hK _ ?_ | refine ⟨_, fun _ _ => rfl, hK _ ?_⟩
  clear hK K
  refine takeK 14 rfl (by kernel_rfl) (by kernel_rfl) (by kernel_rfl) rfl (fun _ _ _ _ h => h) rfl (fun K hK => ?_)
  go_big_quiet_op
  first | refine hK _ ?_ | refine ⟨_, fun _ _ => rfl, hK _ ?_⟩
  clear hK K
  refine takeK 15 rfl (by kernel_rfl) (by kernel_rfl) (by kernel_rfl) rfl (fun _ _ _ _ h => h) rfl (fun K hK => ?_)
  refine quiet_cell _ _ rfl _ rfl _ _ Try.underlying37 rfl (fun W' h => KeepB.cell h HK1025.out rfl) ?_
  refine hK _ ?_
  simp only [Act.put, List.setIfInBounds_toArray, List.set_cons_succ, List.set_cons_zero]
  clear hK K
  apply lat5 (fun v10 v11 v16 v17 v18 W => CJ w.heap.size w0 v v18 (((bs ++ [key].flatMap (be 4)) ++ [byteOf ((List.length (α := Dg) ds : Nat) : Int)]) ++ layS BB 32) [⟨.arr 32 .u8, ds, .slice A (List.length (α := Dg) ds) d⟩] W)
  intro hM6
  apply lat4 (fun v10 v11 v16 v17 W => CJ w.heap.size w0 v v17 ((bs ++ [key].flatMap (be 4)) ++ [byteOf ((List.length (α := Dg) ds : Nat) : Int)]) [⟨.arr 32 .u8, ds, .slice A (List.length (α := Dg) ds) d⟩] W)
  intro hM5
  apply lat3 (fun v10 v11 v16 W => CJ w.heap.size w0 v v11 (bs ++ [key].flatMap (be 4)) [⟨.u8, [byteOf ((List.length (α := Dg) ds : Nat) : Int)], v16⟩, ⟨.arr 32 .u8, ds, .slice A (List.length (α := Dg) ds) d⟩] W)
  intro hM4
  apply lat2 (fun v10 v16 W => CJ w.heap.size w0 v v bs [⟨.nat .u32, [key], v10⟩, ⟨.u8, [byteOf ((List.length (α := Dg) ds : Nat) : Int)], v16⟩, ⟨.arr 32 .u8, ds, .slice A (List.length (α := Dg) ds) d⟩] W)
  intro hM3
  apply lat2 (fun v10 v11 W => CJ w.heap.size w0 v v11 (bs ++ [key].flatMap (be 4)) [⟨.arr 32 .u8, ds, .slice A (List.length (α := Dg) ds) d⟩] W)
  intro hM2
  apply lat1 (fun v16 W => CJ w.heap.size w0 v v bs [⟨.u8, [byteOf ((List.length (α := Dg) ds : Nat) : Int)], v16⟩, ⟨.arr 32 .u8, ds, .slice A (List.length (α := Dg) ds) d⟩] W)
  intro hM1
  apply lat1 (fun v10 W => CJ w.heap.size w0 v v bs [⟨.nat .u32, [key], v10⟩, ⟨.arr 32 .u8, ds, .slice A (List.length (α := Dg) ds) d⟩] W)
  intro hM0
  · have HJ := Lib.hid hJ0
    refine anyofM 5 [11] (by kernel_rfl) ⟨oneM rfl rfl (fun K hK => ?_), oneM rfl rfl (fun K hK => ?_), trivial⟩
    · refine HJ.out.mk1 61 (.tmp 9) rfl 27 Try.underlying61 (.nat .u32) key _ [Value.int .u32 (key : Int)] rfl rfl (fun _ _ => ⟨rfl, hkey⟩) u32_size2 u32_zero2 (show 1 ≤ 16777216 by decide) (show 0 < 1 by decide) ?_
      intro v10 W hJ hkb
      have HJ := Lib.hid hJ
      clear hJ
      refine hK _ _ hkb ?_
      clear hK K
      (try simp only [Act.put, List.setIfInBounds_toArray, List.set_cons_succ, List.set_cons_zero])
      exact hM0 v10 _ (HJ.out.sub (by intro x hx; simp only [List.mem_cons, List.not_mem_nil, or_false] at hx; rcases hx with rfl | rfl <;> first | exact (.head _) | exact (.tail _ (.head _))))
    · refine HJ.out.mk1 62 (.tmp 15) rfl 5 Try.underlying62 .u8 (byteOf ((List.length (α := Dg) ds : Nat) : Int)) _ [Value.int .u8 ((byteOf ((List.length (α := Dg) ds : Nat) : Int)).toNat : Int)] rfl (by rw [byteOf_eq]; rfl) (fun _ _ => rfl) u8_sizeU u8_zeroU (show 1 ≤ 16777216 by decide) (show 0 < 1 by decide) ?_
      intro v16 W hJ hkb
      have HJ := Lib.hid hJ
      clear hJ
      refine hK _ _ hkb ?_
      clear hK K
      (try simp only [Act.put, List.setIfInBounds_toArray, List.set_cons_succ, List.set_cons_zero])
      exact hM1 v16 _ (HJ.out.sub (by intro x hx; simp only [List.mem_cons, List.not_mem_nil, or_false] at hx; rcases hx with rfl | rfl <;> first | exact (.head _) | exact (.tail _ (.head _))))
  · intro v10 W hJ
    have HJ := Lib.hid hJ
    clear hJ
    refine anyofM 6 [11] (by kernel_rfl) ⟨oneM rfl rfl (fun K hK => ?_), oneM rfl rfl (fun K hK => ?_), trivial⟩
    · go_simp
      refine (HJ.out.four (.head _) (by have hls := HLS.out; simp only [List.length_append, List.length_cons, List.length_nil, List.flatMap_cons, List.flatMap_nil, be_length, hls]; omega)).mono ?_
      rintro e W ⟨v11, rfl, hJ, hkb⟩
      have HJ := Lib.hid hJ
      clear hJ
      refine hK _ _ hkb ?_
      clear hK K
      exact hM2 v10 v11 _ (HJ.out.sub (by intro x hx; simp only [List.mem_cons, List.not_mem_nil, or_false] at hx; rcases hx with rfl <;> first | exact (.tail _ (.head _))))
    · refine HJ.out.mk1 62 (.tmp 15) rfl 5 Try.underlying62 .u8 (byteOf ((List.length (α := Dg) ds : Nat) : Int)) _ [Value.int .u8 ((byteOf ((List.length (α := Dg) ds : Nat) : Int)).toNat : Int)] rfl (by rw [byteOf_eq]; rfl) (fun _ _ => rfl) u8_sizeU u8_zeroU (show 1 ≤ 16777216 by decide) (show 0 < 1 by decide) ?_
      intro v16 W hJ hkb
      have HJ := Lib.hid hJ
      clear hJ
      refine hK _ _ hkb ?_
      clear hK K
      (try simp only [Act.put, List.setIfInBounds_toArray, List.set_cons_succ, List.set_cons_zero])
      exact hM3 v10 v16 _ (HJ.out.sub (by intro x hx; simp only [List.mem_cons, List.not_mem_nil, or_false] at hx; rcases hx with rfl | rfl | rfl <;> first | exact (.tail _ (.head _)) | exact (.head _) | exact (.tail _ (.tail _ (.head _)))))
  · intro v16 W hJ
    have HJ := Lib.hid hJ
    clear hJ
    refine stepM 5 rfl (by kernel_rfl) rfl (fun K hK => ?_)
    refine HJ.out.mk1 61 (.tmp 9) rfl 27 Try.underlying61 (.nat .u32) key _ [Value.int .u32 (key : Int)] rfl rfl (fun _ _ => ⟨rfl, hkey⟩) u32_size2 u32_zero2 (show 1 ≤ 16777216 by decide) (show 0 < 1 by decide) ?_
    intro v10 W hJ hkb
    have HJ := Lib.hid hJ
    clear hJ
    refine hK _ _ hkb ?_
    clear hK K
    (try simp only [Act.put, List.setIfInBounds_toArray, List.set_cons_succ, List.set_cons_zero])
    exact relist (by kernel_rfl) (hM3 v10 v16 _ (HJ.out.sub (by intro x hx; simp only [List.mem_cons, List.not_mem_nil, or_false] at hx; rcases hx with rfl | rfl | rfl <;> first | exact (.head _) | exact (.tail _ (.head _)) | exact (.tail _ (.tail _ (.head _))))))
  · intro v10 v11 W hJ
    have HJ := Lib.hid hJ
    clear hJ
    refine stepM 11 rfl (by kernel_rfl) rfl (fun K hK => ?_)
    refine HJ.out.mk1 62 (.tmp 15) rfl 5 Try.underlying62 .u8 (byteOf ((List.length (α := Dg) ds : Nat) : Int)) _ [Value.int .u8 ((byteOf ((List.length (α := Dg) ds : Nat) : Int)).toNat : Int)] rfl (by rw [byteOf_eq]; rfl) (fun _ _ => rfl) u8_sizeU u8_zeroU (show 1 ≤ 16777216 by decide) (show 0 < 1 by decide) ?_
    intro v16 W hJ hkb
    have HJ := Lib.hid hJ
    clear hJ
    refine hK _ _ hkb ?_
    clear hK K
    (try simp only [Act.put, List.setIfInBounds_toArray, List.set_cons_succ, List.set_cons_zero])
    exact hM4 v10 v11 v16 _ (HJ.out.sub (by intro x hx; simp only [List.mem_cons, List.not_mem_nil, or_false] at hx; rcases hx with rfl | rfl <;> first | exact (.head _) | exact (.tail _ (.head _))))
  · intro v10 v16 W hJ
    have HJ := Lib.hid hJ
    clear hJ
    refine stepM 6 rfl (by kernel_rfl) rfl (fun K hK => ?_)
    go_simp
    refine (HJ.out.four (.head _) (by have hls := HLS.out; simp only [List.length_append, List.length_cons, List.length_nil, List.flatMap_cons, List.flatMap_nil, be_length, hls]; omega)).mono ?_
    rintro e W ⟨v11, rfl, hJ, hkb⟩
    have HJ := Lib.hid hJ
    clear hJ
    refine hK _ _ hkb ?_
    clear hK K
    exact relist (by kernel_rfl) (hM4 v10 v11 v16 _ (HJ.out.sub (by intro x hx; simp only [List.mem_cons, List.not_mem_nil, or_false] at hx; rcases hx with rfl | rfl <;> first | exact (.tail _ (.head _)) | exact (.tail _ (.tail _ (.head _))))))
  · intro v10 v11 v16 W hJ
    have HJ := Lib.hid hJ
    clear hJ
    refine stepM 12 rfl (by kernel_rfl) rfl (fun K hK => ?_)
    go_simp
    refine (HJ.out.one (.head _) (by have hls := HLS.out; simp only [List.length_append, List.length_cons, List.length_nil, List.flatMap_cons, List.flatMap_nil, be_length, hls]; omega)).mono ?_
    rintro e W ⟨v17, rfl, hJ, hkb⟩
    have HJ := Lib.hid hJ
    clear hJ
    refine hK _ _ hkb ?_
    clear hK K
    exact hM5 v10 v11 v16 v17 _ (HJ.out.sub (by intro x hx; simp only [List.mem_cons, List.not_mem_nil, or_false] at hx; rcases hx with rfl <;> first | exact (.tail _ (.head _))))
  · intro v10 v11 v16 v17 W hJ
    have HJ := Lib.hid hJ
    clear hJ
    refine stepM 13 rfl (by kernel_rfl) rfl (fun K hK => ?_)
    go_simp
    refine (CJ.lamp BB HB.out HJ.out (by have hls := HLS.out; simp only [List.length_append, List.length_cons, List.length_nil, List.flatMap_cons, List.flatMap_nil, be_length, hls]; omega)).mono ?_
    rintro e W ⟨v18, rfl, hJ, hkb⟩
    have HJ := Lib.hid hJ
    clear hJ
    refine hK _ _ hkb ?_
    clear hK K
    exact hM6 v10 v11 v16 v17 v18 _ (HJ.out.sub (by intro x hx; simp only [List.mem_cons, List.not_mem_nil, or_false] at hx; rcases hx with rfl <;> first | exact (.head _)))
  intro v10 v11 v16 v17 v18 W hJ
  have HJ := Lib.hid hJ
  clear hJ
  refine stepM 16 rfl (by kernel_rfl) rfl (fun K hK => ?_)
  go_simp
  refine (HJ.out.sum (l := ds) (.head _) (by have hls := HLS.out; simp only [List.length_append, List.length_cons, List.length_nil, List.flatMap_cons, List.flatMap_nil, be_length, hls]; omega)).mono ?_
  rintro e W ⟨v21, rfl, hJ, hkb⟩
  have HJ := Lib.hid hJ
  clear hJ
  refine hK _ _ hkb ?_
  clear hK K
  refine takeK 17 rfl (by kernel_rfl) (by kernel_rfl) (by kernel_rfl) rfl (fun _ _ _ _ h => h) rfl (fun K hK => ?_)
  go_big_quiet_op
  first | refine hK _ ?_ | refine ⟨_, fun _ _ => rfl, hK _ ?_⟩
  clear hK K
  refine doneM (by kernel_rfl) ?_ _
  have ho9 := HJ.out.own
  have hm9 := Moved.pre HX.out HJ.out.mv
  clear HJ
  go_wp2
  go_ret
  exact ⟨_, rfl, by simpa [sigB] using ho9, hm9⟩
end
section
open Go.RowKit

theorem szRLampL {n : Nat} (h : n = 1024) : (Try.prog.info? 26).map (·.size) = some n := by subst h; kernel_rfl
theorem flat_digs : ∀ ds : List Dg, (∀ d ∈ ds, List.length (α := UInt8) d = 32) → (List.flatMap id ds).length = 32 * List.length (α := Dg) ds
  | [], _ => rfl
  | d :: ds, h => by
    show (d ++ List.flatMap id ds).length = 32 * (List.length (α := Dg) ds + 1)
    have h1 := h d (by simp)
    have h2 := flat_digs ds (fun x hx => h x (by simp [hx]))
    rw [List.length_append, h2]
    have h1 : (d : List UInt8).length = 32 := h1
    omega
set_option maxRecDepth 100000 in
set_option maxHeartbeats 8000000 in
theorem RRing_Lay (BB : List UInt8) (key : Nat) (u : Value) (ds : List Dg) (vb : Value) (bs : List UInt8) (w : World) (F : Fp) (hB : BB.length = 1024) (hkey : (Lit.int .u32 (key : Int)).wf = true) (hu : Ways w F u ds) (hv : (Ty.sl .u8).holds w F [vb] bs) (hF : ∀ b, F b → b < w.heap.size) (hb : bs.length + 32 * List.length (α := Dg) ds ≤ 140737488350000) :
    Calls Try.prog 34 #[vb, .agg (sigC (bv BB) key u).toArray] w fun e w' => ∃ v', e = .returned v' ∧ OwnB w' v' (bs ++ sigB BB key ds) ∧ Fresh w w' v' := by
  obtain ⟨i0, hi, hz0, hz1, hz2⟩ := info_parts u8_info
  obtain ⟨A, d, xs, hvu, hld, hdm, hA, hcell, hall⟩ := ways_open hu
  subst hvu
  clear hu
  unfold maxLen at hdm
  have hdig := (digs_iff.1 hall).2
  have hk32 := bounds_u32 hkey
  have hk64 : key < 18446744073709551616 := by omega
  have hkw : ((key : Nat) : Int) % 18446744073709551616 = key := by omega
  have hcl : (bv BB).length = 1024 := by rw [bv_length]; exact hB
  have hls : (layS BB 32).length = 1024 := layS_len hB 32 (by omega)
  have k1024 := sigC_key hcl key (.slice A (List.length (α := Dg) ds) d)
  have k1025 := sigC_way hcl key (.slice A (List.length (α := Dg) ds) d)
  have kc := sigC_take hcl key (.slice A (List.length (α := Dg) ds) d)
  generalize sigC (bv BB) key (.slice A (List.length (α := Dg) ds) d) = SC at *
  have hb0 : Blk (w.alloc (.cells SC.toArray 30)) w.heap.size 30 SC := Blk.new _ _ _
  have hx0 : Ext w (w.alloc (.cells SC.toArray 30)) := (Ext.refl w).alloc _
  have HB := Lib.hid hB
  have HLS := Lib.hid hls
  have HB0 := Lib.hid hb0
  have HX0 := Lib.hid hx0
  have HW := Lib.hid hv
  have HFW := Lib.hid hF
  have HK25 := Lib.hid k1025
  have HKC := Lib.hid kc
  have HDIG := Lib.hid hdig
  clear hb0 hx0 hv hcl hls k1025 kc hdig
  go_enter Try.func34, Try.ntmps34
  go_wp2
  have hb0 : Blk (w.alloc (.cells SC.toArray 30)).drew w.heap.size 30 SC := HB0.out
  have hx : Ext w (w.alloc (.cells SC.toArray 30)).drew := HX0.out.drew
  refine startM (KeepB fun b => b = w.heap.size) (by kernel_rfl) ?_
  (try simp only [Act.put, List.setIfInBounds_toArray, List.set_cons_succ, List.set_cons_zero])
  generalize (w.alloc (.cells SC.toArray 30)).drew = w0 at *
  have HK1024 := Lib.hid ((hb0.cell 1024).trans k1024)
  have HK1025 := Lib.hid ((hb0.cell 1025).trans HK25.out)
  have hJ0 : CJ w.heap.size w0 (Value.slice none 0 0) (Value.slice none 0 0) [] [] w0 := CJ.start hb0.lt (Own.nil _ _ _) (by simp [Value.ownBlock])
  have HX := Lib.hid hx
  have HBB := Lib.hid hb0
  have HV : Hid (∀ {cur : Value} {l : List UInt8} {xs : List Item} {W : World}, CJ w.heap.size w0 (Value.slice none 0 0) cur l xs W → (Ty.sl .u8).holds W F [vb] bs) := Lib.hid (fun h => (HX.out.trans h.ext).holds HFW.out HW.out)
  have HVF : Hid (∀ {cur : Value} {l : List UInt8} {xs : List Item} {W : World}, CJ w.heap.size w0 (Value.slice none 0 0) cur l xs W → ∀ b, F b → b < W.heap.size) := Lib.hid (fun h b hb => Nat.lt_of_lt_of_le (HFW.out b hb) (HX.out.trans h.ext).size)
  clear hb0 hx k1024
  refine takeK 0 rfl (by kernel_rfl) (by kernel_rfl) (by kernel_rfl) rfl (fun _ _ _ _ h => h) rfl (fun K hK => ?_)
  go_big_quiet_op
  first | refine hK _ ?_ | refine ⟨_, fun _ _ => rfl, hK _ ?_⟩
  clear hK K
  refine takeK 1 rfl (by kernel_rfl) (by kernel_rfl) (by kernel_rfl) rfl (fun _ _ _ _ h => h) rfl (fun K hK => ?_)
  go_big_quiet_op
  first | refine hK _ ?_ | refine ⟨_, fun _ _ => rfl, hK _ ?_⟩
  clear hK K
  refine takeK 2 rfl (by kernel_rfl) (by kernel_rfl) (by kernel_rfl) rfl (fun _ _ _ _ h => h) rfl (fun K hK => ?_)
  refine quiet_cell _ _ rfl _ rfl _ _ Try.underlying27 rfl (fun W' h => KeepB.cell h HK1024.out rfl) ?_
  refine hK _ ?_
  simp only [Act.put, List.setIfInBounds_toArray, List.set_cons_succ, List.set_cons_zero]
  clear hK K
  refine takeK 3 rfl (by kernel_rfl) (by kernel_rfl) (by kernel_rfl) rfl (fun _ _ _ _ h => h) rfl (fun K hK => ?_)
  go_big_quiet_op
  first | refine hK _ ?_ | refine ⟨_, fun _ _ => rfl, hK _ ?_⟩
  clear hK K
  refine takeK 5 rfl (by kernel_rfl) (by kernel_rfl) (by kernel_rfl) rfl (fun _ _ _ _ h => h) rfl (fun K hK => ?_)
  go_big_quiet_op
  first | refine hK _ ?_ | refine ⟨_, fun _ _ => rfl, hK _ ?_⟩
  clear hK K
  refine takeK 6 rfl (by kernel_rfl) (by kernel_rfl) (by kernel_rfl) rfl (fun _ _ _ _ h => h) rfl (fun K hK => ?_)
  refine quiet_cell _ _ rfl _ rfl _ _ Try.underlying28 rfl (fun W' h => KeepB.cell h HK1025.out rfl) ?_
  refine hK _ ?_
  simp only [Act.put, List.setIfInBounds_toArray, List.set_cons_succ, List.set_cons_zero]
  clear hK K
  refine takeK 7 rfl (by kernel_rfl) (by kernel_rfl) (by kernel_rfl) rfl (fun _ _ _ _ h => h) rfl (fun K hK => ?_)
  go_big_quiet_op
  first | refine hK _ ?_ | refine ⟨_, fun _ _ => rfl, hK _ ?_⟩
  clear hK K
  refine takeK 8 rfl (by kernel_rfl) (by kernel_rfl) (by kernel_rfl) rfl (fun _ _ _ _ h => h) rfl (fun K hK => ?_)
  go_big_quiet_op
  first | refine hK _ ?_ | refine ⟨_, fun _ _ => rfl, hK _ ?_⟩
  clear hK K
  apply lat2 (fun v11 v16 W => CJ w.heap.size w0 (.slice none 0 0) v11 (bs ++ be 4 key) [⟨.u8, [byteOf ((List.length (α := Dg) ds : Nat) : Int)], v16⟩] W)
  intro hM2
  apply lat1 (fun v16 W => CJ w.heap.size w0 (Value.slice none 0 0) (Value.slice none 0 0) [] [⟨.u8, [byteOf ((List.length (α := Dg) ds : Nat) : Int)], v16⟩] W)
  intro hM1
  apply lat1 (fun v11 W => CJ w.heap.size w0 (.slice none 0 0) v11 (bs ++ be 4 key) [] W)
  intro hM0
  · have HJ := Lib.hid hJ0
    refine anyofM 4 [9] (by kernel_rfl) ⟨oneM rfl rfl (fun K hK => ?_), oneM rfl rfl (fun K hK => ?_), trivial⟩
    · go_simp
      (try simp only [hkw])
      refine (HJ.out.num0 vb bs F (HV.out HJ.out) (HVF.out HJ.out) key 4 hk64 (by omega) (by omega)).mono ?_
      rintro e W ⟨v11, rfl, hJ, hkb⟩
      have HJ := Lib.hid hJ
      clear hJ
      refine hK _ _ hkb ?_
      clear hK K
      exact hM0 v11 _ (HJ.out.sub (by intro x hx; cases hx))
    · refine HJ.out.mk1 62 (.tmp 15) rfl 5 Try.underlying62 .u8 (byteOf ((List.length (α := Dg) ds : Nat) : Int)) _ [Value.int .u8 ((byteOf ((List.length (α := Dg) ds : Nat) : Int)).toNat : Int)] rfl (by rw [byteOf_eq]; rfl) (fun _ _ => rfl) u8_sizeU u8_zeroU (show 1 ≤ 16777216 by decide) (show 0 < 1 by decide) ?_
      intro v16 W hJ hkb
      have HJ := Lib.hid hJ
      clear hJ
      refine hK _ _ hkb ?_
      clear hK K
      (try simp only [Act.put, List.setIfInBounds_toArray, List.set_cons_succ, List.set_cons_zero])
      exact hM1 v16 _ (HJ.out.sub (by intro x hx; simp only [List.mem_cons, List.not_mem_nil, or_false] at hx; rcases hx with rfl <;> first | exact (.head _)))
  · intro v11 W hJ
    have HJ := Lib.hid hJ
    clear hJ
    refine stepM 9 rfl (by kernel_rfl) rfl (fun K hK => ?_)
    refine HJ.out.mk1 62 (.tmp 15) rfl 5 Try.underlying62 .u8 (byteOf ((List.length (α := Dg) ds : Nat) : Int)) _ [Value.int .u8 ((byteOf ((List.length (α := Dg) ds : Nat) : Int)).toNat : Int)] rfl (by rw [byteOf_eq]; rfl) (fun _ _ => rfl) u8_sizeU u8_zeroU (show 1 ≤ 16777216 by decide) (show 0 < 1 by decide) ?_
    intro v16 W hJ hkb
    have HJ := Lib.hid hJ
    clear hJ
    refine hK _ _ hkb ?_
    clear hK K
    (try simp only [Act.put, List.setIfInBounds_toArray, List.set_cons_succ, List.set_cons_zero])
    exact hM2 v11 v16 _ (HJ.out.sub (by intro x hx; simp only [List.mem_cons, List.not_mem_nil, or_false] at hx; rcases hx with rfl <;> first | exact (.head _)))
  · intro v16 W hJ
    have HJ := Lib.hid hJ
    clear hJ
    refine stepM 4 rfl (by kernel_rfl) rfl (fun K hK => ?_)
    go_simp
    (try simp only [hkw])
    refine (HJ.out.num0 vb bs F (HV.out HJ.out) (HVF.out HJ.out) key 4 hk64 (by omega) (by omega)).mono ?_
    rintro e W ⟨v11, rfl, hJ, hkb⟩
    have HJ := Lib.hid hJ
    clear hJ
    refine hK _ _ hkb ?_
    clear hK K
    exact relist (by kernel_rfl) (hM2 v11 v16 _ (HJ.out.sub (by intro x hx; simp only [List.mem_cons, List.not_mem_nil, or_false] at hx; rcases hx with rfl <;> first | exact (.head _))))
  intro v11 v16 W hJ
  have HJ := Lib.hid hJ
  clear hJ
  refine stepM 10 rfl (by kernel_rfl) rfl (fun K hK => ?_)
  refine HJ.out.appI (.tmp 11) (.tmp 16) _ _ rfl Try.underlying62 Try.underlying62 rfl (.head _) rfl (by simp only [List.length_append, List.length_cons, List.length_nil, be_length]; omega) ?_
  intro v17 W hJ hkb
  have HJ := Lib.hid hJ
  clear hJ
  refine hK _ _ hkb ?_
  clear hK K
  (try simp only [Act.put, List.setIfInBounds_toArray, List.set_cons_succ, List.set_cons_zero])
  refine takeK 11 rfl (by kernel_rfl) (by kernel_rfl) (by kernel_rfl) rfl (fun _ _ _ _ h => h) rfl (fun K hK => ?_)
  go_big_quiet_op
  first | refine hK _ ?_ | refine ⟨_, fun _ _ => rfl, hK _ ?_⟩
  clear hK K
  refine doneM (by kernel_rfl) ?_ _
  have ho17 := HJ.out.own
  have hx17 : Ext w W := HX.out.trans HJ.out.ext
  have hb17 : Blk W w.heap.size 30 SC := by
    show W.heap[w.heap.size]? = _
    rw [HJ.out.blk (by simp [Value.ownBlock])]; exact HBB.out
  have hcs : Cells W ⟨w.heap.size, 0, none⟩ (bv BB) := by have h := hb17.cells.take 1024; rw [HKC.out] at h; exact h
  obtain ⟨bs1, hbs1⟩ : ∃ bs1, bs1 = ((bs ++ be 4 key) ++ [byteOf ((List.length (α := Dg) ds : Nat) : Int)]) := ⟨_, rfl⟩
  rw [← hbs1] at ho17
  have hl1 : bs1.length = bs.length + 5 := by rw [hbs1]; simp [be_length]
  have HO17 := Lib.hid ho17
  have HX17 := Lib.hid hx17
  have HB17 := Lib.hid hb17
  have HBS1 := Lib.hid hbs1
  have HL1 := Lib.hid hl1
  clear HJ ho17 hx17 hb17 HV HVF hbs1 hl1
  go_wp2_with (first
    | (refine wpList_load_agg _ rfl 26 (.tmp 19) rfl _ rfl (bv BB) _ Try.underlying26 rfl (szRLampL (by rw [bv_length]; exact HB.out)) hcs ?_)
    | (go_at_call 61; refine (RLamp_Lay BB v17 bs1 _ _ HB.out (OwnB.holds HO17.out) (OwnB.lt HO17.out) (by have := HL1.out; omega)).mono ?_; rintro e w21 ⟨v21, rfl, ho21, hx21, hn21⟩)
    | fail)
  have hb21 := HB17.out.keep hx21 (by simp)
  have hxw : Ext w w21 := HX17.out.trans hx21
  have hfr : ∀ b, v21.ownBlock = some b → w.heap.size + 1 ≤ b := fun b hb => by have h1 := hn21 b hb; have h2 := HB17.out.lt; omega
  have HO21 := Lib.hid ho21
  have HB21 := Lib.hid hb21
  have HXW := Lib.hid hxw
  have HFR := Lib.hid hfr
  clear ho21 hx21 hn21 hb21 hxw hfr hcs
  go_loopw [5, 6] (fun t i wr => ∃ k : Nat, k ≤ List.length (α := Dg) ds ∧ i = .int .i64 k ∧ OwnB wr t ((bs1 ++ layS BB 32) ++ List.flatMap id (ds.take k)) ∧ Ext w wr ∧ Blk wr w.heap.size 30 SC ∧ (∀ b, t.ownBlock = some b → w.heap.size + 1 ≤ b)) (fun _ i _ => List.length (α := Dg) ds - (intOf i).toNat)
  case atStart => exact ⟨0, by omega, rfl, by simpa using HO21.out, HXW.out, HB21.out, HFR.out⟩
  case round =>
    clear HO21 HXW HB21 HFR
    obtain ⟨k, hk, rfl, hot, hxt, hbt, hft⟩ := hrel
    have c1025 := (hbt.cell 1025).trans HK25.out
    by_cases hlt : k < List.length (α := Dg) ds
    · obtain ⟨ad, rfl, hf, hcells⟩ := hcell (by omega)
      obtain ⟨hcc, hdl⟩ := digs_at hall (hcells.keep (hxt.same HFW.out _ hf)) hlt
      have htk : ds.take (k + 1) = ds.take k ++ [ds[k]] := List.take_succ_eq_append_getElem hlt
      have htl : List.length (α := Dg) (ds.take k) = k := by rw [List.length_take]; omega
      have hfl : (List.flatMap id (ds.take k)).length = 32 * k := by rw [flat_digs _ (fun d hd => HDIG.out d (List.mem_of_mem_take hd)), htl]
      have hll : ((bs1 ++ layS BB 32) ++ List.flatMap id (ds.take k)).length = bs.length + 1029 + 32 * k := by rw [List.length_append, List.length_append, hfl, HLS.out, HL1.out]
      have hstep : List.flatMap id (ds.take (k + 1)) = List.flatMap id (ds.take k) ++ ds[k] := by rw [htk, List.flatMap_append]; simp
      have hdl' : (ds[k] : List UInt8).length = 32 := hdl
      generalize hdk : ds[k] = dk at *
      obtain ⟨bs2, hbs2⟩ : ∃ bs2, bs2 = (bs1 ++ layS BB 32) ++ List.flatMap id (ds.take k) := ⟨_, rfl⟩
      rw [← hbs2] at hot hll
      have HO := Lib.hid hot
      have HX2 := Lib.hid hxt
      have HB2 := Lib.hid hbt
      have HF2 := Lib.hid hft
      have HLL := Lib.hid hll
      have HST := Lib.hid hstep
      have HDL := Lib.hid hdl'
      have HBS2 := Lib.hid hbs2
      clear hot hxt hbt hft hll hstep hdl hdl' hbs2 htk htl hfl hcells hdk
      go_wp2_with (first
        | (at_builtin
           go_must (refine wpList_app _ rfl (.tmp 29) (.tmp 34) _ _ rfl 5 5 i0 _ 1 1 Try.underlying62 Try.underlying62 hi hz0 hz1 hz2 rfl (by decide) u5 _ _ rfl HO.out _ 32 32 (bv dk) rfl (by simp [HDL.out]) (fun _ => ⟨_, rfl, hcc⟩) (bv_one _) (by have := HLL.out; unfold maxLen; omega) (by have := HLL.out; omega) ?_)
           intro v8 w8 ho8 hm8)
        | fail)
      have ho8' : OwnB w8 v8 ((bs1 ++ layS BB 32) ++ List.flatMap id (ds.take (k + 1))) := by
        rw [HST.out, ← List.append_assoc, ← HBS2.out]
        exact OwnB.app (by rw [HDL.out]; exact ho8)
      have hne8 : some w.heap.size ≠ u5.ownBlock := fun e => absurd (HF2.out _ e.symm) (by omega)
      have hb8 := HB2.out.keep hm8.grown hne8
      have hx8 : Ext w w8 := grown_then HX2.out hm8.grown (.inr fun b hb => by have := HF2.out b hb; omega)
      have hf8 : ∀ b, v8.ownBlock = some b → w.heap.size + 1 ≤ b := fun b hb => by
        rcases hm8.at_ with e | hn
        · exact HF2.out b (e.symm.trans hb)
        · have h1 := hn b hb
          have h2 := HB2.out.lt
          omega
      have HO8 := Lib.hid ho8'
      have HB8 := Lib.hid hb8
      have HX8 := Lib.hid hx8
      have HF8 := Lib.hid hf8
      clear ho8 ho8' hb8 hx8 hf8 hm8
      go_roundw
      case rel => exact ⟨k + 1, by omega, by go_num, HO8.out, HX8.out, HB8.out, HF8.out⟩
      case measure => simp [intOf]; omega
    · obtain rfl : k = List.length (α := Dg) ds := by omega
      go_wp2
      go_ret
      have htk : ds.take (List.length (α := Dg) ds) = ds := List.take_length
      rw [htk] at hot
      exact ⟨_, rfl, by simpa [sigB, HBS1.out] using hot, ⟨hxt, .inr fun b hb => by have := hft b hb; omega⟩⟩
end
section

theorem beNum_consG_aux (l : List UInt8) : ∀ a : Nat, l.foldl (fun n b => n * 256 + b.toNat) a = a * 256 ^ l.length + l.foldl (fun n b => n * 256 + b.toNat) 0 := by
  induction l with
  | nil => intro a; simp
  | cons x l ih =>
    intro a
    rw [List.foldl_cons, List.foldl_cons, ih (a * 256 + x.toNat), ih (0 * 256 + x.toNat), List.length_cons, Nat.pow_succ, Nat.zero_mul, Nat.zero_add, Nat.add_mul, Nat.mul_assoc, Nat.mul_comm 256, Nat.add_assoc]
theorem beNum_consG (x : UInt8) (l : List UInt8) : beNum (x :: l) = x.toNat * 256 ^ l.length + beNum l := by
  show List.foldl _ _ (x :: l) = _
  rw [List.foldl_cons, beNum_consG_aux, Nat.zero_mul, Nat.zero_add]; rfl
theorem beNum_beG (k n : Nat) : beNum (be k n) = n % 256 ^ k := by
  induction k with
  | zero => simp [be, beNum, Nat.mod_one]
  | succ k ih =>
    rw [be, beNum_consG, be_length, ih, UInt8.toNat_ofNat', show (2 : Nat) ^ 8 = 256 from rfl]
    have h : n % 256 ^ (k + 1) = n % 256 ^ k + 256 ^ k * (n / 256 ^ k % 256) := Nat.mod_pow_succ
    rw [h, Nat.mul_comm, Nat.add_comm]
theorem cutM_front (a r : List UInt8) {n : Nat} (h : a.length = n) : cutM n (a ++ r, 0) = (a, (r, 0)) := by
  unfold cutM
  rw [if_neg (by simp), if_neg (by show ¬ (a ++ r).length < n; rw [List.length_append]; omega)]
  show ((a ++ r).take n, ((a ++ r).drop n, (0 : Int))) = _
  rw [List.take_left' h, List.drop_left' h]
theorem numM_front (a r : List UInt8) {n : Nat} (h : a.length = n) : numM n (a ++ r, 0) = (beNum a, (r, 0)) := by
  unfold numM
  rw [cutM_front a r h]
theorem sumM_front (a r : List UInt8) (h : a.length = 32) : sumM (a ++ r, 0) = (a, (r, 0)) := by
  unfold sumM
  rw [cutM_front a r h]
  simp [h]
theorem stT_shift (s : InS) : ∀ k, stT s (k + 1) = stT (sumM s).2 k
  | 0 => rfl
  | k + 1 => by
    show (sumM (stT s (k + 1))).2 = (sumM (stT (sumM s).2 k)).2
    rw [stT_shift s k]
theorem wayT_shift (s : InS) (k : Nat) : wayT s (k + 1) = (sumM s).1 :: wayT (sumM s).2 k := by
  unfold wayT
  rw [List.range_succ_eq_map, List.map_cons, List.map_map]
  congr 1
  refine List.map_congr_left fun i _ => ?_
  show (sumM (stT s (i + 1))).1 = _
  rw [stT_shift]
theorem way_back : ∀ (ds : List Dg) (r : List UInt8), (∀ d ∈ ds, List.length (α := UInt8) d = 32) → wayT (List.flatMap id ds ++ r, 0) (List.length (α := Dg) ds) = ds ∧ stT (List.flatMap id ds ++ r, 0) (List.length (α := Dg) ds) = (r, 0)
  | [], r, _ => ⟨rfl, rfl⟩
  | d :: ds, r, h => by
    have hd : sumM (List.flatMap id (d :: ds) ++ r, 0) = (d, (List.flatMap id ds ++ r, 0)) := by
      show sumM ((d ++ List.flatMap id ds) ++ r, 0) = _
      rw [List.append_assoc]
      exact sumM_front d _ (h d (by simp))
    obtain ⟨h1, h2⟩ := way_back ds r fun x hx => h x (by simp [hx])
    constructor
    · show wayT _ (List.length (α := Dg) ds + 1) = _
      rw [wayT_shift, hd]
      show d :: wayT (List.flatMap id ds ++ r, 0) (List.length (α := Dg) ds) = _
      rw [h1]
    · show stT _ (List.length (α := Dg) ds + 1) = _
      rw [stT_shift, hd]
      exact h2
theorem sum_front (S r : List UInt8) (hS : S.length = 1024) {k : Nat} (hk : k < 32) : (sumM (stT (layS S 32 ++ r, 0) k)).1 = pairM S k := by
  have hl : (layS S 32).length = 1024 := layS_len hS 32 (Nat.le_refl _)
  have hp : (pairM S k).length = 32 := by
    unfold pairM
    rw [List.length_append, List.length_take, List.length_take, List.length_drop, List.length_drop, hS]; omega
  have h1 := layS_at S hS hk
  rw [stT_ok, if_pos (by rw [List.length_append]; omega), List.drop_append_of_le_length (by omega)]
  have h2 : (layS S 32).drop (32 * k) ++ r = pairM S k ++ (((layS S 32).drop (32 * k)).drop 32 ++ r) := by
    rw [← h1, ← List.append_assoc, List.take_append_drop]
  rw [h2, sumM_front _ _ hp]
theorem takeS_front (S r : List UInt8) (hS : S.length = 1024) : takeS (layS S 32 ++ r, 0) = S := by
  have h := takeS_back S hS
  have h1 : ∀ k, k < 32 → takeO (layS S 32 ++ r, 0) k = takeO (layS S 32, 0) k := fun k hk => by
    unfold takeO
    rw [sum_front S r hS hk, sum_at S hS hk]
  have h2 : ∀ k, k < 32 → takeT (layS S 32 ++ r, 0) k = takeT (layS S 32, 0) k := fun k hk => by
    unfold takeT
    rw [sum_front S r hS hk, sum_at S hS hk]
  have e : takeS (layS S 32 ++ r, 0) = takeS (layS S 32, 0) := by
    unfold takeS
    rw [piecesM_congr 32 h1, piecesM_congr 32 h2]
  exact e.trans h
theorem stT_front (S r : List UInt8) (hS : S.length = 1024) : stT (layS S 32 ++ r, 0) 32 = (r, 0) := by
  have hl : (layS S 32).length = 1024 := layS_len hS 32 (Nat.le_refl _)
  rw [stT_ok, if_pos (by rw [List.length_append]; omega), List.drop_left' (by omega)]
theorem ring_back (S : List UInt8) (hS : S.length = 1024) (key : Nat) (hk : key < 4294967296) (ds : List Dg) (hds : ∀ d ∈ ds, List.length (α := UInt8) d = 32) (hn : List.length (α := Dg) ds ≤ 8) :
    tkE (sigB S key ds, 0) = ([], 0) ∧ tkS (sigB S key ds, 0) = S ∧ tkK (sigB S key ds, 0) = key ∧ tkW (sigB S key ds, 0) = ds := by
  have hsg : sigB S key ds = be 4 key ++ ([byteOf ((List.length (α := Dg) ds : Nat) : Int)] ++ (layS S 32 ++ List.flatMap id ds)) := by unfold sigB; rw [List.singleton_append]
  have hb : (byteOf ((List.length (α := Dg) ds : Nat) : Int)).toNat = List.length (α := Dg) ds := by
    have e := byteOf_eq ((List.length (α := Dg) ds : Nat) : Int)
    omega
  have hsf := stT_front S (List.flatMap id ds) hS
  have htf := takeS_front S (List.flatMap id ds) hS
  obtain ⟨h4, h5⟩ := way_back ds [] hds
  rw [List.append_nil] at h4 h5
  generalize sigB S key ds = L at *
  generalize byteOf ((List.length (α := Dg) ds : Nat) : Int) = B1 at *
  generalize hR : layS S 32 ++ List.flatMap id ds = R at *
  generalize hFl : List.flatMap id ds = Fl at *
  have h1 : numM 4 (L, 0) = (key, ([B1] ++ R, 0)) := by
    have h256 : key < 256 ^ 4 := by rw [show (256 : Nat) ^ 4 = 4294967296 from by decide]; exact hk
    rw [hsg, numM_front _ _ (be_length 4 key), beNum_beG, Nat.mod_eq_of_lt h256]
  have h2 : numM 1 ([B1] ++ R, 0) = (List.length (α := Dg) ds, (R, 0)) := by
    rw [numM_front [B1] R (n := 1) rfl, beNum_consG, hb]
    simp [beNum]
  have h3 : manyM 8 ([B1] ++ R, 0) = ((List.length (α := Dg) ds : Int), (R, 0)) := by
    unfold manyM
    rw [h2, if_neg (by simp; omega)]
  have hP : tkP (L, 0) = (Fl, 0) := by
    unfold tkP
    rw [h1, h3]
    exact hsf
  have hN : manyN (numM 4 (L, 0)).2 = List.length (α := Dg) ds := by
    unfold manyN
    rw [h1, h3]
    simp
  have hE : tkE (L, 0) = ([], 0) := by
    unfold tkE
    rw [hP, hN, h5]
  refine ⟨hE, ?_, ?_, ?_⟩
  · unfold tkS
    rw [hE, if_pos rfl, h1, h3]
    exact htf
  · unfold tkK
    rw [hE, if_pos rfl, h1]
  · unfold tkW
    rw [hE, if_pos rfl, hP, hN, h4]
theorem sigB_len (S : List UInt8) (hS : S.length = 1024) (key : Nat) (ds : List Dg) (hds : ∀ d ∈ ds, List.length (α := UInt8) d = 32) : (sigB S key ds).length = 1029 + 32 * List.length (α := Dg) ds := by
  unfold sigB
  rw [List.length_append, be_length, List.length_cons, List.length_append, layS_len hS 32 (Nat.le_refl _), flat_digs ds hds]
  omega
end
section
open Go.RowKit

theorem sigC_put {C D : List Value} (h : C.length = 1024) (h' : D.length = 1024) {key : Nat} {v : Value} : putAt (sigC C key v) 0 D = sigC D key v := by
  unfold putAt sigC
  rw [List.take_zero, h', List.drop_append_of_le_length (by omega), List.drop_of_length_le (by omega)]
  simp
theorem fill_key (key : Nat) : fillL ([(0, 1024), (1024, 1), (1025, 1)].toArray[·]?) zSig [(1, [.int .u32 (key : Int)])] = some (sigC (bv (List.replicate 1024 0)) key (.slice none 0 0)) := by
  have hl : (bv (List.replicate 1024 (0 : UInt8))).length = 1024 := by rw [bv_length, List.length_replicate]
  have hz := zSig_len
  unfold zSig at *
  generalize bv (List.replicate 1024 (0 : UInt8)) = ZB at *
  have e : (sigC ZB 0 (.slice none 0 0)).take 1024 ++ [Value.int .u32 (key : Int)] ++ (sigC ZB 0 (.slice none 0 0)).drop (1024 + 1) = sigC ZB key (.slice none 0 0) := by
    rw [sigC_take hl]
    have e2 : (sigC ZB 0 (.slice none 0 0)).drop (1024 + 1) = [.slice none 0 0] := by
      unfold sigC
      rw [List.drop_append, List.drop_of_length_le (by omega), hl]
      rfl
    rw [e2]
    simp [sigC]
  simp only [fillL]
  simp [hz, e]
theorem ownD_row {e : TypeId} {w : World} {v : Value} {ds : List Dg} {g : Nat} {cs : Array Value} (h : OwnD e w v ds) (hg : ∀ b, v.ownBlock = some b → b ≠ g) : OwnD e (w.setRow g cs) v ds :=
  ⟨h.1, h.2.keep (row := some g) (setRow_only _) (by
    cases hvb : v.ownBlock with
    | none => exact .inl rfl
    | some b => exact .inr (by have := hg b hvb; simpa using this))⟩
theorem zSig_built : Try.prog.built 39 [] = some zSig.toArray := by
  have e : zSig = List.replicate 1024 (Value.int .u8 0) ++ [Value.int .u32 0, Value.slice none 0 0] := by
    unfold zSig sigC bv
    rw [List.map_replicate]
    rfl
  refine Eq.trans (b := some (List.replicate 1024 (Value.int .u8 0) ++ [Value.int .u32 0, Value.slice none 0 0]).toArray) (by kernel_rfl) (by rw [e])
end
section
open Go.RowKit

set_option maxRecDepth 100000 in
set_option maxHeartbeats 8000000 in
theorem Ring_Take {w : World} {g q : Nat} {s : InS} (h : InAt w g q s) :
    Calls Try.prog 28 #[.pointer (some ⟨g, 0, none⟩)] w fun e w' => ∃ v, e = .returned (.agg (sigC (bv (tkS s)) (tkK s) v).toArray) ∧ OwnD 55 w' v (tkW s) ∧ InAt w' g q (tkE s) ∧ w.grownBy w' (some g) ∧ ∀ b, v.ownBlock = some b → w.heap.size < b := by
  obtain ⟨i1, z1, hi1, hz1, hi2, hi3, hi4⟩ := partsTo05
  obtain ⟨fields, hfu, hfp⟩ := fieldsTo05
  obtain ⟨ZR, hzr, hzl, hzo, hbu, hzs, hfl⟩ : ∃ ZR : List Value, (Try.prog.info? 39).bind (fun i => i.zero.map (·.cells)) = some ZR.toArray ∧ ZR.length = 1026 ∧ (∀ u ∈ ZR, u.oneCell' = true) ∧ Try.prog.built 39 [] = some ZR.toArray ∧ ZR = sigC (bv (List.replicate 1024 0)) 0 (.slice none 0 0) ∧ ∀ key : Nat, fillL ([(0, 1024), (1024, 1), (1025, 1)].toArray[·]?) ZR [(1, [.int .u32 (key : Int)])] = some (sigC (bv (List.replicate 1024 0)) key (.slice none 0 0)) :=
    ⟨zSig, zSig_zero, zSig_len, zSig_one, zSig_built, rfl, fun key => fill_key key⟩
  have hzbl : (bv (List.replicate 1024 (0 : UInt8))).length = 1024 := by rw [bv_length, List.length_replicate]
  have hzbo := bv_one (List.replicate 1024 (0 : UInt8))
  have hp : PIn w.heap.size w g q s := ⟨h, h.lt, by obtain ⟨_, hq, _⟩ := h; exact hq⟩
  have hp0 : PIn w.heap.size (w.alloc (.cells ZR.toArray 39)) g q s := hp.far ((Ext.refl w).alloc _) (by simp)
  have hbz0 : Blk (w.alloc (.cells ZR.toArray 39)) w.heap.size 39 ZR := Blk.new _ _ _
  have hgl : (bv (takeS (manyM 8 (numM 4 s).2).2)).length = 1024 := by rw [bv_length]; exact takeS_length _
  have hgo := bv_one (takeS (manyM 8 (numM 4 s).2).2)
  have hkl : (numM 4 s).1 < 4294967296 := numM_lt 4 s
  have hmn := manyN_eq (numM 4 s).2
  have hm8 := manyN_le (numM 4 s).2
  have he : tkE s = stT (stT (manyM 8 (numM 4 s).2).2 32) (manyN (numM 4 s).2) := rfl
  have hS : tkS s = if (tkE s).2 = 0 then takeS (manyM 8 (numM 4 s).2).2 else List.replicate 1024 0 := rfl
  have hK : tkK s = if (tkE s).2 = 0 then (numM 4 s).1 else 0 := rfl
  have hW : tkW s = if (tkE s).2 = 0 then wayT (stT (manyM 8 (numM 4 s).2).2 32) (manyN (numM 4 s).2) else [] := rfl
  have hsw : (Lit.int .i64 (tkE s).2).wf = true → True := fun _ => trivial
  have hfour := hp0.four
  have hmany := fun W (h : PIn w.heap.size W g q (numM 4 s).2) => h.many
  have htake := fun W (h : PIn w.heap.size W g q (manyM 8 (numM 4 s).2).2) => h.take
  rw [hmn] at hmany
  generalize tkE s = s4 at *
  generalize manyN (numM 4 s).2 = n at *
  generalize takeS (manyM 8 (numM 4 s).2).2 = SB at *
  generalize (manyM 8 (numM 4 s).2).2 = s2 at *
  generalize (numM 4 s).2 = s1 at *
  generalize (numM 4 s).1 = key at *
  generalize stT s2 32 = s3 at *
  generalize tkS s = RS at *
  generalize tkK s = RK at *
  generalize tkW s = RW at *
  obtain ⟨SG, hSG⟩ : ∃ SG, SG = bv SB := ⟨_, rfl⟩
  rw [← hSG] at hgl hgo htake
  obtain ⟨ZB, hZB⟩ : ∃ ZB, ZB = bv (List.replicate 1024 (0 : UInt8)) := ⟨_, rfl⟩
  rw [← hZB] at hzbl hzbo hzs hfl
  have HFOUR := Lib.hid hfour
  have HMANY := Lib.hid hmany
  have HTAKE := Lib.hid htake
  have HZL := Lib.hid hzl
  have HBU := Lib.hid hbu
  have HZS := Lib.hid hzs
  have HFL := Lib.hid hfl
  have HZBL := Lib.hid hzbl
  have HZBO := Lib.hid hzbo
  have HGL := Lib.hid hgl
  have HGO := Lib.hid hgo
  have HSG := Lib.hid hSG
  have HZB := Lib.hid hZB
  have HN8 := Lib.hid hm8
  have HS4 := Lib.hid he
  have HRS := Lib.hid hS
  have HRK := Lib.hid hK
  have HRW := Lib.hid hW
  have HP0 := Lib.hid hp0
  have HBZ0 := Lib.hid hbz0
  have hgw : g < w.heap.size := hp.hg
  clear h hbu hfour hmany htake hzl hzs hfl hzbl hzbo hgl hgo hSG hZB hm8 he hS hK hW hp0 hp hmn hsw hbz0
  go_enter Try.func28, Try.ntmps28
  go_wp2_with (first
    | ((with_reducible refine wpDst 2 rfl ?_); refine wpList_alloc _ rfl 39 rfl _ hzr ?_)
    | fail)
  refine HFOUR.out.mono ?_
  rintro e w1 ⟨rfl, hp1, hg1⟩
  have HP1 := Lib.hid (hp1.far ((Ext.refl w1).alloc (.cells (sigC ZB key (.slice none 0 0)).toArray 39)) (by simp))
  have hmz := sigC_len HZBL.out key (.slice none 0 0)
  have hmo : ∀ u ∈ sigC ZB key (.slice none 0 0), u.oneCell' = true := sigC_one HZBO.out _ _ _ _
  have HBZ1 : Hid (Blk w1 w.heap.size 39 ZR) := Lib.hid (HBZ0.out.keep hg1 (by simp; omega))
  have HG1 : Hid (w.grownBy w1 (some g)) := Lib.hid (grown_new hg1)
  obtain ⟨MZ, hMZ⟩ : ∃ MZ, MZ = sigC ZB key (.slice none 0 0) := ⟨_, rfl⟩
  have HFK := Lib.hid (HFL.out key)
  rw [← hMZ] at HP1 hmz hmo HFK
  have HMZ := Lib.hid hMZ
  have HMZL := Lib.hid hmz
  clear hp1 hg1 hMZ hmz HFOUR HP0 HBZ0
  go_wp2_with (first
    | ((with_reducible refine wpDst 7 rfl ?_); go_must (refine wpList_build_st (.inl rfl) 39 #[(1, .tmp 6)] rfl fields ZR MZ _ [(1, [.int .u32 (key : Int)])] hfu hzr hfp (by simp [Value.cells, Act.eval]) HFK.out ?_))
    | ((with_reducible refine wpDst 3 rfl ?_); refine wpList_alloc _ rfl 39 rfl _ hzr ?_)
    | ((with_reducible refine wpSto 3 7 rfl ?_); refine wpList_storeN rfl 39 (.tmp 3) (.tmp 7) rfl w1 rfl ZR MZ 39 rfl rfl (szOutTo05 HMZL.out) (by rw [HMZL.out, HZL.out]) hmo ?_)
    | fail)
  refine (HMANY.out _ HP1.out).mono ?_
  rintro e w2 ⟨rfl, hp2, hg2⟩
  obtain ⟨sb, hsb⟩ : ∃ sb, sb = w1.heap.size := ⟨_, rfl⟩
  have HSB : Hid (w.heap.size < sb) := Lib.hid (by rw [hsb]; exact HBZ1.out.lt)
  have hxa : Ext w1 (w1.alloc (.cells MZ.toArray 39)) := (Ext.refl w1).alloc _
  have hbs2 : Blk w2 sb 39 (sigC ZB key (.slice none 0 0)) := by
    rw [hsb, ← HMZ.out]
    exact (Blk.new w1 39 MZ).keep hg2 (by have := HSB.out; simp; omega)
  have hbz2 : Blk w2 w.heap.size 39 ZR := (HBZ1.out.keep hxa (by simp)).keep hg2 (by simp; omega)
  have hgr2 : w.grownBy w2 (some g) := (HG1.out.trans (hxa.any _)).trans hg2
  rw [← hsb]
  have HBS2 := Lib.hid hbs2
  have HBZ2 := Lib.hid hbz2
  have HG2 := Lib.hid hgr2
  have HP2 := Lib.hid hp2
  clear hp2 hg2 hxa hbs2 hbz2 hgr2 HBZ1 HG1 HP1 HFK HMZ HMZL hmo hsb HMANY
  go_wp2_with fail
  refine (HTAKE.out _ HP2.out).mono ?_
  rintro e w3 ⟨rfl, hp3, hg3⟩
  have hbs3 := HBS2.out.keep hg3 (by have := HSB.out; simp; omega)
  have hput : putAt (sigC ZB key (.slice none 0 0)) 0 SG = sigC SG key (.slice none 0 0) := sigC_put HZBL.out HGL.out
  have hsl0 := sigC_len HZBL.out key (.slice none 0 0)
  have hbs4 : Blk (w3.setRow sb (sigC SG key (.slice none 0 0)).toArray) sb 39 (sigC SG key (.slice none 0 0)) := setRow_at hbs3
  have HBZ : Hid (Blk (w3.setRow sb (sigC SG key (.slice none 0 0)).toArray) w.heap.size 39 ZR) := Lib.hid ((HBZ2.out.keep hg3 (by simp; omega)).keep (setRow_only _) (by have := HSB.out; simp; omega))
  have HG0 : Hid (w.grownBy (w3.setRow sb (sigC SG key (.slice none 0 0)).toArray) (some g)) := Lib.hid (grown_then (HG2.out.trans hg3) (setRow_only (g := sb) _) (.inr (by rintro b ⟨⟩; have := HSB.out; omega)))
  have HIN0 : Hid (PIn w.heap.size (w3.setRow sb (sigC SG key (.slice none 0 0)).toArray) g q s3) := Lib.hid (hp3.far (setRow_only (g := sb) _) (by rintro b ⟨⟩; have := HSB.out; omega))
  have HBS0 := Lib.hid hbs4
  obtain ⟨M0, hM0⟩ : ∃ M0, M0 = sigC ZB key (.slice none 0 0) := ⟨_, rfl⟩
  rw [← hM0] at hput hbs3 hsl0
  rw [← hput] at HBS0 HBZ HG0 HIN0
  have HPUT := Lib.hid hput
  have HBS3 := Lib.hid hbs3
  have HSL0 := Lib.hid hsl0
  clear hp3 hg3 hbs3 hput hsl0 hbs4 HBS2 HBZ2 HG2 HP2 hM0 HTAKE
  go_wp2_with (first
    | ((with_reducible refine wpSto 12 11 rfl ?_); go_must (refine wpList_store_part _ rfl 36 (.tmp 12) (.tmp 11) rfl sb 0 rfl M0 SG 39 rfl (by exact HBS3.out) (tsig_size HGL.out) (by rw [HGL.out, HSL0.out]; decide) HGO.out ?_))
    | fail)
  rw [HPUT.out] at HBS0 HBZ HG0 HIN0 ⊢
  generalize w3.setRow sb (sigC SG key (.slice none 0 0)).toArray = w4 at *
  go_loopw [14] (fun i wr => ∃ (k : Nat) (v : Value), k ≤ n ∧ i = .int .i64 k ∧ w.grownBy wr (some g) ∧ Blk wr w.heap.size 39 ZR ∧ Blk wr sb 39 (sigC SG key v) ∧ OwnD 55 wr v (wayT s3 k) ∧ (∀ b, v.ownBlock = some b → w.heap.size < b ∧ b ≠ sb) ∧ PIn w.heap.size wr g q (stT s3 k)) (fun i _ => n - (intOf i).toNat)
  case atStart => exact ⟨0, _, by omega, rfl, HG0.out, HBZ.out, HBS0.out, ⟨by simp [wayT], Own.nil _ _ _⟩, by simp [Value.ownBlock], HIN0.out⟩
  case round =>
    obtain ⟨k, v, hk, rfl, hgr, hbz, hbs, hov, hfar, hin⟩ := hrel
    clear HG0 HBZ HBS0 HIN0
    by_cases hlt : k < n
    · have hyl : (bv (sumM (stT s3 k)).1).length = 32 := by rw [bv_length]; exact sumM_length _
      have hyd := sumM_length (stT s3 k)
      have hyo := bv_one (sumM (stT s3 k)).1
      have hwt := wayT_succ s3 k
      have hwl := wayT_length s3 k
      have how : Own wr.drew 55 32 v k ((wayT s3 k).flatMap bv) := by have h := (hov.ext (Ext.refl wr).drew).2; rw [hwl] at h; exact h
      have hng : v.ownBlock = none ∨ v.ownBlock ≠ some g := by
        refine .inr fun e => ?_
        have h1 := hfar g e
        have h2 := hin.hg
        omega
      have HIN : Hid (PIn w.heap.size wr.drew g q (stT s3 k)) := Lib.hid (hin.far (Ext.refl wr).drew (by simp))
      have hst : stT s3 (k + 1) = (sumM (stT s3 k)).2 := rfl
      have HLOW := Lib.hid (show k ≤ 8 by have := HN8.out; omega)
      have HST := Lib.hid hst
      have HWT := Lib.hid hwt
      have HWL := Lib.hid hwl
      have HYL := Lib.hid hyl
      have HYD := Lib.hid hyd
      have HOW := Lib.hid how
      have HNG := Lib.hid hng
      have HFAR := Lib.hid hfar
      have HOV := Lib.hid hov
      have HGR := Lib.hid hgr
      have HBZ : Hid (Blk wr.drew w.heap.size 39 ZR) := Lib.hid hbz
      have HBS : Hid (Blk wr.drew sb 39 (sigC SG key v)) := Lib.hid hbs
      have HSW : Hid (wr.drew.cell? ⟨sb, 1025, none⟩ = some v) := Lib.hid ((HBS.out.cell 1025).trans (sigC_way HGL.out key v))
      have HG1 : Hid (w.grownBy wr.drew (some g)) := Lib.hid (hgr.trans ((Ext.refl wr).drew.any _))
      obtain ⟨Yd, hYd⟩ : ∃ Yd, Yd = (sumM (stT s3 k)).1 := ⟨_, rfl⟩
      rw [← hYd] at HWT HYL HYD hyo
      have HSUM : Hid (∀ W, PIn w.heap.size W g q (stT s3 k) → Calls Try.prog 51 #[.pointer (some ⟨g, 0, none⟩)] W fun r w' => r = .returned (.agg (bv Yd).toArray) ∧ PIn w.heap.size w' g q (sumM (stT s3 k)).2 ∧ W.grownBy w' (some g)) := Lib.hid fun W h => by rw [hYd]; exact h.sum
      obtain ⟨Y, hY⟩ : ∃ Y, Y = bv Yd := ⟨_, rfl⟩
      rw [← hY] at HSUM HYL hyo
      have HY := Lib.hid hY
      clear hyl hyd hwt hwl how hng hst hfar hov hgr hbz hbs hin hYd hY
      go_wp2_with fail
      refine startL 7 (KeepB fun b => b = sb) (by kernel_rfl) ?_
      (try simp only [Act.put, List.setIfInBounds_toArray, List.set_cons_succ, List.set_cons_zero])
      generalize wr.drew = w0 at *
      refine takeN (fun _ _ _ => rfl) 0 rfl (by kernel_rfl) (by kernel_rfl) (by kernel_rfl) rfl (fun _ _ _ _ h => h) rfl (fun K hK => ?_)
      go_big_quiet_op
      first | refine hK _ ?_ | refine ⟨_, fun _ _ => rfl, hK _ ?_⟩
      clear hK K
      refine takeL (fun _ _ _ => rfl) (fun _ _ _ h1 h2 b hb => (h2 b hb).trans (h1 b hb)) 1 [7] rfl (by kernel_rfl) (by kernel_rfl) (by kernel_rfl) (by kernel_rfl) rfl (fun _ _ _ _ h => h) rfl (fun K hK => ?_)
      refine quiet_cell _ _ rfl _ rfl _ _ Try.underlying37 rfl (fun W' h => KeepB.cell h HSW.out rfl) ?_
      refine hK _ ?_
      simp only [Act.put, List.setIfInBounds_toArray, List.set_cons_succ, List.set_cons_zero]
      clear hK K
      refine takeN (fun _ _ _ => rfl) 2 rfl (by kernel_rfl) (by kernel_rfl) (by kernel_rfl) rfl (fun _ _ _ _ h => h) rfl (fun K hK => ?_)
      go_big_quiet_op
      first | refine hK _ ?_ | refine ⟨_, fun _ _ => rfl, hK _ ?_⟩
      clear hK K
      refine stepL 3 rfl (by kernel_rfl) rfl (fun K hK => ?_)
      go_simp
      refine (HSUM.out _ HIN.out).mono ?_
      rintro e w6 ⟨rfl, hin6, hg6⟩
      refine hK _ _ (fun _ b hb => by subst hb; exact hg6.block _ HBS.out.lt (by have := HSB.out; have := HIN.out.hg; simp; omega)) ?_
      clear hK K
      refine stepL 4 rfl (by kernel_rfl) rfl (fun K hK => ?_)
      refine wp_one w6 37 (.tmp 19) rfl 55 Y Try.underlying37 rfl (digest_size HYL.out) zEbTo05 (by rw [HYL.out]; decide) (by rw [HYL.out]; decide) ?_
      refine hK _ _ (fun _ b hb => by subst hb; exact ((Ext.refl w6).alloc _).block _ (Nat.lt_of_lt_of_le HBS.out.lt hg6.size) (by simp)) ?_
      clear hK K
      (try simp only [Act.put, List.setIfInBounds_toArray, List.set_cons_succ, List.set_cons_zero])
      refine stepL 5 rfl (by kernel_rfl) rfl (fun K hK => ?_)
      refine wp_app _ (.tmp 17) (.tmp 20) _ _ rfl 55 55 i1 z1 32 32 Try.underlying37 Try.underlying37 hi1 hz1 hi2 hi3 hi4 (by decide) v _ _ rfl ((HOW.out.keep hg6 (HNG.out)).ext ((Ext.refl w6).alloc _)) _ 1 1 Y rfl (by rw [HYL.out]) (src_at rfl Y _ 1) hyo (by have := HLOW.out; unfold maxLen; omega) (by have := HLOW.out; omega) ?_
      intro v7 w7 ho7 hm7
      obtain ⟨A7, c7, hv7⟩ := Own.form ho7
      subst hv7
      refine hK _ _ (fun _ b hb => by subst hb; exact hm7.grown.block _ (by have h1 := HBS.out.lt; have h2 := hg6.size; simp; omega) (fun e => (HFAR.out _ e.symm).2 rfl)) ?_
      clear hK K
      (try simp only [Act.put, List.setIfInBounds_toArray, List.set_cons_succ, List.set_cons_zero])
      refine takeN (fun _ _ _ => rfl) 6 rfl (by kernel_rfl) (by kernel_rfl) (by kernel_rfl) rfl (fun _ _ _ _ h => h) rfl (fun K hK => ?_)
      go_big_quiet_op
      first | refine hK _ ?_ | refine ⟨_, fun _ _ => rfl, hK _ ?_⟩
      clear hK K
      refine stepL 7 rfl (by kernel_rfl) rfl (fun K hK => ?_)
      have HB7 := Lib.hid (((HBS.out.keep hg6 (by have := HSB.out; have := HIN.out.hg; simp; omega)).keep ((Ext.refl w6).alloc (.cells Y.toArray 55)) (by simp)).keep hm7.grown (fun e => (HFAR.out _ e.symm).2 rfl))
      have s9 : w7.cell? ⟨sb, 1025, none⟩ = some v := (HB7.out.cell 1025).trans (sigC_way HGL.out key v)
      have f9 : w7.frozen? ⟨sb, 1025, none⟩ = false := HB7.out.free 1025
      go_simp
      refine hK _ _ (fun h => absurd rfl h) ?_
      clear hK K
      refine doneL (by kernel_rfl) ?_ _
      have hxa : Ext w6 (w6.alloc (.cells Y.toArray 55)) := (Ext.refl w6).alloc _
      have far7 : ∀ b, (Value.slice A7 (k + 1) c7).ownBlock = some b → w.heap.size < b ∧ b ≠ sb := fun b hb => by
        rcases hm7.at_ with e | hn
        · exact HFAR.out b (e.symm.trans hb)
        · have h1 := hn b hb
          have h2 := HBS.out.lt
          have h3 := HBZ.out.lt
          have h4 := hg6.size
          simp at h1
          exact ⟨by omega, by omega⟩
      have hg8 : w.grownBy (w7.setCell ⟨sb, 1025, none⟩ (.slice A7 (k + 1) c7)) (some g) := grown_then (grown_then (grown_then (HG1.out.trans hg6) (hxa.any _) (.inl rfl)) hm7.grown (.inr fun x hx => by have := HFAR.out x hx; omega)) (only_set 1025 _) (.inr (by rintro b ⟨⟩; have := HSB.out; omega))
      have hbz8 : Blk (w7.setCell ⟨sb, 1025, none⟩ (.slice A7 (k + 1) c7)) w.heap.size 39 ZR := (((HBZ.out.keep hg6 (by have := HIN.out.hg; simp; omega)).keep hxa (by simp)).keep hm7.grown (fun e => by have := HFAR.out _ e.symm; omega)).keep (only_set 1025 _) (by have := HSB.out; simp; omega)
      have hbs8 : Blk (w7.setCell ⟨sb, 1025, none⟩ (.slice A7 (k + 1) c7)) sb 39 (sigC SG key (.slice A7 (k + 1) c7)) := by
        have := HB7.out.set 1025 (.slice A7 (k + 1) c7)
        rwa [sigC_set HGL.out] at this
      have ho8 : OwnD 55 (w7.setCell ⟨sb, 1025, none⟩ (.slice A7 (k + 1) c7)) (.slice A7 (k + 1) c7) (wayT s3 (k + 1)) := by
        rw [HWT.out]
        refine ⟨fun d hd => ?_, ?_⟩
        · rcases List.mem_append.1 hd with hd | hd
          · exact HOV.out.1 d hd
          · rw [List.mem_singleton.1 hd]; exact HYD.out
        · have e1 : ((wayT s3 k) ++ [Yd]).flatMap bv = (wayT s3 k).flatMap bv ++ Y := by rw [HY.out]; simp
          have e2 : List.length (α := Dg) ((wayT s3 k) ++ [Yd]) = k + 1 := by rw [List.length_append, HWL.out]; rfl
          rw [e1, e2]
          refine ho7.keep (row := some sb) (only_set 1025 _) ?_
          cases hvb : (Value.slice A7 (k + 1) c7).ownBlock with
          | none => exact .inl rfl
          | some b => exact .inr (by have := (far7 b hvb).2; simpa using this)
      have hin8 : PIn w.heap.size (w7.setCell ⟨sb, 1025, none⟩ (.slice A7 (k + 1) c7)) g q (stT s3 (k + 1)) := by
        rw [HST.out]
        exact ((hin6.far hxa (by simp)).far hm7.grown (fun b hb => by have := HFAR.out b hb; omega)).far (only_set (g := sb) 1025 _) (by rintro b ⟨⟩; have := HSB.out; omega)
      have HG8 := Lib.hid hg8
      have HBZ8 := Lib.hid hbz8
      have HBS8 := Lib.hid hbs8
      have HO8 := Lib.hid ho8
      have HF8 := Lib.hid far7
      have HIN8 := Lib.hid hin8
      clear hg8 hbz8 hbs8 ho8 far7 hin8 hxa s9 f9 ho7 hm7 HB7 hg6 hin6
      generalize w7.setCell ⟨sb, 1025, none⟩ (.slice A7 (k + 1) c7) = w8 at *
      have hk8 : k < 8 := by have := HN8.out; omega
      (try simp only [Exit.then])
      go_wp2_with fail
      go_roundw
      case rel => exact ⟨k + 1, _, by omega, by go_num, HG8.out, HBZ8.out, HBS8.out, HO8.out, HF8.out, HIN8.out⟩
      case measure => simp [intOf]; omega
    · obtain rfl : k = n := by omega
      have he9 := HS4.out
      have HEW := Lib.hid (wayT_length s3 k)
      obtain ⟨A9, c9, hv9⟩ := hov.2.form
      have hml := sigC_len HGL.out key v
      have hmone : ∀ u ∈ sigC SG key v, u.oneCell' = true := by rw [hv9]; exact sigC_one HGO.out _ _ _ _
      obtain ⟨M, hM⟩ : ∃ M, M = sigC SG key v := ⟨_, rfl⟩
      rw [← hM] at hbs hml hmone
      have HM := Lib.hid hM
      have HML := Lib.hid hml
      have HGR := Lib.hid hgr
      have HBZ := Lib.hid hbz
      have HBS := Lib.hid hbs
      have HOV := Lib.hid hov
      have HFAR := Lib.hid hfar
      have HIN := Lib.hid hin
      clear hv9 hml hM hgr hbz hbs hov hfar hin
      go_wp2_with fail
      refine (HIN.out.bad).mono ?_
      rintro e w9 ⟨rfl, rfl⟩
      obtain ⟨l4, b4⟩ := s4
      rw [← he9] at HIN ⊢
      by_cases hb4 : b4 = 0
      · subst hb4
        go_wp2_with (first
          | ((with_reducible refine wpDst 28 rfl ?_); refine wpList_load_agg _ rfl 39 (.tmp 3) rfl _ rfl M _ Try.underlying39 rfl (szOutTo05 HML.out) (by exact HBS.out.cells) ?_)
          | ((with_reducible refine wpSto 2 28 rfl ?_); refine wpList_store_row _ rfl 39 (.tmp 2) (.tmp 28) rfl w.heap.size rfl ZR M 39 rfl (by exact HBZ.out) (szOutTo05 HML.out) (by rw [HML.out, HZL.out]) hmone ?_)
          | fail)
        have hc9 := Blk.cells (t := 39) (setRow_at (cs' := M.toArray) HBZ.out)
        (try simp only [Exit.inBlock, Exit.then])
        refine bodyPost_ret (results_agg rfl _ _ _ _ _ rfl Try.underlying39 rfl (szOutTo05 HML.out) hc9) rfl ?_
        refine ⟨v, by rw [HM.out, HRS.out, HRK.out, if_pos trivial, if_pos trivial, HSG.out], by rw [HRW.out, if_pos trivial]; exact ownD_row HOV.out (fun b hb => by have := HFAR.out b hb; omega), (HIN.out.far (setRow_only (g := w.heap.size) _) (by rintro b ⟨⟩; omega)).at_, grown_then HGR.out (setRow_only (g := w.heap.size) _) (.inr (by rintro b ⟨⟩; omega)), fun b hb => (HFAR.out b hb).1⟩
      · have hbb : (b4 != 0) = true := by simpa using hb4
        go_wp2_with (first
          | ((with_reducible refine wpDst 27 rfl ?_); refine wpList_build (.inl rfl) 39 #[] rfl (.agg ZR.toArray) (exec_build0 _ _ rfl HBU.out) ?_)
          | ((with_reducible refine wpSto 2 27 rfl ?_); refine wpList_store_row _ rfl 39 (.tmp 2) (.tmp 27) rfl w.heap.size rfl ZR ZR 39 rfl (by exact HBZ.out) (szOutTo05 HZL.out) rfl hzo ?_)
          | fail)
        have hc9 := Blk.cells (t := 39) (setRow_at (cs' := ZR.toArray) HBZ.out)
        (try simp only [Exit.inBlock, Exit.then])
        refine bodyPost_ret (results_agg rfl _ _ _ _ _ rfl Try.underlying39 rfl (szOutTo05 HZL.out) hc9) rfl ?_
        refine ⟨.slice none 0 0, by rw [HZS.out, HRS.out, HRK.out, if_neg hb4, if_neg hb4, HZB.out], by rw [HRW.out, if_neg hb4]; exact ⟨by simp, Own.nil _ _ _⟩, (HIN.out.far (setRow_only (g := w.heap.size) _) (by rintro b ⟨⟩; omega)).at_, grown_then HGR.out (setRow_only (g := w.heap.size) _) (.inr (by rintro b ⟨⟩; omega)), fun b hb => by simp [Value.ownBlock] at hb⟩
end
section
open Go.RowKit

theorem zSig_zeroR : (Try.prog.info? 30).bind (fun i => i.zero.map (·.cells)) = some zSig.toArray := by
  have e : zSig = List.replicate 1024 (Value.int .u8 0) ++ [Value.int .u32 0, Value.slice none 0 0] := by
    unfold zSig sigC bv
    rw [List.map_replicate]
    rfl
  rw [e]; exact zOutFrom05
theorem zSig_builtR : Try.prog.built 30 [] = some zSig.toArray := by
  have e : zSig = List.replicate 1024 (Value.int .u8 0) ++ [Value.int .u32 0, Value.slice none 0 0] := by
    unfold zSig sigC bv
    rw [List.map_replicate]
    rfl
  refine Eq.trans (b := some (List.replicate 1024 (Value.int .u8 0) ++ [Value.int .u32 0, Value.slice none 0 0]).toArray) (by kernel_rfl) (by rw [e])
theorem sigC_setkey {C : List Value} (h : C.length = 1024) (k key : Nat) (v : Value) : (sigC C k v).set 1024 (.int .u32 (key : Int)) = sigC C key v := by
  rw [sigC, List.set_append_right _ _ (by omega), h]; rfl
set_option maxRecDepth 100000 in
set_option maxHeartbeats 8000000 in
theorem RRing_Take {w : World} {g : Nat} {F : Fp} {s : InS} (h : RIn w g F s) :
    Calls Try.prog 29 #[.pointer (some ⟨g, 0, none⟩)] w fun e w' => ∃ v, e = .returned (.agg (sigC (bv (tkS s)) (tkK s) v).toArray) ∧ OwnD 31 w' v (tkW s) ∧ RIn w' g F (tkE s) ∧ w.grownBy w' (some g) ∧ ∀ b, v.ownBlock = some b → w.heap.size < b := by
  obtain ⟨i1, z1, hi1, hz1, hi2, hi3, hi4⟩ := partsFrom05
  obtain ⟨fields, hfu, hfp⟩ := fieldsFrom05
  obtain ⟨ZR, hzr, hzl, hzo, hbu, hzs, hfl⟩ : ∃ ZR : List Value, (Try.prog.info? 30).bind (fun i => i.zero.map (·.cells)) = some ZR.toArray ∧ ZR.length = 1026 ∧ (∀ u ∈ ZR, u.oneCell' = true) ∧ Try.prog.built 30 [] = some ZR.toArray ∧ ZR = sigC (bv (List.replicate 1024 0)) 0 (.slice none 0 0) ∧ ∀ key : Nat, fillL ([(0, 1024), (1024, 1), (1025, 1)].toArray[·]?) ZR [(1, [.int .u32 (key : Int)])] = some (sigC (bv (List.replicate 1024 0)) key (.slice none 0 0)) :=
    ⟨zSig, zSig_zeroR, zSig_len, zSig_one, zSig_builtR, rfl, fun key => fill_key key⟩
  have hzbl : (bv (List.replicate 1024 (0 : UInt8))).length = 1024 := by rw [bv_length, List.length_replicate]
  have hzbo := bv_one (List.replicate 1024 (0 : UInt8))
  have hp : QIn w.heap.size w g F s := ⟨h, h.lt, fun b hb => (h.fp b hb).1⟩
  have hp0 : QIn w.heap.size ((w.alloc (.cells ZR.toArray 30)).alloc (.cells ZR.toArray 30)) g F s := hp.far (((Ext.refl w).alloc _).alloc _) (by simp)
  have hbz0 : Blk ((w.alloc (.cells ZR.toArray 30)).alloc (.cells ZR.toArray 30)) w.heap.size 30 ZR := (Blk.new _ _ _).keep ((Ext.refl _).alloc _) (by simp)
  have hbs0 : Blk ((w.alloc (.cells ZR.toArray 30)).alloc (.cells ZR.toArray 30)) (w.heap.size + 1) 30 ZR := Blk.fresh (by simp) _ _
  have hgl : (bv (takeS (manyM 8 (numM 4 s).2).2)).length = 1024 := by rw [bv_length]; exact takeS_length _
  have hgo := bv_one (takeS (manyM 8 (numM 4 s).2).2)
  have hkl : (numM 4 s).1 < 4294967296 := numM_lt 4 s
  have hmn := manyN_eq (numM 4 s).2
  have hm8 := manyN_le (numM 4 s).2
  have he : tkE s = stT (stT (manyM 8 (numM 4 s).2).2 32) (manyN (numM 4 s).2) := rfl
  have hS : tkS s = if (tkE s).2 = 0 then takeS (manyM 8 (numM 4 s).2).2 else List.replicate 1024 0 := rfl
  have hK : tkK s = if (tkE s).2 = 0 then (numM 4 s).1 else 0 := rfl
  have hW : tkW s = if (tkE s).2 = 0 then wayT (stT (manyM 8 (numM 4 s).2).2 32) (manyN (numM 4 s).2) else [] := rfl
  have hsw : (Lit.int .i64 (tkE s).2).wf = true → True := fun _ => trivial
  have hfour := hp0.four
  have hmany := fun W (h : QIn w.heap.size W g F (numM 4 s).2) => h.many
  have htake := fun W (h : QIn w.heap.size W g F (manyM 8 (numM 4 s).2).2) => h.take
  rw [hmn] at hmany
  generalize tkE s = s4 at *
  generalize manyN (numM 4 s).2 = n at *
  generalize takeS (manyM 8 (numM 4 s).2).2 = SB at *
  generalize (manyM 8 (numM 4 s).2).2 = s2 at *
  generalize (numM 4 s).2 = s1 at *
  generalize (numM 4 s).1 = key at *
  generalize stT s2 32 = s3 at *
  generalize tkS s = RS at *
  generalize tkK s = RK at *
  generalize tkW s = RW at *
  obtain ⟨SG, hSG⟩ : ∃ SG, SG = bv SB := ⟨_, rfl⟩
  rw [← hSG] at hgl hgo htake
  obtain ⟨ZB, hZB⟩ : ∃ ZB, ZB = bv (List.replicate 1024 (0 : UInt8)) := ⟨_, rfl⟩
  rw [← hZB] at hzbl hzbo hzs hfl
  have HFOUR := Lib.hid hfour
  have HMANY := Lib.hid hmany
  have HTAKE := Lib.hid htake
  have HZL := Lib.hid hzl
  have HBU := Lib.hid hbu
  have HZS := Lib.hid hzs
  have HFL := Lib.hid hfl
  have HZBL := Lib.hid hzbl
  have HZBO := Lib.hid hzbo
  have HGL := Lib.hid hgl
  have HGO := Lib.hid hgo
  have HSG := Lib.hid hSG
  have HZB := Lib.hid hZB
  have HN8 := Lib.hid hm8
  have HS4 := Lib.hid he
  have HRS := Lib.hid hS
  have HRK := Lib.hid hK
  have HRW := Lib.hid hW
  have HP0 := Lib.hid hp0
  have HBZ0 := Lib.hid hbz0
  have HBS0 := Lib.hid hbs0
  have hgw : g < w.heap.size := hp.hg
  clear h hbu hfour hmany htake hzl hzs hfl hzbl hzbo hgl hgo hSG hZB hm8 he hS hK hW hp0 hp hmn hsw hbz0 hbs0
  go_enter Try.func29, Try.ntmps29
  go_wp2_with (first
    | ((with_reducible refine wpDst 2 rfl ?_); refine wpList_alloc _ rfl 30 rfl _ hzr ?_)
    | ((with_reducible refine wpDst 3 rfl ?_); refine wpList_alloc _ rfl 30 rfl _ hzr ?_)
    | fail)
  refine HFOUR.out.mono ?_
  rintro e w1 ⟨rfl, hp1, hg1⟩
  (try simp only [World.size_alloc])
  generalize hsb : w.heap.size + 1 = sb at *
  have HSB : Hid (w.heap.size < sb) := Lib.hid (by omega)
  have hbs1 := HBS0.out.keep hg1 (by simp; omega)
  have f1024 := hbs1.free 1024
  have c1024 : w1.cell? ⟨sb, 1024, none⟩ = some (.int .u32 0) := (hbs1.cell 1024).trans (by rw [HZS.out]; exact sigC_key HZBL.out 0 _)
  have hwk : IntKind.u32.wrap (key : Int) = (key : Int) := by simp [IntKind.wrap, IntKind.bits, IntKind.signed]; omega
  have hset := hbs1.set 1024 (.int .u32 (key : Int))
  have hse : ZR.set 1024 (.int .u32 (key : Int)) = sigC ZB key (.slice none 0 0) := by rw [HZS.out]; exact sigC_setkey HZBL.out _ _ _
  rw [hse] at hset
  have hgk : w1.grownBy (w1.setCell ⟨sb, 1024, none⟩ (.int .u32 (key : Int))) (some sb) := only_set 1024 _
  have HP1 := Lib.hid (hp1.far hgk (by rintro b ⟨⟩; omega))
  have HBZ1 := Lib.hid ((HBZ0.out.keep hg1 (by simp; omega)).keep hgk (by simp; omega))
  have HBS1 := Lib.hid hset
  have HG1 : Hid (w.grownBy (w1.setCell ⟨sb, 1024, none⟩ (.int .u32 (key : Int))) (some g)) := Lib.hid (grown_then (grown_then ((((Ext.refl w).alloc _).alloc _).any (some g)) hg1 (.inl rfl)) hgk (.inr (by rintro b ⟨⟩; omega)))
  clear hp1 hg1 hbs1 hset hse hgk HFOUR HP0 HBZ0 HBS0
  go_wp2_with fail
  refine (HMANY.out _ HP1.out).mono ?_
  rintro e w2 ⟨rfl, hp2, hg2⟩
  have hbs2 : Blk w2 sb 30 (sigC ZB key (.slice none 0 0)) := HBS1.out.keep hg2 (by have := HSB.out; simp; omega)
  have hbz2 : Blk w2 w.heap.size 30 ZR := HBZ1.out.keep hg2 (by simp; omega)
  have hgr2 : w.grownBy w2 (some g) := HG1.out.trans hg2
  have HBS2 := Lib.hid hbs2
  have HBZ2 := Lib.hid hbz2
  have HG2 := Lib.hid hgr2
  have HP2 := Lib.hid hp2
  clear hp2 hg2 hbs2 hbz2 hgr2 HBZ1 HBS1 HG1 HP1 f1024 c1024 hwk HMANY hsb
  go_wp2_with fail
  refine (HTAKE.out _ HP2.out).mono ?_
  rintro e w3 ⟨rfl, hp3, hg3⟩
  have hbs3 := HBS2.out.keep hg3 (by have := HSB.out; simp; omega)
  have hput : putAt (sigC ZB key (.slice none 0 0)) 0 SG = sigC SG key (.slice none 0 0) := sigC_put HZBL.out HGL.out
  have hsl0 := sigC_len HZBL.out key (.slice none 0 0)
  have hbs4 : Blk (w3.setRow sb (sigC SG key (.slice none 0 0)).toArray) sb 30 (sigC SG key (.slice none 0 0)) := setRow_at hbs3
  have HBZ : Hid (Blk (w3.setRow sb (sigC SG key (.slice none 0 0)).toArray) w.heap.size 30 ZR) := Lib.hid ((HBZ2.out.keep hg3 (by simp; omega)).keep (setRow_only _) (by have := HSB.out; simp; omega))
  have HG0 : Hid (w.grownBy (w3.setRow sb (sigC SG key (.slice none 0 0)).toArray) (some g)) := Lib.hid (grown_then (HG2.out.trans hg3) (setRow_only (g := sb) _) (.inr (by rintro b ⟨⟩; have := HSB.out; omega)))
  have HIN0 : Hid (QIn w.heap.size (w3.setRow sb (sigC SG key (.slice none 0 0)).toArray) g F s3) := Lib.hid (hp3.far (setRow_only (g := sb) _) (by rintro b ⟨⟩; have := HSB.out; omega))
  have HBS0 := Lib.hid hbs4
  obtain ⟨M0, hM0⟩ : ∃ M0, M0 = sigC ZB key (.slice none 0 0) := ⟨_, rfl⟩
  rw [← hM0] at hput hbs3 hsl0
  rw [← hput] at HBS0 HBZ HG0 HIN0
  have HPUT := Lib.hid hput
  have HBS3 := Lib.hid hbs3
  have HSL0 := Lib.hid hsl0
  clear hp3 hg3 hbs3 hput hsl0 hbs4 HBS2 HBZ2 HG2 HP2 hM0 HTAKE
  go_wp2_with (first
    | ((with_reducible refine wpSto 14 13 rfl ?_); go_must (refine wpList_store_part _ rfl 26 (.tmp 14) (.tmp 13) rfl sb 0 rfl M0 SG 30 rfl (by exact HBS3.out) (rsig_size HGL.out) (by rw [HGL.out, HSL0.out]; decide) HGO.out ?_))
    | fail)
  rw [HPUT.out] at HBS0 HBZ HG0 HIN0 ⊢
  generalize w3.setRow sb (sigC SG key (.slice none 0 0)).toArray = w4 at *
  go_loopw [5] (fun i wr => ∃ (k : Nat) (v : Value), k ≤ n ∧ i = .int .i64 k ∧ w.grownBy wr (some g) ∧ Blk wr w.heap.size 30 ZR ∧ Blk wr sb 30 (sigC SG key v) ∧ OwnD 31 wr v (wayT s3 k) ∧ (∀ b, v.ownBlock = some b → w.heap.size < b ∧ b ≠ sb) ∧ QIn w.heap.size wr g F (stT s3 k)) (fun i _ => n - (intOf i).toNat)
  case atStart => exact ⟨0, _, by omega, rfl, HG0.out, HBZ.out, HBS0.out, ⟨by simp [wayT], Own.nil _ _ _⟩, by simp [Value.ownBlock], HIN0.out⟩
  case round =>
    obtain ⟨k, v, hk, rfl, hgr, hbz, hbs, hov, hfar, hin⟩ := hrel
    clear HG0 HBZ HBS0 HIN0
    by_cases hlt : k < n
    · have hyl : (bv (sumM (stT s3 k)).1).length = 32 := by rw [bv_length]; exact sumM_length _
      have hyd := sumM_length (stT s3 k)
      have hyo := bv_one (sumM (stT s3 k)).1
      have hwt := wayT_succ s3 k
      have hwl := wayT_length s3 k
      have how : Own wr.drew 31 32 v k ((wayT s3 k).flatMap bv) := by have h := (hov.ext (Ext.refl wr).drew).2; rw [hwl] at h; exact h
      have hng : v.ownBlock = none ∨ v.ownBlock ≠ some g := by
        refine .inr fun e => ?_
        have h1 := hfar g e
        have h2 := hin.hg
        omega
      have HIN : Hid (QIn w.heap.size wr.drew g F (stT s3 k)) := Lib.hid (hin.far (Ext.refl wr).drew (by simp))
      have hst : stT s3 (k + 1) = (sumM (stT s3 k)).2 := rfl
      have HLOW := Lib.hid (show k ≤ 8 by have := HN8.out; omega)
      have HST := Lib.hid hst
      have HWT := Lib.hid hwt
      have HWL := Lib.hid hwl
      have HYL := Lib.hid hyl
      have HYD := Lib.hid hyd
      have HOW := Lib.hid how
      have HNG := Lib.hid hng
      have HFAR := Lib.hid hfar
      have HOV := Lib.hid hov
      have HGR := Lib.hid hgr
      have HBZ : Hid (Blk wr.drew w.heap.size 30 ZR) := Lib.hid hbz
      have HBS : Hid (Blk wr.drew sb 30 (sigC SG key v)) := Lib.hid hbs
      have HSW : Hid (wr.drew.cell? ⟨sb, 1025, none⟩ = some v) := Lib.hid ((HBS.out.cell 1025).trans (sigC_way HGL.out key v))
      have HG1 : Hid (w.grownBy wr.drew (some g)) := Lib.hid (hgr.trans ((Ext.refl wr).drew.any _))
      obtain ⟨Yd, hYd⟩ : ∃ Yd, Yd = (sumM (stT s3 k)).1 := ⟨_, rfl⟩
      rw [← hYd] at HWT HYL HYD hyo
      have HSUM : Hid (∀ W, QIn w.heap.size W g F (stT s3 k) → Calls Try.prog 55 #[.pointer (some ⟨g, 0, none⟩)] W fun r w' => r = .returned (.agg (bv Yd).toArray) ∧ QIn w.heap.size w' g F (sumM (stT s3 k)).2 ∧ W.grownBy w' (some g)) := Lib.hid fun W h => by rw [hYd]; exact h.sum
      obtain ⟨Y, hY⟩ : ∃ Y, Y = bv Yd := ⟨_, rfl⟩
      rw [← hY] at HSUM HYL hyo
      have HY := Lib.hid hY
      clear hyl hyd hwt hwl how hng hst hfar hov hgr hbz hbs hin hYd hY
      go_wp2_with fail
      refine startL 7 (KeepB fun b => b = sb) (by kernel_rfl) ?_
      (try simp only [Act.put, List.setIfInBounds_toArray, List.set_cons_succ, List.set_cons_zero])
      generalize wr.drew = w0 at *
      refine takeN (fun _ _ _ => rfl) 0 rfl (by kernel_rfl) (by kernel_rfl) (by kernel_rfl) rfl (fun _ _ _ _ h => h) rfl (fun K hK => ?_)
      go_big_quiet_op
      first | refine hK _ ?_ | refine ⟨_, fun _ _ => rfl, hK _ ?_⟩
      clear hK K
      refine takeL (fun _ _ _ => rfl) (fun _ _ _ h1 h2 b hb => (h2 b hb).trans (h1 b hb)) 1 [7] rfl (by kernel_rfl) (by kernel_rfl) (by kernel_rfl) (by kernel_rfl) rfl (fun _ _ _ _ h => h) rfl (fun K hK => ?_)
      refine quiet_cell _ _ rfl _ rfl _ _ Try.underlying28 rfl (fun W' h => KeepB.cell h HSW.out rfl) ?_
      refine hK _ ?_
      simp only [Act.put, List.setIfInBounds_toArray, List.set_cons_succ, List.set_cons_zero]
      clear hK K
      refine takeN (fun _ _ _ => rfl) 2 rfl (by kernel_rfl) (by kernel_rfl) (by kernel_rfl) rfl (fun _ _ _ _ h => h) rfl (fun K hK => ?_)
      go_big_quiet_op
      first | refine hK _ ?_ | refine ⟨_, fun _ _ => rfl, hK _ ?_⟩
      clear hK K
      refine stepL 3 rfl (by kernel_rfl) rfl (fun K hK => ?_)
      go_simp
      refine (HSUM.out _ HIN.out).mono ?_
      rintro e w6 ⟨rfl, hin6, hg6⟩
      refine hK _ _ (fun _ b hb => by subst hb; exact hg6.block _ HBS.out.lt (by have := HSB.out; have := HIN.out.hg; simp; omega)) ?_
      clear hK K
      refine stepL 4 rfl (by kernel_rfl) rfl (fun K hK => ?_)
      refine wp_one w6 28 (.tmp 23) rfl 31 Y Try.underlying28 rfl (szEbFrom05 HYL.out) zEbFrom05 (by rw [HYL.out]; decide) (by rw [HYL.out]; decide) ?_
      refine hK _ _ (fun _ b hb => by subst hb; exact ((Ext.refl w6).alloc _).block _ (Nat.lt_of_lt_of_le HBS.out.lt hg6.size) (by simp)) ?_
      clear hK K
      (try simp only [Act.put, List.setIfInBounds_toArray, List.set_cons_succ, List.set_cons_zero])
      refine stepL 5 rfl (by kernel_rfl) rfl (fun K hK => ?_)
      refine wp_app _ (.tmp 21) (.tmp 24) _ _ rfl 31 31 i1 z1 32 32 Try.underlying28 Try.underlying28 hi1 hz1 hi2 hi3 hi4 (by decide) v _ _ rfl ((HOW.out.keep hg6 (HNG.out)).ext ((Ext.refl w6).alloc _)) _ 1 1 Y rfl (by rw [HYL.out]) (src_at rfl Y _ 1) hyo (by have := HLOW.out; unfold maxLen; omega) (by have := HLOW.out; omega) ?_
      intro v7 w7 ho7 hm7
      obtain ⟨A7, c7, hv7⟩ := Own.form ho7
      subst hv7
      refine hK _ _ (fun _ b hb => by subst hb; exact hm7.grown.block _ (by have h1 := HBS.out.lt; have h2 := hg6.size; simp; omega) (fun e => (HFAR.out _ e.symm).2 rfl)) ?_
      clear hK K
      (try simp only [Act.put, List.setIfInBounds_toArray, List.set_cons_succ, List.set_cons_zero])
      refine takeN (fun _ _ _ => rfl) 6 rfl (by kernel_rfl) (by kernel_rfl) (by kernel_rfl) rfl (fun _ _ _ _ h => h) rfl (fun K hK => ?_)
      go_big_quiet_op
      first | refine hK _ ?_ | refine ⟨_, fun _ _ => rfl, hK _ ?_⟩
      clear hK K
      refine stepL 7 rfl (by kernel_rfl) rfl (fun K hK => ?_)
      have HB7 := Lib.hid (((HBS.out.keep hg6 (by have := HSB.out; have := HIN.out.hg; simp; omega)).keep ((Ext.refl w6).alloc (.cells Y.toArray 31)) (by simp)).keep hm7.grown (fun e => (HFAR.out _ e.symm).2 rfl))
      have s9 : w7.cell? ⟨sb, 1025, none⟩ = some v := (HB7.out.cell 1025).trans (sigC_way HGL.out key v)
      have f9 : w7.frozen? ⟨sb, 1025, none⟩ = false := HB7.out.free 1025
      go_simp
      refine hK _ _ (fun h => absurd rfl h) ?_
      clear hK K
      refine doneL (by kernel_rfl) ?_ _
      have hxa : Ext w6 (w6.alloc (.cells Y.toArray 31)) := (Ext.refl w6).alloc _
      have far7 : ∀ b, (Value.slice A7 (k + 1) c7).ownBlock = some b → w.heap.size < b ∧ b ≠ sb := fun b hb => by
        rcases hm7.at_ with e | hn
        · exact HFAR.out b (e.symm.trans hb)
        · have h1 := hn b hb
          have h2 := HBS.out.lt
          have h3 := HBZ.out.lt
          have h4 := hg6.size
          simp at h1
          exact ⟨by omega, by omega⟩
      have hg8 : w.grownBy (w7.setCell ⟨sb, 1025, none⟩ (.slice A7 (k + 1) c7)) (some g) := grown_then (grown_then (grown_then (HG1.out.trans hg6) (hxa.any _) (.inl rfl)) hm7.grown (.inr fun x hx => by have := HFAR.out x hx; omega)) (only_set 1025 _) (.inr (by rintro b ⟨⟩; have := HSB.out; omega))
      have hbz8 : Blk (w7.setCell ⟨sb, 1025, none⟩ (.slice A7 (k + 1) c7)) w.heap.size 30 ZR := (((HBZ.out.keep hg6 (by have := HIN.out.hg; simp; omega)).keep hxa (by simp)).keep hm7.grown (fun e => by have := HFAR.out _ e.symm; omega)).keep (only_set 1025 _) (by have := HSB.out; simp; omega)
      have hbs8 : Blk (w7.setCell ⟨sb, 1025, none⟩ (.slice A7 (k + 1) c7)) sb 30 (sigC SG key (.slice A7 (k + 1) c7)) := by
        have := HB7.out.set 1025 (.slice A7 (k + 1) c7)
        rwa [sigC_set HGL.out] at this
      have ho8 : OwnD 31 (w7.setCell ⟨sb, 1025, none⟩ (.slice A7 (k + 1) c7)) (.slice A7 (k + 1) c7) (wayT s3 (k + 1)) := by
        rw [HWT.out]
        refine ⟨fun d hd => ?_, ?_⟩
        · rcases List.mem_append.1 hd with hd | hd
          · exact HOV.out.1 d hd
          · rw [List.mem_singleton.1 hd]; exact HYD.out
        · have e1 : ((wayT s3 k) ++ [Yd]).flatMap bv = (wayT s3 k).flatMap bv ++ Y := by rw [HY.out]; simp
          have e2 : List.length (α := Dg) ((wayT s3 k) ++ [Yd]) = k + 1 := by rw [List.length_append, HWL.out]; rfl
          rw [e1, e2]
          refine ho7.keep (row := some sb) (only_set 1025 _) ?_
          cases hvb : (Value.slice A7 (k + 1) c7).ownBlock with
          | none => exact .inl rfl
          | some b => exact .inr (by have := (far7 b hvb).2; simpa using this)
      have hin8 : QIn w.heap.size (w7.setCell ⟨sb, 1025, none⟩ (.slice A7 (k + 1) c7)) g F (stT s3 (k + 1)) := by
        rw [HST.out]
        exact ((hin6.far hxa (by simp)).far hm7.grown (fun b hb => by have := HFAR.out b hb; omega)).far (only_set (g := sb) 1025 _) (by rintro b ⟨⟩; have := HSB.out; omega)
      have HG8 := Lib.hid hg8
      have HBZ8 := Lib.hid hbz8
      have HBS8 := Lib.hid hbs8
      have HO8 := Lib.hid ho8
      have HF8 := Lib.hid far7
      have HIN8 := Lib.hid hin8
      clear hg8 hbz8 hbs8 ho8 far7 hin8 hxa s9 f9 ho7 hm7 HB7 hg6 hin6
      generalize w7.setCell ⟨sb, 1025, none⟩ (.slice A7 (k + 1) c7) = w8 at *
      have hk8 : k < 8 := by have := HN8.out; omega
      (try simp only [Exit.then])
      go_wp2_with fail
      go_roundw
      case rel => exact ⟨k + 1, _, by omega, by go_num, HG8.out, HBZ8.out, HBS8.out, HO8.out, HF8.out, HIN8.out⟩
      case measure => simp [intOf]; omega
    · obtain rfl : k = n := by omega
      have he9 := HS4.out
      have HEW := Lib.hid (wayT_length s3 k)
      obtain ⟨A9, c9, hv9⟩ := hov.2.form
      have hml := sigC_len HGL.out key v
      have hmone : ∀ u ∈ sigC SG key v, u.oneCell' = true := by rw [hv9]; exact sigC_one HGO.out _ _ _ _
      obtain ⟨M, hM⟩ : ∃ M, M = sigC SG key v := ⟨_, rfl⟩
      rw [← hM] at hbs hml hmone
      have HM := Lib.hid hM
      have HML := Lib.hid hml
      have HGR := Lib.hid hgr
      have HBZ := Lib.hid hbz
      have HBS := Lib.hid hbs
      have HOV := Lib.hid hov
      have HFAR := Lib.hid hfar
      have HIN := Lib.hid hin
      clear hv9 hml hM hgr hbz hbs hov hfar hin
      obtain ⟨l4, b4⟩ := s4
      rw [← he9] at HIN
      clear he9
      have hc2 : wr.cell? ⟨g, 2, none⟩ = some (.int .i64 b4) := by obtain ⟨A, c, B, a, hb, _⟩ := HIN.out.at_; exact hb.cell 2
      by_cases hb4 : b4 = 0
      · subst hb4
        go_wp2_with (first
          | ((with_reducible refine wpDst 33 rfl ?_); refine wpList_load_agg _ rfl 30 (.tmp 3) rfl _ rfl M _ Try.underlying30 rfl (szOutFrom05 HML.out) (by exact HBS.out.cells) ?_)
          | ((with_reducible refine wpSto 2 33 rfl ?_); refine wpList_store_row _ rfl 30 (.tmp 2) (.tmp 33) rfl w.heap.size rfl ZR M 30 rfl (by exact HBZ.out) (szOutFrom05 HML.out) (by rw [HML.out, HZL.out]) hmone ?_)
          | fail)
        have hc9 := Blk.cells (t := 30) (setRow_at (cs' := M.toArray) HBZ.out)
        (try simp only [Exit.inBlock, Exit.then])
        refine bodyPost_ret (results_agg rfl _ _ _ _ _ rfl Try.underlying30 rfl (szOutFrom05 HML.out) hc9) rfl ?_
        refine ⟨v, by rw [HM.out, HRS.out, HRK.out, if_pos trivial, if_pos trivial, HSG.out], by rw [HRW.out, if_pos trivial]; exact ownD_row HOV.out (fun b hb => by have := HFAR.out b hb; omega), (HIN.out.far (setRow_only (g := w.heap.size) _) (by rintro b ⟨⟩; omega)).at_, grown_then HGR.out (setRow_only (g := w.heap.size) _) (.inr (by rintro b ⟨⟩; omega)), fun b hb => (HFAR.out b hb).1⟩
      · have hbb : (b4 != 0) = true := by simpa using hb4
        go_wp2_with (first
          | ((with_reducible refine wpDst 32 rfl ?_); refine wpList_build (.inl rfl) 30 #[] rfl (.agg ZR.toArray) (exec_build0 _ _ rfl HBU.out) ?_)
          | ((with_reducible refine wpSto 2 32 rfl ?_); refine wpList_store_row _ rfl 30 (.tmp 2) (.tmp 32) rfl w.heap.size rfl ZR ZR 30 rfl (by exact HBZ.out) (szOutFrom05 HZL.out) rfl hzo ?_)
          | fail)
        have hc9 := Blk.cells (t := 30) (setRow_at (cs' := ZR.toArray) HBZ.out)
        (try simp only [Exit.inBlock, Exit.then])
        refine bodyPost_ret (results_agg rfl _ _ _ _ _ rfl Try.underlying30 rfl (szOutFrom05 HZL.out) hc9) rfl ?_
        refine ⟨.slice none 0 0, by rw [HZS.out, HRS.out, HRK.out, if_neg hb4, if_neg hb4, HZB.out], by rw [HRW.out, if_neg hb4]; exact ⟨by simp, Own.nil _ _ _⟩, (HIN.out.far (setRow_only (g := w.heap.size) _) (by rintro b ⟨⟩; omega)).at_, grown_then HGR.out (setRow_only (g := w.heap.size) _) (.inr (by rintro b ⟨⟩; omega)), fun b hb => by simp [Value.ownBlock] at hb⟩
end
end Go.Proofs.Ytpdkmapogncgmaa
