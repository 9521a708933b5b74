/- The walk of memo's LayTrail: where a payment goes on, as bytes. Conditions: the bytes aren't too many. -/
import Derived.Test.YtemladlnpaaefaaRingLay
import Derived.Test.YtemladlnpaaefaaTo18
set_option linter.unusedVariables false
set_option linter.unusedSimpArgs false
set_option linter.unnecessarySimpa false
namespace Go.Proofs.Ytemladlnpaaefaa
open Go.RowKit

def hopB (h : Hp) : List UInt8 := be 4 h.1 ++ (be 8 h.2.1 ++ be 8 h.2.2.1)
theorem hopB_len (h : Hp) : (hopB h).length = 20 := by simp [hopB, be_length]
theorem hops_len : ∀ hs : List Hp, (hs.flatMap hopB).length = 20 * List.length (α := Hp) hs
  | [] => rfl
  | h :: hs => by
    show (hopB h ++ hs.flatMap hopB).length = 20 * (List.length (α := Hp) hs + 1)
    rw [List.length_append, hopB_len, hops_len hs]; omega
/-- A trail as bytes. -/
def trailB (hs : List Hp) : List UInt8 := byteOf ((List.length (α := Hp) hs : Nat) : Int) :: hs.flatMap hopB
set_option maxRecDepth 100000 in
set_option maxHeartbeats 8000000 in
theorem LayTrail (u : Value) (hs : List Hp) (v : Value) (bs : List UInt8) (w : World) (hu : Hold ⟨HopT, hs, u⟩ w) (hap : ∀ b, v.ownBlock = some b → u.ownBlock ≠ some b) (ho : OwnB w v bs) (hb : bs.length + 20 * List.length (α := Hp) hs ≤ 140737488350000) :
    Calls Try.prog 18 #[v, u] w fun e w' => ∃ v', e = .returned v' ∧ OwnB w' v' (bs ++ trailB hs) ∧ Moved w w' v v' := by
  have hfar : Far (fun b => u.ownBlock = some b) w v := fun b hb => ⟨hu.2 b hb, fun e => hap b e hb⟩
  obtain ⟨A, d, xs, hv, hld, hdm, hA, hcell, hall⟩ := hops_open hu.1
  have hv : u = .slice A (List.length (α := Hp) hs) d := hv
  subst hv
  clear hu hap
  unfold maxLen at hdm
  obtain ⟨ZE, hze, hzel⟩ : ∃ ZE : List Value, (Try.prog.info? 64).bind (fun i => i.zero.map (·.cells)) = some ZE.toArray ∧ ZE.length = 3 := ⟨hopC (0, 0, 0, ()), by kernel_rfl, rfl⟩
  have HZE := Lib.hid hzel
  obtain ⟨n8, hn8⟩ : ∃ n8, n8 = byteOf ((List.length (α := Hp) hs : Nat) : Int) := ⟨_, rfl⟩
  have hconv : ((List.length (α := Hp) hs : Nat) : Int) % 256 = ((n8.toNat : Nat) : Int) := by rw [hn8, byteOf_eq]
  have HN8 := Lib.hid hn8
  have HFA := Lib.hid hfar
  have HO := Lib.hid ho
  clear hn8 hfar ho hzel
  have hw1 : (Ty.sl .u8).holds (w.alloc (.cells [Value.int .u8 ((n8.toNat : Nat) : Int)].toArray 5)) (fun b => b = w.heap.size) [.slice (some ⟨w.heap.size, 0, none⟩) 1 1] [n8] := sl_made rfl rfl rfl (by decide) ⟨[.int .u8 ((n8.toNat : Nat) : Int)], [], rfl, rfl, rfl⟩
  have HW1 := Lib.hid hw1
  clear hw1
  go_enter Try.func18, Try.ntmps18
  go_wp2_with (first
    | (go_at_call 15; refine (Out_One v _ bs [n8] _ _ (HO.out.ext ((Ext.refl w).alloc _)) HW1.out (by simp only [List.length_cons, List.length_nil]; omega)).mono ?_; rintro e w1 ⟨v1, rfl, ho1, hm1⟩)
    | fail)
  have hm1 := Moved.pre ((Ext.refl w).alloc _) hm1
  have HO1 := Lib.hid ho1
  have HM1 := Lib.hid hm1
  clear ho1 hm1
  go_loopw [0, 6, 15] (fun t p i wr => ∃ k : Nat, k ≤ List.length (α := Hp) hs ∧ i = .int .i64 k ∧ OwnB wr t ((bs ++ [n8]) ++ (hs.take k).flatMap hopB) ∧ Moved w wr v t ∧ ∃ q, p = q) (fun _ _ i _ => List.length (α := Hp) hs - (intOf i).toNat)
  case atStart => exact ⟨0, by omega, rfl, by simpa using HO1.out, HM1.out, _, rfl⟩
  case round =>
    clear HO1 HM1
    obtain ⟨k, hk, rfl, hot, hmt, q, rfl⟩ := hrel
    by_cases hlt : k < List.length (α := Hp) hs
    · obtain ⟨ad, rfl, hf, hcells⟩ := hcell (by omega)
      obtain ⟨hcc, hok⟩ := hops_at hall (hcells.keep (hmt.same HFA.out _ hf)) hlt
      have htk : hs.take (k + 1) = hs.take k ++ [hs[k]] := List.take_succ_eq_append_getElem hlt
      have htl : List.length (α := Hp) (hs.take k) = k := by rw [List.length_take]; omega
      have hln : ((bs ++ [n8]) ++ (hs.take k).flatMap hopB).length = bs.length + 1 + 20 * k := by rw [List.length_append, List.length_append, hops_len, htl]; rfl
      generalize hdk : hs[k] = dk at *
      obtain ⟨bs1, hbs1⟩ : ∃ bs1, bs1 = (bs ++ [n8]) ++ (hs.take k).flatMap hopB := ⟨_, rfl⟩
      rw [← hbs1] at hot hln
      obtain ⟨D, hDE⟩ : ∃ D, D = hopC dk := ⟨_, rfl⟩
      have hone3 : ∀ u ∈ D, u.oneCell' = true := by rw [hDE]; exact hopC_one dk
      have hDl : D.length = 3 := by rw [hDE]; rfl
      have hD0 : D[0]? = some (.int .u32 (dk.1 : Int)) := by rw [hDE]; rfl
      have hD1 : D[1]? = some (.int .u64 (dk.2.1 : Int)) := by rw [hDE]; rfl
      have hD2 : D[2]? = some (.int .u64 (dk.2.2.1 : Int)) := by rw [hDE]; rfl
      rw [← hDE] at hcc
      have hne : ∀ b, u0.ownBlock = some b → b ≠ wr.heap.size := fun b hb e => by have := OwnB.lt hot b hb; omega
      have HDL := Lib.hid hDl
      have HD0 := Lib.hid hD0
      have HD1 := Lib.hid hD1
      have HD2 := Lib.hid hD2
      have HOT := Lib.hid hot
      have HMT := Lib.hid hmt
      have HOK := Lib.hid hok
      have HLN := Lib.hid hln
      have HTK := Lib.hid htk
      have HBS := Lib.hid hbs1
      have HNE := Lib.hid hne
      clear hDl hDE hD0 hD1 hD2 hot hmt hok hln htk htl hbs1 hne hdk hcells
      go_wp2_with (first
        | (refine wpList_load_agg _ rfl 64 (.tmp 17) rfl _ rfl D _ Try.underlying64 rfl (szHb HDL.out) hcc ?_)
        | (refine wpList_alloc _ rfl 64 rfl _ hze ?_)
        | (refine wpList_store_new _ rfl 64 (.tmp 6) (.tmp 18) rfl rfl ZE D _ rfl (szHb HDL.out) (by rw [HDL.out, HZE.out]) hone3 ?_)
        | fail)
      have hxd : Ext wr (wr.alloc (.cells D.toArray 64)).drew := ((Ext.refl wr).alloc _).drew
      have hbd : Blk (wr.alloc (.cells D.toArray 64)).drew wr.heap.size 64 D := (Blk.new wr _ D).keep (Ext.refl _).drew (by simp)
      refine startM (KeepB fun b => b = wr.heap.size) (by kernel_rfl) ?_
      (try simp only [Act.put, List.setIfInBounds_toArray, List.set_cons_succ, List.set_cons_zero])
      generalize (wr.alloc (.cells D.toArray 64)).drew = w0 at *
      generalize wr.heap.size = gh at *
      have HQ0 := Lib.hid ((hbd.cell 0).trans HD0.out)
      have HQ1 := Lib.hid ((hbd.cell 1).trans HD1.out)
      have HQ2 := Lib.hid ((hbd.cell 2).trans HD2.out)
      have hJ0 : CJ gh w0 u0 u0 bs1 [] w0 := CJ.start hbd.lt (HOT.out.ext hxd) HNE.out
      have HXD := Lib.hid hxd
      clear hbd hxd hcc
      refine takeK 0 rfl (by kernel_rfl) (by kernel_rfl) (by kernel_rfl) rfl (fun _ _ _ _ h => h) rfl (fun K hK => ?_)
      go_big_quiet_op
      first | refine hK _ ?_ | refine ⟨_, fun _ _ => rfl, hK _ ?_⟩
      clear hK K
      refine takeK 1 rfl (by kernel_rfl) (by kernel_rfl) (by kernel_rfl) rfl (fun _ _ _ _ h => h) rfl (fun K hK => ?_)
      go_big_quiet_op
      first | refine hK _ ?_ | refine ⟨_, fun _ _ => rfl, hK _ ?_⟩
      clear hK K
      refine takeK 2 rfl (by kernel_rfl) (by kernel_rfl) (by kernel_rfl) rfl (fun _ _ _ _ h => h) rfl (fun K hK => ?_)
      refine quiet_cell _ _ rfl _ rfl _ _ Try.underlying22 rfl (fun W' h => KeepB.cell h HQ0.out rfl) ?_
      refine hK _ ?_
      simp only [Act.put, List.setIfInBounds_toArray, List.set_cons_succ, List.set_cons_zero]
      clear hK K
      refine takeK 5 rfl (by kernel_rfl) (by kernel_rfl) (by kernel_rfl) rfl (fun _ _ _ _ h => h) rfl (fun K hK => ?_)
      go_big_quiet_op
      first | refine hK _ ?_ | refine ⟨_, fun _ _ => rfl, hK _ ?_⟩
      clear hK K
      refine takeK 6 rfl (by kernel_rfl) (by kernel_rfl) (by kernel_rfl) rfl (fun _ _ _ _ h => h) rfl (fun K hK => ?_)
      refine quiet_cell _ _ rfl _ rfl _ _ Try.underlying23 rfl (fun W' h => KeepB.cell h HQ1.out rfl) ?_
      refine hK _ ?_
      simp only [Act.put, List.setIfInBounds_toArray, List.set_cons_succ, List.set_cons_zero]
      clear hK K
      refine takeK 7 rfl (by kernel_rfl) (by kernel_rfl) (by kernel_rfl) rfl (fun _ _ _ _ h => h) rfl (fun K hK => ?_)
      go_big_quiet_op
      first | refine hK _ ?_ | refine ⟨_, fun _ _ => rfl, hK _ ?_⟩
      clear hK K
      refine takeK 8 rfl (by kernel_rfl) (by kernel_rfl) (by kernel_rfl) rfl (fun _ _ _ _ h => h) rfl (fun K hK => ?_)
      refine quiet_cell _ _ rfl _ rfl _ _ Try.underlying23 rfl (fun W' h => KeepB.cell h HQ2.out rfl) ?_
      refine hK _ ?_
      simp only [Act.put, List.setIfInBounds_toArray, List.set_cons_succ, List.set_cons_zero]
      clear hK K
      apply lat3 (fun v22 v23 v28 W => CJ gh w0 u0 v23 (bs1 ++ [dk.1].flatMap (be 4)) [⟨.nat .u64, [dk.2.1, dk.2.2.1], v28⟩] W)
      intro hM4
      apply lat2 (fun v22 v28 W => CJ gh w0 u0 u0 bs1 [⟨.nat .u32, [dk.1], v22⟩, ⟨.nat .u64, [dk.2.1, dk.2.2.1], v28⟩] W)
      intro hM3
      apply lat2 (fun v22 v23 W => CJ gh w0 u0 v23 (bs1 ++ [dk.1].flatMap (be 4)) [] W)
      intro hM2
      apply lat1 (fun v28 W => CJ gh w0 u0 u0 bs1 [⟨.nat .u64, [dk.2.1, dk.2.2.1], v28⟩] W)
      intro hM1
      apply lat1 (fun v22 W => CJ gh w0 u0 u0 bs1 [⟨.nat .u32, [dk.1], v22⟩] W)
      intro hM0
      · have HJ := Lib.hid hJ0
        refine manyM 3 [9] (by kernel_rfl) ⟨oneM rfl rfl (fun K hK => ?_), oneM rfl rfl (fun K hK => ?_), trivial⟩
        · refine HJ.out.mk1 91 (.tmp 21) rfl 22 Try.underlying91 (.nat .u32) dk.1 _ [Value.int .u32 (dk.1 : Int)] rfl rfl (fun _ _ => ⟨rfl, HOK.out.ch⟩) u32_size2 u32_zero2 (show 1 ≤ 16777216 by decide) (show 0 < 1 by decide) ?_
          intro v22 W hJ hkb
          have HJ := Lib.hid hJ
          clear hJ
          refine hK _ _ hkb ?_
          clear hK K
          (try simp only [Act.put, List.setIfInBounds_toArray, List.set_cons_succ, List.set_cons_zero])
          exact hM0 v22 _ (HJ.out.sub (by intro x hx; simp only [List.mem_cons, List.not_mem_nil, or_false] at hx; rcases hx with rfl <;> first | exact (.head _)))
        · refine HJ.out.mk2 95 (.tmp 25) (.tmp 27) rfl Try.underlying95 dk.2.1 dk.2.2.1 rfl rfl HOK.out.am HOK.out.id u64_size1 u64_zero1 ?_
          intro v28 W hJ hkb
          have HJ := Lib.hid hJ
          clear hJ
          refine hK _ _ hkb ?_
          clear hK K
          (try simp only [Act.put, List.setIfInBounds_toArray, List.set_cons_succ, List.set_cons_zero])
          exact hM1 v28 _ (HJ.out.sub (by intro x hx; simp only [List.mem_cons, List.not_mem_nil, or_false] at hx; rcases hx with rfl <;> first | exact (.head _)))
      · intro v22 W hJ
        have HJ := Lib.hid hJ
        clear hJ
        refine manyM 4 [9] (by kernel_rfl) ⟨oneM rfl rfl (fun K hK => ?_), oneM rfl rfl (fun K hK => ?_), trivial⟩
        · go_simp
          refine (HJ.out.four (.head _) (by have hln := HLN.out; simp only [List.length_append, List.length_cons, List.length_nil, List.flatMap_cons, List.flatMap_nil, be_length, hln]; omega)).mono ?_
          rintro e W ⟨v23, rfl, hJ, hkb⟩
          have HJ := Lib.hid hJ
          clear hJ
          refine hK _ _ hkb ?_
          clear hK K
          exact hM2 v22 v23 _ (HJ.out.sub (by intro x hx; cases hx))
        · refine HJ.out.mk2 95 (.tmp 25) (.tmp 27) rfl Try.underlying95 dk.2.1 dk.2.2.1 rfl rfl HOK.out.am HOK.out.id u64_size1 u64_zero1 ?_
          intro v28 W hJ hkb
          have HJ := Lib.hid hJ
          clear hJ
          refine hK _ _ hkb ?_
          clear hK K
          (try simp only [Act.put, List.setIfInBounds_toArray, List.set_cons_succ, List.set_cons_zero])
          exact hM3 v22 v28 _ (HJ.out.sub (by intro x hx; simp only [List.mem_cons, List.not_mem_nil, or_false] at hx; rcases hx with rfl | rfl <;> first | exact (.tail _ (.head _)) | exact (.head _)))
      · intro v28 W hJ
        have HJ := Lib.hid hJ
        clear hJ
        refine stepM 3 rfl (by kernel_rfl) rfl (fun K hK => ?_)
        refine HJ.out.mk1 91 (.tmp 21) rfl 22 Try.underlying91 (.nat .u32) dk.1 _ [Value.int .u32 (dk.1 : Int)] rfl rfl (fun _ _ => ⟨rfl, HOK.out.ch⟩) u32_size2 u32_zero2 (show 1 ≤ 16777216 by decide) (show 0 < 1 by decide) ?_
        intro v22 W hJ hkb
        have HJ := Lib.hid hJ
        clear hJ
        refine hK _ _ hkb ?_
        clear hK K
        (try simp only [Act.put, List.setIfInBounds_toArray, List.set_cons_succ, List.set_cons_zero])
        exact relist (by kernel_rfl) (hM3 v22 v28 _ (HJ.out.sub (by intro x hx; simp only [List.mem_cons, List.not_mem_nil, or_false] at hx; rcases hx with rfl | rfl <;> first | exact (.head _) | exact (.tail _ (.head _)))))
      · intro v22 v23 W hJ
        have HJ := Lib.hid hJ
        clear hJ
        refine stepM 9 rfl (by kernel_rfl) rfl (fun K hK => ?_)
        refine HJ.out.mk2 95 (.tmp 25) (.tmp 27) rfl Try.underlying95 dk.2.1 dk.2.2.1 rfl rfl HOK.out.am HOK.out.id u64_size1 u64_zero1 ?_
        intro v28 W hJ hkb
        have HJ := Lib.hid hJ
        clear hJ
        refine hK _ _ hkb ?_
        clear hK K
        (try simp only [Act.put, List.setIfInBounds_toArray, List.set_cons_succ, List.set_cons_zero])
        exact hM4 v22 v23 v28 _ (HJ.out.sub (by intro x hx; simp only [List.mem_cons, List.not_mem_nil, or_false] at hx; rcases hx with rfl <;> first | exact (.head _)))
      · intro v22 v28 W hJ
        have HJ := Lib.hid hJ
        clear hJ
        refine stepM 4 rfl (by kernel_rfl) rfl (fun K hK => ?_)
        go_simp
        refine (HJ.out.four (.head _) (by have hln := HLN.out; simp only [List.length_append, List.length_cons, List.length_nil, List.flatMap_cons, List.flatMap_nil, be_length, hln]; omega)).mono ?_
        rintro e W ⟨v23, rfl, hJ, hkb⟩
        have HJ := Lib.hid hJ
        clear hJ
        refine hK _ _ hkb ?_
        clear hK K
        exact relist (by kernel_rfl) (hM4 v22 v23 v28 _ (HJ.out.sub (by intro x hx; simp only [List.mem_cons, List.not_mem_nil, or_false] at hx; rcases hx with rfl <;> first | exact (.tail _ (.head _)))))
      intro v22 v23 v28 W hJ
      have HJ := Lib.hid hJ
      clear hJ
      refine stepM 10 rfl (by kernel_rfl) rfl (fun K hK => ?_)
      go_simp
      refine (HJ.out.eight (.head _) (by have hln := HLN.out; simp only [List.length_append, List.length_cons, List.length_nil, List.flatMap_cons, List.flatMap_nil, be_length, hln]; omega)).mono ?_
      rintro e W ⟨v29, rfl, hJ, hkb⟩
      have HJ := Lib.hid hJ
      clear hJ
      refine hK _ _ hkb ?_
      clear hK K
      refine takeK 11 rfl (by kernel_rfl) (by kernel_rfl) (by kernel_rfl) rfl (fun _ _ _ _ h => h) rfl (fun K hK => ?_)
      go_big_quiet_op
      first | refine hK _ ?_ | refine ⟨_, fun _ _ => rfl, hK _ ?_⟩
      clear hK K
      refine doneM (by kernel_rfl) ?_ _
      have ho9 := HJ.out.own
      have hm9 := HMT.out.trans (Moved.pre HXD.out HJ.out.mv)
      have ho9' : OwnB W v29 ((bs ++ [n8]) ++ (hs.take (k + 1)).flatMap hopB) := by
        rw [HTK.out]
        simpa [HBS.out, hopB] using ho9
      have HO9 := Lib.hid ho9'
      have HM9 := Lib.hid hm9
      clear HJ ho9 ho9' hm9
      go_wp2
      go_roundw
      case rel => exact ⟨k + 1, by omega, by go_num, HO9.out, HM9.out, _, rfl⟩
      case measure => simp [intOf]; omega
    · obtain rfl : k = List.length (α := Hp) hs := by omega
      go_wp2
      go_ret
      have htk : hs.take (List.length (α := Hp) hs) = hs := List.take_length
      rw [htk] at hot
      exact ⟨_, rfl, by simpa [trailB, HN8.out] using hot, hmt⟩
end Go.Proofs.Ytemladlnpaaefaa
