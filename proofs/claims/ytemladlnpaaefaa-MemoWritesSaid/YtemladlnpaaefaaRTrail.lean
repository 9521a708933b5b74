/- The walk of the document's Trail of layer 18. Conditions: the bytes aren't too many. -/
import Derived.Test.YtemladlnpaaefaaROp
import Derived.Test.YtemladlnpaaefaaLayTrail
set_option linter.unusedVariables false
set_option linter.unusedSimpArgs false
set_option linter.unnecessarySimpa false
namespace Go.Proofs.Ytemladlnpaaefaa
open Go.RowKit

theorem add_pos18 (a : Addr) {n : Nat} (h : n ≠ 0) : a.add n = ⟨a.block, a.off + n, none⟩ := by unfold Addr.add; rw [if_neg h]
set_option maxRecDepth 100000 in
set_option maxHeartbeats 8000000 in
theorem RTrail (u : Value) (hs : List Hp) (vb : Value) (bs : List UInt8) (w : World) (F : Fp) (hu : Hops w F u hs) (hv : (Ty.sl .u8).holds w F [vb] bs) (hF : ∀ b, F b → b < w.heap.size) (hb : bs.length + 20 * List.length (α := Hp) hs ≤ 140737488350000) :
    Calls Try.prog 24 #[vb, u] w fun e w' => ∃ v', e = .returned v' ∧ OwnB w' v' (bs ++ trailB hs) ∧ Fresh w w' v' := by
  obtain ⟨i0, hi, hz0, hz1, hz2⟩ := info_parts u8_info
  obtain ⟨A, d, xs, hvu, hld, hdm, hA, hcell, hall⟩ := hops_open hu
  subst hvu
  clear hu
  unfold maxLen at hdm
  obtain ⟨B, e0, hvb⟩ : ∃ B e0, vb = .slice B bs.length e0 := by
    obtain ⟨A, c, xs', hv, _⟩ := hv
    exact ⟨A, c, by simpa using hv⟩
  subst hvb
  obtain ⟨n8, hn8⟩ : ∃ n8, n8 = byteOf ((List.length (α := Hp) hs : Nat) : Int) := ⟨_, rfl⟩
  have hconv : ((List.length (α := Hp) hs : Nat) : Int) % 256 = ((n8.toNat : Nat) : Int) := by rw [hn8, byteOf_eq]
  have hx1 : Ext w (w.alloc (.cells #[] 5)) := (Ext.refl w).alloc _
  have hsrc := src_bytes (hx1.holds hF hv)
  have HN8 := Lib.hid hn8
  have HFW := Lib.hid hF
  have HSRC := Lib.hid hsrc
  clear hn8 hv hsrc
  go_enter Try.func24, Try.ntmps24
  go_wp2_with (first
    | (at_builtin
       refine wpList_app _ rfl (.tmp 6) (.tmp 7) _ _ rfl 5 5 i0 _ 1 1 Try.underlying42 Try.underlying42 hi hz0 hz1 hz2 rfl (by decide) (.slice (some ⟨w.heap.size, 0, none⟩) 0 0) 0 [] rfl (own_empty rfl) B _ e0 (bv bs) rfl (by simp) HSRC.out (bv_one _) (by unfold maxLen; omega) (by omega) ?_
       intro v2 w2 ho2 hm2
       have hor : OwnB w2 v2 bs := by have h : OwnB w2 v2 ([] ++ bs) := OwnB.app ho2; simpa using h
       have hgr : ∀ b, v2.ownBlock = some b → w.heap.size ≤ b := fun b hb => by
         rcases hm2.at_ with e | hn
         · have h := e.symm.trans hb
           have : w.heap.size = b := by simpa [Value.ownBlock] using h
           omega
         · have h := hn b hb; simp at h; omega
       have hxx : Ext w w2 := grown_then hx1 hm2.grown (.inr fun b hb => by
         have : w.heap.size = b := by simpa [Value.ownBlock] using hb
         omega)
       have HOR := Lib.hid hor
       have HGR := Lib.hid hgr
       have HXX := Lib.hid hxx
       clear ho2 hm2 hor hgr hxx)
    | (at_builtin
       refine wpList_app _ rfl (.tmp 8) (.tmp 12) _ _ rfl 5 5 i0 _ 1 1 Try.underlying42 Try.underlying42 hi hz0 hz1 hz2 rfl (by decide) v2 _ _ rfl (HOR.out.ext ((Ext.refl w2).alloc _)) _ 1 1 (bv [n8]) rfl rfl (src_at rfl (bv [n8]) _ 1) (bv_one _) (by unfold maxLen; omega) (by omega) ?_
       intro v3 w3 ho3 hm3
       have HO3 : Hid (OwnB w3 v3 (bs ++ [n8])) := Lib.hid (OwnB.app ho3)
       have HG3 : Hid (∀ b, v3.ownBlock = some b → w.heap.size ≤ b) := Lib.hid (fun b hb => by
         rcases hm3.at_ with e | hn
         · exact HGR.out b (e.symm.trans hb)
         · have h1 := hn b hb; have h2 := HXX.out.size; simp at h1; omega)
       have HX3 : Hid (Ext w w3) := Lib.hid (grown_then (HXX.out.alloc _) hm3.grown (.inr HGR.out))
       clear ho3 hm3)
    | fail)
  go_loopw [0, 5] (fun t i wr => ∃ k : Nat, k ≤ List.length (α := Hp) hs ∧ i = .int .i64 k ∧ OwnB wr t ((bs ++ [n8]) ++ (hs.take k).flatMap hopB) ∧ Ext w wr ∧ (∀ b, t.ownBlock = some b → w.heap.size ≤ b)) (fun _ i _ => List.length (α := Hp) hs - (intOf i).toNat)
  case atStart => exact ⟨0, by omega, rfl, by simpa using HO3.out, HX3.out, HG3.out⟩
  case round =>
    clear HO3 HX3 HG3
    obtain ⟨k, hk, rfl, hot, hxt, hft⟩ := hrel
    by_cases hlt : k < List.length (α := Hp) hs
    · obtain ⟨ad, rfl, hf, hcells⟩ := hcell (by omega)
      obtain ⟨hcc, hok⟩ := hops_at hall (hcells.keep (hxt.same HFW.out _ hf)) hlt
      have htk : hs.take (k + 1) = hs.take k ++ [hs[k]] := List.take_succ_eq_append_getElem hlt
      have htl : List.length (α := Hp) (hs.take k) = k := by rw [List.length_take]; omega
      have hll : ((bs ++ [n8]) ++ (hs.take k).flatMap hopB).length = bs.length + 1 + 20 * k := by rw [List.length_append, List.length_append, hops_len, htl]; rfl
      have hstep : (bs ++ [n8]) ++ (hs.take (k + 1)).flatMap hopB = ((bs ++ [n8]) ++ (hs.take k).flatMap hopB) ++ hopB hs[k] := by rw [htk, List.flatMap_append]; simp
      generalize hdk : hs[k] = dk at *
      have hk0' := bounds_u32 hok.ch
      have hk0 : dk.1 < 18446744073709551616 := Int.ofNat_lt.1 (Int.lt_of_le_of_lt hk0'.2 (by decide))
      have hkw : ((dk.1 : Nat) : Int) % 18446744073709551616 = dk.1 := Int.emod_eq_of_lt hk0'.1 (Int.lt_of_le_of_lt hk0'.2 (by decide))
      have hk1 := wf_lt hok.am
      have hk2 := wf_lt hok.id
      obtain ⟨bs2, hbs2⟩ : ∃ bs2, bs2 = (bs ++ [n8]) ++ (hs.take k).flatMap hopB := ⟨_, rfl⟩
      rw [← hbs2] at hot hll hstep
      have hadl : ad.block < wr.heap.size := Nat.lt_of_lt_of_le (HFW.out _ hf) hxt.size
      have hne : ∀ b, u0.ownBlock = some b → b ≠ ad.block := fun b hb e => by have h1 := hft b hb; have h2 := HFW.out _ hf; omega
      have q0 : wr.cell? (ad.add (k * 3)) = some (.int .u32 (dk.1 : Int)) := by have h := hcc 0 _ rfl; simpa [Addr.add] using h
      have q1 : wr.cell? ⟨(ad.add (k * 3)).block, (ad.add (k * 3)).off + 1, none⟩ = some (.int .u64 (dk.2.1 : Int)) := by have h := hcc 1 _ rfl; rwa [add_pos18 _ (by decide)] at h
      have q2 : wr.cell? ⟨(ad.add (k * 3)).block, (ad.add (k * 3)).off + 2, none⟩ = some (.int .u64 (dk.2.2.1 : Int)) := by have h := hcc 2 _ rfl; rwa [add_pos18 _ (by decide)] at h
      have HO := Lib.hid hot
      have HX2 := Lib.hid hxt
      have HF2 := Lib.hid hft
      have HLL := Lib.hid hll
      have HST := Lib.hid hstep
      have HBS2 := Lib.hid hbs2
      have HNE := Lib.hid hne
      clear hot hxt hft hll hstep hbs2 hne htk htl hcells hdk hcc
      go_wp2
      have hoq : OwnB wr.drew u0 bs2 := HO.out.ext (Ext.refl _).drew
      have hxq : Ext w wr.drew := HX2.out.drew
      have q0 : wr.drew.cell? (ad.add (k * 3)) = some (.int .u32 (dk.1 : Int)) := q0
      have q1 : wr.drew.cell? ⟨(ad.add (k * 3)).block, (ad.add (k * 3)).off + 1, none⟩ = some (.int .u64 (dk.2.1 : Int)) := q1
      have q2 : wr.drew.cell? ⟨(ad.add (k * 3)).block, (ad.add (k * 3)).off + 2, none⟩ = some (.int .u64 (dk.2.2.1 : Int)) := q2
      have hadl : ad.block < wr.drew.heap.size := hadl
      refine startM (KeepB fun b => b = ad.block) (by kernel_rfl) ?_
      (try simp only [Act.put, List.setIfInBounds_toArray, List.set_cons_succ, List.set_cons_zero])
      generalize wr.drew = w0 at *
      have HQ0 := Lib.hid q0
      have HQ1 := Lib.hid q1
      have HQ2 := Lib.hid q2
      have hJ0 : CJ ad.block w0 u0 u0 bs2 [] w0 := CJ.start hadl hoq HNE.out
      have HXQ := Lib.hid hxq
      clear hoq hxq q0 q1 q2 hadl
      refine takeK 0 rfl (by kernel_rfl) (by kernel_rfl) (by kernel_rfl) rfl (fun _ _ _ _ h => h) rfl (fun K hK => ?_)
      go_big_quiet_op
      first | refine hK _ ?_ | refine ⟨_, fun _ _ => rfl, hK _ ?_⟩
      clear hK K
      refine takeK 1 rfl (by kernel_rfl) (by kernel_rfl) (by kernel_rfl) rfl (fun _ _ _ _ h => h) rfl (fun K hK => ?_)
      go_big_quiet_op
      first | refine hK _ ?_ | refine ⟨_, fun _ _ => rfl, hK _ ?_⟩
      clear hK K
      refine takeK 2 rfl (by kernel_rfl) (by kernel_rfl) (by kernel_rfl) rfl (fun _ _ _ _ h => h) rfl (fun K hK => ?_)
      go_big_quiet_op
      first | refine hK _ ?_ | refine ⟨_, fun _ _ => rfl, hK _ ?_⟩
      clear hK K
      refine takeK 3 rfl (by kernel_rfl) (by kernel_rfl) (by kernel_rfl) rfl (fun _ _ _ _ h => h) rfl (fun K hK => ?_)
      go_big_quiet_op
      first | refine hK _ ?_ | refine ⟨_, fun _ _ => rfl, hK _ ?_⟩
      clear hK K
      refine takeK 4 rfl (by kernel_rfl) (by kernel_rfl) (by kernel_rfl) rfl (fun _ _ _ _ h => h) rfl (fun K hK => ?_)
      go_big_quiet_op
      first | refine hK _ ?_ | refine ⟨_, fun _ _ => rfl, hK _ ?_⟩
      clear hK K
      refine takeK 5 rfl (by kernel_rfl) (by kernel_rfl) (by kernel_rfl) rfl (fun _ _ _ _ h => h) rfl (fun K hK => ?_)
      refine quiet_cell _ _ rfl _ rfl _ _ Try.underlying22 rfl (fun W' h => KeepB.cell h HQ0.out (add_block _ _)) ?_
      refine hK _ ?_
      simp only [Act.put, List.setIfInBounds_toArray, List.set_cons_succ, List.set_cons_zero]
      clear hK K
      refine takeK 6 rfl (by kernel_rfl) (by kernel_rfl) (by kernel_rfl) rfl (fun _ _ _ _ h => h) rfl (fun K hK => ?_)
      go_big_quiet_op
      first | refine hK _ ?_ | refine ⟨_, fun _ _ => rfl, hK _ ?_⟩
      clear hK K
      refine takeK 8 rfl (by kernel_rfl) (by kernel_rfl) (by kernel_rfl) rfl (fun _ _ _ _ h => h) rfl (fun K hK => ?_)
      go_big_quiet_op
      first | refine hK _ ?_ | refine ⟨_, fun _ _ => rfl, hK _ ?_⟩
      clear hK K
      refine takeK 9 rfl (by kernel_rfl) (by kernel_rfl) (by kernel_rfl) rfl (fun _ _ _ _ h => h) rfl (fun K hK => ?_)
      go_big_quiet_op
      first | refine hK _ ?_ | refine ⟨_, fun _ _ => rfl, hK _ ?_⟩
      clear hK K
      refine takeK 10 rfl (by kernel_rfl) (by kernel_rfl) (by kernel_rfl) rfl (fun _ _ _ _ h => h) rfl (fun K hK => ?_)
      go_big_quiet_op
      first | refine hK _ ?_ | refine ⟨_, fun _ _ => rfl, hK _ ?_⟩
      clear hK K
      refine takeK 11 rfl (by kernel_rfl) (by kernel_rfl) (by kernel_rfl) rfl (fun _ _ _ _ h => h) rfl (fun K hK => ?_)
      go_big_quiet_op
      first | refine hK _ ?_ | refine ⟨_, fun _ _ => rfl, hK _ ?_⟩
      clear hK K
      refine takeK 12 rfl (by kernel_rfl) (by kernel_rfl) (by kernel_rfl) rfl (fun _ _ _ _ h => h) rfl (fun K hK => ?_)
      refine quiet_cell _ _ rfl _ rfl _ _ Try.underlying23 rfl (fun W' h => KeepB.cell h HQ1.out (add_block _ _)) ?_
      refine hK _ ?_
      simp only [Act.put, List.setIfInBounds_toArray, List.set_cons_succ, List.set_cons_zero]
      clear hK K
      refine takeK 14 rfl (by kernel_rfl) (by kernel_rfl) (by kernel_rfl) rfl (fun _ _ _ _ h => h) rfl (fun K hK => ?_)
      go_big_quiet_op
      first | refine hK _ ?_ | refine ⟨_, fun _ _ => rfl, hK _ ?_⟩
      clear hK K
      refine takeK 15 rfl (by kernel_rfl) (by kernel_rfl) (by kernel_rfl) rfl (fun _ _ _ _ h => h) rfl (fun K hK => ?_)
      go_big_quiet_op
      first | refine hK _ ?_ | refine ⟨_, fun _ _ => rfl, hK _ ?_⟩
      clear hK K
      refine takeK 16 rfl (by kernel_rfl) (by kernel_rfl) (by kernel_rfl) rfl (fun _ _ _ _ h => h) rfl (fun K hK => ?_)
      go_big_quiet_op
      first | refine hK _ ?_ | refine ⟨_, fun _ _ => rfl, hK _ ?_⟩
      clear hK K
      refine takeK 17 rfl (by kernel_rfl) (by kernel_rfl) (by kernel_rfl) rfl (fun _ _ _ _ h => h) rfl (fun K hK => ?_)
      go_big_quiet_op
      first | refine hK _ ?_ | refine ⟨_, fun _ _ => rfl, hK _ ?_⟩
      clear hK K
      refine takeK 18 rfl (by kernel_rfl) (by kernel_rfl) (by kernel_rfl) rfl (fun _ _ _ _ h => h) rfl (fun K hK => ?_)
      refine quiet_cell _ _ rfl _ rfl _ _ Try.underlying23 rfl (fun W' h => KeepB.cell h HQ2.out (add_block _ _)) ?_
      refine hK _ ?_
      simp only [Act.put, List.setIfInBounds_toArray, List.set_cons_succ, List.set_cons_zero]
      clear hK K
      apply lat2 (fun v27 v33 W => CJ ad.block w0 u0 v33 ((bs2 ++ be 4 dk.1) ++ be 8 dk.2.1) [] W)
      intro hM1
      apply lat1 (fun v27 W => CJ ad.block w0 u0 v27 (bs2 ++ be 4 dk.1) [] W)
      intro hM0
      · have HJ := Lib.hid hJ0
        refine stepM 7 rfl (by kernel_rfl) rfl (fun K hK => ?_)
        go_simp
        (try simp only [hkw])
        refine (HJ.out.num dk.1 4 hk0 (by omega) (by have h1 := HLL.out; simp only [List.length_append, List.length_cons, List.length_nil, be_length, h1]; omega)).mono ?_
        rintro e W ⟨v27, rfl, hJ, hkb⟩
        have HJ := Lib.hid hJ
        clear hJ
        refine hK _ _ hkb ?_
        clear hK K
        exact hM0 v27 _ (HJ.out.sub (by intro x hx; cases hx))
      · intro v27 W hJ
        have HJ := Lib.hid hJ
        clear hJ
        refine stepM 13 rfl (by kernel_rfl) rfl (fun K hK => ?_)
        go_simp
        refine (HJ.out.num dk.2.1 8 hk1 (by omega) (by have h1 := HLL.out; simp only [List.length_append, List.length_cons, List.length_nil, be_length, h1]; omega)).mono ?_
        rintro e W ⟨v33, rfl, hJ, hkb⟩
        have HJ := Lib.hid hJ
        clear hJ
        refine hK _ _ hkb ?_
        clear hK K
        exact hM1 v27 v33 _ (HJ.out.sub (by intro x hx; cases hx))
      intro v27 v33 W hJ
      have HJ := Lib.hid hJ
      clear hJ
      refine stepM 19 rfl (by kernel_rfl) rfl (fun K hK => ?_)
      go_simp
      refine (HJ.out.num dk.2.2.1 8 hk2 (by omega) (by have h1 := HLL.out; simp only [List.length_append, List.length_cons, List.length_nil, be_length, h1]; omega)).mono ?_
      rintro e W ⟨v39, rfl, hJ, hkb⟩
      have HJ := Lib.hid hJ
      clear hJ
      refine hK _ _ hkb ?_
      clear hK K
      refine takeK 20 rfl (by kernel_rfl) (by kernel_rfl) (by kernel_rfl) rfl (fun _ _ _ _ h => h) rfl (fun K hK => ?_)
      go_big_quiet_op
      first | refine hK _ ?_ | refine ⟨_, fun _ _ => rfl, hK _ ?_⟩
      clear hK K
      refine doneM (by kernel_rfl) ?_ _
      have ho9 : OwnB W v39 ((bs ++ [n8]) ++ (hs.take (k + 1)).flatMap hopB) := by rw [HST.out]; simpa [hopB] using HJ.out.own
      have hx9 : Ext w W := grown_then HXQ.out HJ.out.mv.grown (.inr HF2.out)
      have hf9 : ∀ b, v39.ownBlock = some b → w.heap.size ≤ b := fun b hb => by
        rcases HJ.out.mv.at_ with e | hn
        · exact HF2.out b (e.symm.trans hb)
        · exact Nat.le_trans HXQ.out.size (hn b hb)
      have HO9 := Lib.hid ho9
      have HX9 := Lib.hid hx9
      have HF9 := Lib.hid hf9
      clear HJ ho9 hx9 hf9
      go_wp2
      go_roundw
      case rel => exact ⟨k + 1, by omega, by go_num, HO9.out, HX9.out, HF9.out⟩
      case measure => simp [intOf]; omega
    · obtain rfl : k = List.length (α := Hp) hs := by omega
      go_wp2
      go_ret
      have htk : hs.take (List.length (α := Hp) hs) = hs := List.take_length
      rw [htk] at hot
      exact ⟨_, rfl, by simpa [trailB, HN8.out] using hot, ⟨hxt, .inr hft⟩⟩
end Go.Proofs.Ytemladlnpaaefaa
