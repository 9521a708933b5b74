/- The walk of lamp's Take. Condition: the bytes are there. -/
import Derived.Test.YtfoomnibfibfnaaLSecret
import Derived.Test.YtfoomnibfibfnaaIn
import Derived.Test.YtfoomnibfibfnaaTo04
set_option linter.unusedVariables false
set_option linter.unusedSimpArgs false
set_option linter.unnecessarySimpa false
namespace Go.Proofs.Ytfoomnibfibfnaa
open Go.RowKit

/-- What is left behind k sums. -/
def stT (s : InS) : Nat → InS
  | 0 => s
  | k + 1 => (sumM (stT s k)).2
def takeO (s : InS) (k : Nat) : List UInt8 := (sumM (stT s k)).1.take 16
def takeT (s : InS) (k : Nat) : List UInt8 := (sumM (stT s k)).1.drop 16
theorem sumM_length (s : InS) : (sumM s).1.length = 32 := by
  have h := cutM_len 32 s
  show ((cutM 32 s).1 ++ List.replicate (32 - (cutM 32 s).1.length) 0).length = 32
  rw [List.length_append, List.length_replicate]; omega
theorem takeO_length (s : InS) (k : Nat) : (takeO s k).length = 16 := by unfold takeO; rw [List.length_take, sumM_length]; rfl
theorem takeT_length (s : InS) (k : Nat) : (takeT s k).length = 16 := by unfold takeT; rw [List.length_drop, sumM_length]
def takeS (s : InS) : List UInt8 := piecesM (takeO s) 32 ++ piecesM (takeT s) 32
theorem takeS_length (s : InS) : (takeS s).length = 1024 := by
  unfold takeS
  rw [List.length_append, piecesM_length (takeO_length s), piecesM_length (takeT_length s)]
theorem take_open (s : InS) {k : Nat} (h : k < 32) : ((bv (takeS s)).drop (k * 16)).take 16 = bv (takeO s k) := by
  have e := pieceAt_pieces (takeO_length s) h
  have hl : (piecesM (takeO s) 32).length = 512 := piecesM_length (takeO_length s) 32
  unfold pieceAt at e
  rw [← e, bv, ← List.map_drop, ← List.map_take, takeS, List.drop_append_of_le_length (by rw [hl]; omega), List.take_append_of_le_length (by rw [List.length_drop, hl]; omega), Nat.mul_comm 16 k]
  rfl
theorem take_other (s : InS) {k : Nat} (h : k < 32) : ((bv (takeS s)).drop (512 + k * 16)).take 16 = bv (takeT s k) := by
  have e := pieceAt_pieces (takeT_length s) h
  have hl : (piecesM (takeO s) 32).length = 512 := piecesM_length (takeO_length s) 32
  unfold pieceAt at e
  rw [← e, bv, ← List.map_drop, ← List.map_take, takeS, ← List.drop_drop, List.drop_left' hl, Nat.mul_comm 16 k]
  rfl
theorem putAt_of (cur : List Value) (off : Nat) (P : List UInt8) (h : P.length = 16) : cur.take off ++ bv (P.take 16) ++ cur.drop (off + 16) = putAt cur off (bv P) := by
  have e : P.take 16 = P := List.take_of_length_le (by omega)
  unfold putAt
  rw [e, bv_length, h]
theorem tsig_size {n : Nat} (h : n = 1024) : (Try.prog.info? 43).map (·.size) = some n := by subst h; kernel_rfl
set_option maxRecDepth 100000 in
set_option maxHeartbeats 8000000 in
theorem Take {g q : Nat} {s : InS} (w : World) (h : InAt w g q s) :
    Calls Try.prog 23 #[.pointer (some ⟨g, 0, none⟩)] w fun e w' => e = .returned (.agg (bv (takeS s)).toArray) ∧ InAt w' g q (stT s 32) ∧ w.grownBy w' (some g) := by
  obtain ⟨Z, hz, hzl, hzo⟩ : ∃ Z : List Value, (Try.prog.info? 43).bind (fun i => i.zero.map (·.cells)) = some Z.toArray ∧ Z.length = 1024 ∧ ∀ u ∈ Z, u.oneCell' = true := ⟨_, zSigTo04, List.length_replicate, fun u hu => by rw [List.eq_of_mem_replicate hu]; rfl⟩
  obtain ⟨ZD, hzd, hzdl⟩ : ∃ ZD : List Value, (Try.prog.info? 31).bind (fun i => i.zero.map (·.cells)) = some ZD.toArray ∧ ZD.length = 32 := ⟨_, digest_zero, by simp⟩
  have hgl := h.lt
  have hql : q < w.heap.size := h.2.1
  have hC : (bv (takeS s)).length = 1024 := by rw [bv_length, takeS_length]
  have hone := bv_one (takeS s)
  have hop := fun k (h : k < 32) => take_open s h
  have hot := fun k (h : k < 32) => take_other s h
  have hb2 : Blk ((w.alloc (.cells Z.toArray 43)).alloc (.cells Z.toArray 43)) w.heap.size 43 Z := (Blk.new _ _ _).keep ((Ext.refl _).alloc _) (by simp)
  have hb3 : Blk ((w.alloc (.cells Z.toArray 43)).alloc (.cells Z.toArray 43)) (w.heap.size + 1) 43 Z := Blk.fresh (by simp) _ _
  have hx0 : Ext w ((w.alloc (.cells Z.toArray 43)).alloc (.cells Z.toArray 43)) := ((Ext.refl w).alloc _).alloc _
  have hin := h.ext hx0
  have hg0 : w.grownBy ((w.alloc (.cells Z.toArray 43)).alloc (.cells Z.toArray 43)) (some g) := hx0.any _
  generalize bv (takeS s) = C at *
  have HB2 := Lib.hid hb2
  have HB3 := Lib.hid hb3
  have HIN := Lib.hid hin
  have HG0 := Lib.hid hg0
  have HCL := Lib.hid hC
  have HZL := Lib.hid hzl
  have HZDL := Lib.hid hzdl
  have HOP := Lib.hid hop
  have HOT := Lib.hid hot
  have HGL := Lib.hid hgl
  have HQL := Lib.hid hql
  clear hb2 hb3 hx0 hin hg0 hC hzl hzdl hop hot hgl hql h
  go_enter Try.func23, Try.ntmps23
  go_wp2_with (first
    | (refine wpList_alloc _ rfl 43 rfl _ hz ?_)
    | fail)
  go_loopw [4, 5, 6] (fun p r i wr => ∃ k : Nat, k ≤ 32 ∧ i = .int .i64 k ∧ w.grownBy wr (some g) ∧ InAt wr g q (stT s k) ∧ Blk wr w.heap.size 43 Z ∧ Blk wr (w.heap.size + 1) 43 (mixAt C Z k)) (fun _ _ i _ => 32 - (intOf i).toNat)
  case atStart => exact ⟨0, by omega, rfl, HG0.out, HIN.out, HB2.out, by rw [mixAt_zero C Z HCL.out HZL.out]; exact HB3.out⟩
  case round =>
    clear HG0 HIN HB2 HB3
    obtain ⟨k, hk, rfl, hg, hin, hb2, hb3⟩ := hrel
    by_cases hlt : k < 32
    · have hst := mixAt_step C Z HCL.out HZL.out k hlt
      rw [HOP.out k hlt, HOT.out k hlt] at hst
      have hd32 := sumM_length (stT s k)
      have hdo := bv_one (sumM (stT s k)).1
      have hdl : (bv (sumM (stT s k)).1).length = 32 := by rw [bv_length]; exact hd32
      have ht1 : (bv (sumM (stT s k)).1).take 16 = bv (takeO s k) := by simp [takeO, bv, List.map_take]
      have ht2 : (bv (sumM (stT s k)).1).drop 16 = bv (takeT s k) := by simp [takeT, bv, List.map_drop]
      have hp1 := takeO_length s k
      have hp2 := takeT_length s k
      have hsm := In_Sum (h := hin)
      have hs1 : (sumM (stT s k)).2 = stT s (k + 1) := rfl
      rw [hs1] at hsm
      generalize takeO s k = P1 at *
      generalize takeT s k = P2 at *
      generalize bv (sumM (stT s k)).1 = DD at *
      have hpll : (putAt (mixAt C Z k) (k * 16) (bv P1)).length = 1024 := by rw [putAt_len (by rw [mixAt_len, bv_length, hp1]; omega), mixAt_len]
      have HST := Lib.hid hst
      have HDL := Lib.hid hdl
      have HT1 := Lib.hid ht1
      have HT2 := Lib.hid ht2
      have HP1 := Lib.hid hp1
      have HP2 := Lib.hid hp2
      have HSM := Lib.hid hsm
      have HPLL := Lib.hid hpll
      have HG := Lib.hid hg
      have HB2 := Lib.hid hb2
      have HB3 := Lib.hid hb3
      clear hst hdl ht1 ht2 hp1 hp2 hsm hpll hg hb2 hb3 hin hd32 hs1
      go_wp2_with fail
      refine HSM.out.mono ?_
      rintro e w1 ⟨rfl, hin1, hg1⟩
      have hxd : Ext w1 (w1.alloc (.cells DD.toArray 31)).drew := ((Ext.refl w1).alloc _).trans (Ext.refl _).drew
      have hnd : ∀ b, b < w1.heap.size → b ≠ w1.heap.size := fun b hb => by omega
      have HIN1 := Lib.hid (hin1.ext hxd)
      have HG1 := Lib.hid (grown_then HG.out hg1 (.inl rfl))
      have HB21 := Lib.hid (HB2.out.keep hg1 (by have := HGL.out; simp; omega))
      have HB31 := Lib.hid (HB3.out.keep hg1 (by have := HGL.out; simp; omega))
      have HBD : Hid (Blk (w1.alloc (.cells DD.toArray 31)).drew w1.heap.size 31 DD) := Lib.hid ((Blk.new _ _ _).keep (Ext.refl _).drew (by simp))
      have HBS := Lib.hid (HB31.out.keep hxd (by simp))
      have HB22 := Lib.hid (HB21.out.keep hxd (by simp))
      have HG2 : Hid (w.grownBy (w1.alloc (.cells DD.toArray 31)).drew (some g)) := Lib.hid (grown_then HG1.out (hxd.any _) (.inl rfl))
      have HLT3 : Hid (w.heap.size + 1 < w1.heap.size) := Lib.hid HB31.out.lt
      clear hin1 hg1 hxd hnd
      go_wp2_with (first
        | (refine wpList_alloc _ rfl 31 rfl _ hzd ?_)
        | (refine wpList_store_new _ rfl 31 (.tmp 5) (.tmp 10) rfl rfl ZD DD _ rfl (digest_size HDL.out) (by rw [HDL.out, HZDL.out]) hdo ?_)
        | fail)
      have HK1 : Hid (∀ W, Ext (w1.alloc (.cells DD.toArray 31)).drew W → Cells W ⟨w1.heap.size, 0, none⟩ (bv P1)) := Lib.hid fun W h => by have h2 := (HBD.out.keep h (by simp)).cells.take 16; rw [HT1.out] at h2; exact h2
      generalize hgs : w.heap.size + 1 = gs at *
      generalize hgd : w1.heap.size = gd at *
      generalize hV : w1.alloc (.cells DD.toArray 31) = V at *
      have HGS := Lib.hid hgs
      have HGD := Lib.hid hgd
      have hdk : decide ((k : Int) < 32) = true := by rw [decide_eq_true_iff]; omega
      (try simp only [hdk])
      clear hgs hgd hV hdk
      refine stab_store Ext ext_refl ext_trans [[0], [1], [0, 1, 2], [0, 1, 2, 3], [4], [0, 1, 2, 3, 4, 5]] (fun i v wv => match i with | 0 => v = .int .i64 (k : Int) | 1 => v = .pointer (some ⟨gs, 0, none⟩) | 2 => v = .pointer (some ⟨gs, k * 16, none⟩) | 3 => v = .slice (some ⟨gs, k * 16, none⟩) 16 16 | 4 => v = .slice (some ⟨gd, 0, none⟩) 16 32 | _ => True) (by kernel_rfl) (by kernel_rfl) (by kernel_rfl) (by kernel_rfl) (by simp) ?_ ?_ ?_
      · intro i v w1 w2 h hx
        match i, h with
        | 0, h => exact h
        | 1, h => exact h
        | 2, h => exact h
        | 3, h => exact h
        | 4, h => exact h
        | i + 5, h => trivial
      · intro i hi o ho
        match i, hi, ho with
        | 0, _, ho =>
          obtain rfl := Option.some.inj ho
          intro s W hX hd K hK
          rw [if_pos (wanted_plain rfl)]
          clear hd
          replace hK : ∀ (v : Value) (W' : World), Ext W W' → (v = .int .i64 (k : Int)) → _ := hK
          simp only [mkOf, List.map_cons, List.map_nil, Act.put, List.setIfInBounds_toArray, List.set_cons_succ, List.set_cons_zero, Nat.reduceAdd, Nat.zero_add] at hK ⊢
          go_simp
          exact hK _ _ (Ext.refl _) rfl
        | 1, _, ho =>
          obtain rfl := Option.some.inj ho
          intro s W hX hd K hK
          rw [if_pos (wanted_plain rfl)]
          clear hd
          replace hK : ∀ (v : Value) (W' : World), Ext W W' → (v = .pointer (some ⟨gs, 0, none⟩)) → _ := hK
          simp only [mkOf, List.map_cons, List.map_nil, Act.put, List.setIfInBounds_toArray, List.set_cons_succ, List.set_cons_zero, Nat.reduceAdd, Nat.zero_add] at hK ⊢
          go_simp
          exact hK _ _ (Ext.refl _) rfl
        | 2, _, ho =>
          obtain rfl := Option.some.inj ho
          intro s W hX hd K hK
          rw [if_pos (wanted_plain rfl)]
          have d11 : (s 0) = .int .i64 (k : Int) := hd 0 (by decide) (by decide)
          have d12 : (s 1) = .pointer (some ⟨gs, 0, none⟩) := hd 1 (by decide) (by decide)
          clear hd
          replace hK : ∀ (v : Value) (W' : World), Ext W W' → (v = .pointer (some ⟨gs, k * 16, none⟩)) → _ := hK
          simp only [mkOf, List.map_cons, List.map_nil, Act.put, List.setIfInBounds_toArray, List.set_cons_succ, List.set_cons_zero, Nat.reduceAdd, Nat.zero_add] at hK ⊢
          simp only [d11, d12] at hK ⊢
          go_simp
          exact hK _ _ (Ext.refl _) rfl
        | 3, _, ho =>
          obtain rfl := Option.some.inj ho
          intro s W hX hd K hK
          rw [if_pos (wanted_plain rfl)]
          have d13 : (s 2) = .pointer (some ⟨gs, k * 16, none⟩) := hd 2 (by decide) (by decide)
          clear hd
          replace hK : ∀ (v : Value) (W' : World), Ext W W' → (v = .slice (some ⟨gs, k * 16, none⟩) 16 16) → _ := hK
          simp only [mkOf, List.map_cons, List.map_nil, Act.put, List.setIfInBounds_toArray, List.set_cons_succ, List.set_cons_zero, Nat.reduceAdd, Nat.zero_add] at hK ⊢
          simp only [d13] at hK ⊢
          go_simp
          exact hK _ _ (Ext.refl _) rfl
        | 4, _, ho =>
          obtain rfl := Option.some.inj ho
          intro s W hX hd K hK
          rw [if_pos (wanted_plain rfl)]
          clear hd
          replace hK : ∀ (v : Value) (W' : World), Ext W W' → (v = .slice (some ⟨gd, 0, none⟩) 16 32) → _ := hK
          simp only [mkOf, List.map_cons, List.map_nil, Act.put, List.setIfInBounds_toArray, List.set_cons_succ, List.set_cons_zero, Nat.reduceAdd, Nat.zero_add] at hK ⊢
          go_simp
          exact hK _ _ (Ext.refl _) rfl
        | i + 5, hi, _ => exact absurd hi (by simp)
      · intro o ho
        obtain rfl := Option.some.inj ho
        intro s W hX hd K hK
        rw [if_pos (wanted_plain rfl)]
        have d11 : (s 0) = .int .i64 (k : Int) := hd 0 (by decide)
        have d12 : (s 1) = .pointer (some ⟨gs, 0, none⟩) := hd 1 (by decide)
        have d13 : (s 2) = .pointer (some ⟨gs, k * 16, none⟩) := hd 2 (by decide)
        have d14 : (s 3) = .slice (some ⟨gs, k * 16, none⟩) 16 16 := hd 3 (by decide)
        have d15 : (s 4) = .slice (some ⟨gd, 0, none⟩) 16 32 := hd 4 (by decide)
        clear hd
        simp only [mkOf, List.map_cons, List.map_nil, Act.put, List.setIfInBounds_toArray, List.set_cons_succ, List.set_cons_zero, Nat.reduceAdd, Nat.zero_add]
        refine wp_copyB (.tmp 14) (.tmp 15) 55 55 rfl 5 Try.underlying55 u8_size1 gs (k * 16) 16 16 (by simpa [Act.eval] using d14) _ 16 32 (by simpa [Act.eval] using d15) P1 HP1.out (fun _ => ⟨_, rfl, HK1.out W hX⟩) (mixAt C Z k) _ (HBS.out.keep hX (by simp)) 16 rfl (by rw [mixAt_len]; omega) ?_
        intro W5 hW5 hg5
        refine hK _ _ ?_
        have hW5' : Blk W5 gs 43 (putAt (mixAt C Z k) (k * 16) (bv P1)) := by
          have e := putAt_of (mixAt C Z k) (k * 16) P1 HP1.out
          rw [← e]; exact hW5
        have hlt3 := HLT3.out
        have hgs3 := HGS.out
        have hgl3 := HGL.out
        have hql3 := HQL.out
        have hx5 := (Ext.refl W5).drew
        have HBS2 := Lib.hid (hW5'.keep hx5 (by simp))
        have HBD2 := Lib.hid (((HBD.out.keep hX (by simp)).keep hg5 (by simp; omega)).keep hx5 (by simp))
        have HB23 := Lib.hid (((HB22.out.keep hX (by simp)).keep hg5 (by simp; omega)).keep hx5 (by simp))
        have HIN2 := Lib.hid (((HIN1.out.ext hX).keep hg5 (by simp; omega) (by simp; omega)).ext hx5)
        have HG3 := Lib.hid (grown_then (grown_then (grown_then HG2.out (hX.any (some g)) (.inl rfl)) hg5 (.inr (by rintro b ⟨⟩; omega))) (hx5.any (some g)) (.inl rfl))
        have HK2 : Hid (∀ W7, Ext W5.drew W7 → Cells W7 ⟨gd, 16, none⟩ (bv P2)) := Lib.hid fun W7 h => by have h2 := (HBD2.out.keep h (by simp)).cells.drop 16; rw [addr_at, HT2.out] at h2; exact h2
        clear hX hK hW5 hg5 hW5' hx5 hlt3 hgs3 hgl3 hql3 d11 d12 d13 d14 d15 HK1 HBD HB22 HIN1 HG2 HBS
        (try simp only [Exit.then])
        go_wp2_with fail
        refine stab_store Ext ext_refl ext_trans [[0], [1], [0, 1, 2], [0, 1, 2, 3], [4], [0, 1, 2, 3, 4, 5]] (fun i v wv => match i with | 0 => v = .int .i64 (k : Int) | 1 => v = .pointer (some ⟨gs, 512, none⟩) | 2 => v = .pointer (some ⟨gs, 512 + k * 16, none⟩) | 3 => v = .slice (some ⟨gs, 512 + k * 16, none⟩) 16 16 | 4 => v = .slice (some ⟨gd, 16, none⟩) 16 16 | _ => True) (by kernel_rfl) (by kernel_rfl) (by kernel_rfl) (by kernel_rfl) (by simp) ?_ ?_ ?_
        · intro i v w1 w2 h hx
          match i, h with
          | 0, h => exact h
          | 1, h => exact h
          | 2, h => exact h
          | 3, h => exact h
          | 4, h => exact h
          | i + 5, h => trivial
        · intro i hi o ho
          match i, hi, ho with
          | 0, _, ho =>
            obtain rfl := Option.some.inj ho
            intro s W2 hX hd K hK
            rw [if_pos (wanted_plain rfl)]
            clear hd
            replace hK : ∀ (v : Value) (W2' : World), Ext W2 W2' → (v = .int .i64 (k : Int)) → _ := hK
            simp only [mkOf, List.map_cons, List.map_nil, Act.put, List.setIfInBounds_toArray, List.set_cons_succ, List.set_cons_zero, Nat.reduceAdd, Nat.zero_add] at hK ⊢
            go_simp
            exact hK _ _ (Ext.refl _) rfl
          | 1, _, ho =>
            obtain rfl := Option.some.inj ho
            intro s W2 hX hd K hK
            rw [if_pos (wanted_plain rfl)]
            clear hd
            replace hK : ∀ (v : Value) (W2' : World), Ext W2 W2' → (v = .pointer (some ⟨gs, 512, none⟩)) → _ := hK
            simp only [mkOf, List.map_cons, List.map_nil, Act.put, List.setIfInBounds_toArray, List.set_cons_succ, List.set_cons_zero, Nat.reduceAdd, Nat.zero_add] at hK ⊢
            go_simp
            exact hK _ _ (Ext.refl _) rfl
          | 2, _, ho =>
            obtain rfl := Option.some.inj ho
            intro s W2 hX hd K hK
            rw [if_pos (wanted_plain rfl)]
            have d17 : (s 0) = .int .i64 (k : Int) := hd 0 (by decide) (by decide)
            have d18 : (s 1) = .pointer (some ⟨gs, 512, none⟩) := hd 1 (by decide) (by decide)
            clear hd
            replace hK : ∀ (v : Value) (W2' : World), Ext W2 W2' → (v = .pointer (some ⟨gs, 512 + k * 16, none⟩)) → _ := hK
            simp only [mkOf, List.map_cons, List.map_nil, Act.put, List.setIfInBounds_toArray, List.set_cons_succ, List.set_cons_zero, Nat.reduceAdd, Nat.zero_add] at hK ⊢
            simp only [d17, d18] at hK ⊢
            go_simp
            exact hK _ _ (Ext.refl _) rfl
          | 3, _, ho =>
            obtain rfl := Option.some.inj ho
            intro s W2 hX hd K hK
            rw [if_pos (wanted_plain rfl)]
            have d19 : (s 2) = .pointer (some ⟨gs, 512 + k * 16, none⟩) := hd 2 (by decide) (by decide)
            clear hd
            replace hK : ∀ (v : Value) (W2' : World), Ext W2 W2' → (v = .slice (some ⟨gs, 512 + k * 16, none⟩) 16 16) → _ := hK
            simp only [mkOf, List.map_cons, List.map_nil, Act.put, List.setIfInBounds_toArray, List.set_cons_succ, List.set_cons_zero, Nat.reduceAdd, Nat.zero_add] at hK ⊢
            simp only [d19] at hK ⊢
            go_simp
            exact hK _ _ (Ext.refl _) rfl
          | 4, _, ho =>
            obtain rfl := Option.some.inj ho
            intro s W2 hX hd K hK
            rw [if_pos (wanted_plain rfl)]
            clear hd
            replace hK : ∀ (v : Value) (W2' : World), Ext W2 W2' → (v = .slice (some ⟨gd, 16, none⟩) 16 16) → _ := hK
            simp only [mkOf, List.map_cons, List.map_nil, Act.put, List.setIfInBounds_toArray, List.set_cons_succ, List.set_cons_zero, Nat.reduceAdd, Nat.zero_add] at hK ⊢
            go_simp
            exact hK _ _ (Ext.refl _) rfl
          | i + 5, hi, _ => exact absurd hi (by simp)
        · intro o ho
          obtain rfl := Option.some.inj ho
          intro s W2 hX hd K hK
          rw [if_pos (wanted_plain rfl)]
          have d17 : (s 0) = .int .i64 (k : Int) := hd 0 (by decide)
          have d18 : (s 1) = .pointer (some ⟨gs, 512, none⟩) := hd 1 (by decide)
          have d19 : (s 2) = .pointer (some ⟨gs, 512 + k * 16, none⟩) := hd 2 (by decide)
          have d20 : (s 3) = .slice (some ⟨gs, 512 + k * 16, none⟩) 16 16 := hd 3 (by decide)
          have d21 : (s 4) = .slice (some ⟨gd, 16, none⟩) 16 16 := hd 4 (by decide)
          clear hd
          simp only [mkOf, List.map_cons, List.map_nil, Act.put, List.setIfInBounds_toArray, List.set_cons_succ, List.set_cons_zero, Nat.reduceAdd, Nat.zero_add]
          refine wp_copyB (.tmp 20) (.tmp 21) 55 55 rfl 5 Try.underlying55 u8_size1 gs (512 + k * 16) 16 16 (by simpa [Act.eval] using d20) _ 16 16 (by simpa [Act.eval] using d21) P2 HP2.out (fun _ => ⟨_, rfl, HK2.out W2 hX⟩) (putAt (mixAt C Z k) (k * 16) (bv P1)) _ (HBS2.out.keep hX (by simp)) 16 rfl (by rw [HPLL.out]; omega) ?_
          intro W6 hW6 hg6
          refine hK _ _ ?_
          have hW6' : Blk W6 gs 43 (mixAt C Z (k + 1)) := by
            have e := putAt_of (putAt (mixAt C Z k) (k * 16) (bv P1)) (512 + k * 16) P2 HP2.out
            rw [HST.out] at e
            rw [← e]; exact hW6
          have hlt3 := HLT3.out
          have hgs3 := HGS.out
          have hgl3 := HGL.out
          have hql3 := HQL.out
          have HB24 := Lib.hid ((HB23.out.keep hX (by simp)).keep hg6 (by simp; omega))
          have HIN3 := Lib.hid ((HIN2.out.ext hX).keep hg6 (by simp; omega) (by simp; omega))
          have HG4 := Lib.hid (grown_then (grown_then HG3.out (hX.any (some g)) (.inl rfl)) hg6 (.inr (by rintro b ⟨⟩; omega)))
          have HBS3 := Lib.hid hW6'
          clear hX hK hW6 hg6 hW6' hlt3 hgl3 hql3
          subst hgs3
          (try simp only [Exit.then])
          go_wp2_with fail
          go_roundw
          case rel => exact ⟨k + 1, by omega, by go_num, HG4.out, HIN3.out, HB24.out, HBS3.out⟩
          case measure => simp [intOf]; omega
    · obtain rfl : k = 32 := by omega
      rw [mixAt_all C Z HCL.out HZL.out] at hb3
      have hcm := hb3.cells
      have hr2 : wr.heap[w.heap.size]? = some (.cells Z.toArray 43 (0, 0)) := hb2
      have HG := Lib.hid hg
      have HIN := Lib.hid hin
      have hgl3 := HGL.out
      have hql3 := HQL.out
      clear hg hb2 hb3 hin
      go_wp2_with (first
        | (refine wpList_load_agg _ rfl 43 (.tmp 3) rfl _ rfl C _ Try.underlying43 rfl (tsig_size HCL.out) hcm ?_)
        | (refine wpList_store_row _ rfl 43 (.tmp 2) (.tmp 24) rfl w.heap.size rfl Z C _ rfl hr2 (tsig_size HCL.out) (by rw [HCL.out, HZL.out]) hone ?_)
        | fail)
      have hc9 := Blk.cells (t := 43) (setRow_at (cs' := C.toArray) hr2)
      (try simp only [Exit.inBlock, Exit.then])
      refine bodyPost_ret (results_agg rfl _ _ _ _ _ rfl Try.underlying43 rfl (tsig_size HCL.out) hc9) rfl ?_
      exact ⟨rfl, HIN.out.keep (setRow_only _) (by simp; omega) (by simp; omega), grown_then HG.out (setRow_only _) (.inr (by rintro b ⟨⟩; omega))⟩
end Go.Proofs.Ytfoomnibfibfnaa
