/- Walks and plain laws, put together in build order. Conditions: what each of them names. -/
import Derived.Test.YtfoomnibfibfnaaWLampBytes4
set_option linter.unusedVariables false
set_option linter.unusedSimpArgs false
set_option linter.unnecessarySimpa false
namespace Go.Proofs.Ytfoomnibfibfnaa
section
open Go.RowKit

theorem szPieceTo04 {n : Nat} (h : n = 16) : (Try.prog.info? 35).map (·.size) = some n := by subst h; kernel_rfl
theorem szPieceBTo04 {n : Nat} (h : n = 16) : (Try.prog.info? 40).map (·.size) = some n := by subst h; kernel_rfl
theorem szSigTo04 {n : Nat} (h : n = 1024) : (Try.prog.info? 43).map (·.size) = some n := by subst h; kernel_rfl
theorem zSigTo04 : (Try.prog.info? 43).bind (fun i => i.zero.map (·.cells)) = some (List.replicate 1024 (Value.int .u8 0)).toArray := by kernel_rfl
set_option maxRecDepth 100000 in
set_option maxHeartbeats 4000000 in
theorem To04 (C : List Value) (w : World) (hC : C.length = 1024) (hone : ∀ u ∈ C, u.oneCell' = true) :
    Calls Try.prog 16 #[.agg C.toArray] w fun e w' => e = .returned (.agg C.toArray) ∧ Ext w w' := by
  obtain ⟨Z, hz, hzl, hzo⟩ : ∃ Z : List Value, (Try.prog.info? 43).bind (fun i => i.zero.map (·.cells)) = some Z.toArray ∧ Z.length = 1024 ∧ ∀ u ∈ Z, u.oneCell' = true := ⟨_, zSigTo04, List.length_replicate, fun u hu => by rw [List.eq_of_mem_replicate hu]; rfl⟩
  have HCL := Lib.hid hC
  have HZL := Lib.hid hzl
  have HZO := Lib.hid hzo
  have hb1 : Blk (((w.alloc (.cells C.toArray 38)).alloc (.cells Z.toArray 43)).alloc (.cells Z.toArray 43)) w.heap.size 38 C := ((Blk.new _ _ _).keep ((Ext.refl _).alloc _) (by simp)).keep ((Ext.refl _).alloc _) (by simp)
  have hb2 : Blk (((w.alloc (.cells C.toArray 38)).alloc (.cells Z.toArray 43)).alloc (.cells Z.toArray 43)) (w.heap.size + 1) 43 Z := (Blk.fresh (by simp) _ _).keep ((Ext.refl _).alloc _) (by simp)
  have hb3 : Blk (((w.alloc (.cells C.toArray 38)).alloc (.cells Z.toArray 43)).alloc (.cells Z.toArray 43)) (w.heap.size + 2) 43 Z := Blk.fresh (by simp) _ _
  have hx0 : Ext w (((w.alloc (.cells C.toArray 38)).alloc (.cells Z.toArray 43)).alloc (.cells Z.toArray 43)) := (((Ext.refl w).alloc _).alloc _).alloc _
  have HB1 := Lib.hid hb1
  have HB2 := Lib.hid hb2
  have HB3 := Lib.hid hb3
  have HX0 := Lib.hid hx0
  clear hb1 hb2 hb3 hx0 hC hzl hzo
  go_enter Try.func16, Try.ntmps16
  go_wp2_with (first
    | (refine wpList_alloc _ rfl 43 rfl _ hz ?_)
    | fail)
  go_loopw [4, 5] (fun p i wr => ∃ k : Nat, k ≤ 32 ∧ i = .int .i64 k ∧ Ext w wr ∧ Blk wr w.heap.size 38 C ∧ Blk wr (w.heap.size + 1) 43 Z ∧ Blk wr (w.heap.size + 2) 43 (mixAt C Z k) ∧ ∃ q, p = q) (fun _ i _ => 32 - (intOf i).toNat)
  case atStart => exact ⟨0, by omega, rfl, HX0.out, HB1.out, HB2.out, by rw [mixAt_zero C Z HCL.out HZL.out]; exact HB3.out, _, rfl⟩
  case round =>
    clear HX0 HB1 HB2 HB3
    obtain ⟨k, hk, rfl, hx, hb1, hb2, hb3, q, rfl⟩ := hrel
    by_cases hlt : k < 32
    · have HX := Lib.hid hx
      have HB1 := Lib.hid hb1
      have HB2 := Lib.hid hb2
      have HB3 := Lib.hid hb3
      clear hx hb1 hb2 hb3
      go_wp2
      have hx : Ext w wr.drew := HX.out.drew
      have hb1 : Blk wr.drew w.heap.size 38 C := HB1.out
      have hb2 : Blk wr.drew (w.heap.size + 1) 43 Z := HB2.out
      have hb3 : Blk wr.drew (w.heap.size + 2) 43 (mixAt C Z k) := HB3.out
      refine startM (KeepB fun b => b = w.heap.size) (by kernel_rfl) ?_
      (try simp only [Act.put, List.setIfInBounds_toArray, List.set_cons_succ, List.set_cons_zero])
      generalize wr.drew = w0 at *
      have hk1 : Cells w0 ⟨w.heap.size, k * 16, none⟩ ((C.drop (k * 16)).take 16) := by have h := (hb1.cells.drop (k * 16)).take 16; rw [addr_at] at h; exact h
      have hk2 : Cells w0 ⟨w.heap.size, 512 + k * 16, none⟩ ((C.drop (512 + k * 16)).take 16) := by have h := (hb1.cells.drop (512 + k * 16)).take 16; rw [addr_at] at h; exact h
      have hp1 := piece_len HCL.out (o := k * 16) (by omega)
      have hp2 := piece_len HCL.out (o := 512 + k * 16) (by omega)
      have hst := mixAt_step C Z HCL.out HZL.out k hlt
      have ho1 : ∀ u ∈ (C.drop (k * 16)).take 16, u.oneCell' = true := fun u hu => hone u (List.mem_of_mem_drop (List.mem_of_mem_take hu))
      have ho2 : ∀ u ∈ (C.drop (512 + k * 16)).take 16, u.oneCell' = true := fun u hu => hone u (List.mem_of_mem_drop (List.mem_of_mem_take hu))
      generalize (C.drop (k * 16)).take 16 = P1 at *
      generalize (C.drop (512 + k * 16)).take 16 = P2 at *
      have HX := Lib.hid hx
      have HB1 := Lib.hid hb1
      have HB2 := Lib.hid hb2
      have HB3 := Lib.hid hb3
      have HK1 := Lib.hid hk1
      have HK2 := Lib.hid hk2
      have HP1 := Lib.hid hp1
      have HP2 := Lib.hid hp2
      have HST := Lib.hid hst
      have HO1 := Lib.hid ho1
      have HO2 := Lib.hid ho2
      clear hx hb1 hb2 hb3 hk1 hk2 hp1 hp2 hst ho1 ho2
      refine takeK 0 rfl (by kernel_rfl) (by kernel_rfl) (by kernel_rfl) rfl (fun _ _ _ _ h => h) rfl (fun K hK => ?_)
      go_big_quiet_op
      first | refine hK _ ?_ | refine ⟨_, fun _ _ => rfl, hK _ ?_⟩
      clear hK K
      refine takeK 1 rfl (by kernel_rfl) (by kernel_rfl) (by kernel_rfl) rfl (fun _ _ _ _ h => h) rfl (fun K hK => ?_)
      go_big_quiet_op
      first | refine hK _ ?_ | refine ⟨_, fun _ _ => rfl, hK _ ?_⟩
      clear hK K
      refine takeK 2 rfl (by kernel_rfl) (by kernel_rfl) (by kernel_rfl) rfl (fun _ _ _ _ h => h) rfl (fun K hK => ?_)
      go_big_quiet_op
      first | refine hK _ ?_ | refine ⟨_, fun _ _ => rfl, hK _ ?_⟩
      clear hK K
      refine takeK 3 rfl (by kernel_rfl) (by kernel_rfl) (by kernel_rfl) rfl (fun _ _ _ _ h => h) rfl (fun K hK => ?_)
      go_big_quiet_op
      first | refine hK _ ?_ | refine ⟨_, fun _ _ => rfl, hK _ ?_⟩
      clear hK K
      refine takeK 4 rfl (by kernel_rfl) (by kernel_rfl) (by kernel_rfl) rfl (fun _ _ _ _ h => h) rfl (fun K hK => ?_)
      go_big_quiet_op
      first | refine hK _ ?_ | refine ⟨_, fun _ _ => rfl, hK _ ?_⟩
      clear hK K
      refine takeK 5 rfl (by kernel_rfl) (by kernel_rfl) (by kernel_rfl) rfl (fun _ _ _ _ h => h) rfl (fun K hK => ?_)
      refine quiet_agg 35 (.tmp 12) rfl _ rfl P1 _ Try.underlying35 rfl (szPieceTo04 HP1.out) (fun W' h => KeepB.cells h HK1.out rfl) ?_
      refine hK _ ?_
      simp only [Act.put, List.setIfInBounds_toArray, List.set_cons_succ, List.set_cons_zero]
      clear hK K
      refine takeK 6 rfl (by kernel_rfl) (by kernel_rfl) (by kernel_rfl) rfl (fun _ _ _ _ h => h) rfl (fun K hK => ?_)
      go_big_quiet_op
      first | refine hK _ ?_ | refine ⟨_, fun _ _ => rfl, hK _ ?_⟩
      clear hK K
      refine takeK 7 rfl (by kernel_rfl) (by kernel_rfl) (by kernel_rfl) rfl (fun _ _ _ _ h => h) rfl (fun K hK => ?_)
      go_big_quiet_op
      first | refine hK _ ?_ | refine ⟨_, fun _ _ => rfl, hK _ ?_⟩
      clear hK K
      refine takeK 8 rfl (by kernel_rfl) (by kernel_rfl) (by kernel_rfl) rfl (fun _ _ _ _ h => h) rfl (fun K hK => ?_)
      go_big_quiet_op
      first | refine hK _ ?_ | refine ⟨_, fun _ _ => rfl, hK _ ?_⟩
      clear hK K
      refine takeK 9 rfl (by kernel_rfl) (by kernel_rfl) (by kernel_rfl) rfl (fun _ _ _ _ h => h) rfl (fun K hK => ?_)
      refine quiet_agg 35 (.tmp 16) rfl _ rfl P2 _ Try.underlying35 rfl (szPieceTo04 HP2.out) (fun W' h => KeepB.cells h HK2.out rfl) ?_
      refine hK _ ?_
      simp only [Act.put, List.setIfInBounds_toArray, List.set_cons_succ, List.set_cons_zero]
      clear hK K
      refine takeK 10 rfl (by kernel_rfl) (by kernel_rfl) (by kernel_rfl) rfl (fun _ _ _ _ h => h) rfl (fun K hK => ?_)
      go_big_quiet_op
      first | refine hK _ ?_ | refine ⟨_, fun _ _ => rfl, hK _ ?_⟩
      clear hK K
      refine takeK 11 rfl (by kernel_rfl) (by kernel_rfl) (by kernel_rfl) rfl (fun _ _ _ _ h => h) rfl (fun K hK => ?_)
      go_big_quiet_op
      first | refine hK _ ?_ | refine ⟨_, fun _ _ => rfl, hK _ ?_⟩
      clear hK K
      refine takeK 13 rfl (by kernel_rfl) (by kernel_rfl) (by kernel_rfl) rfl (fun _ _ _ _ h => h) rfl (fun K hK => ?_)
      go_big_quiet_op
      first | refine hK _ ?_ | refine ⟨_, fun _ _ => rfl, hK _ ?_⟩
      clear hK K
      refine stepM 12 rfl (by kernel_rfl) rfl (fun K hK => ?_)
      refine wp_store_part w0 40 (.tmp 19) (.tmp 13) rfl (w.heap.size + 2) (k * 16) rfl (mixAt C Z k) P1 _ rfl HB3.out (szPieceBTo04 HP1.out) (by rw [mixAt_len, HP1.out]; omega) HO1.out ?_
      refine hK _ _ (fun b hb => (setRow_only _).block b (by have := HB1.out.lt; rcases hb with rfl; exact this) (by rcases hb with rfl; simp)) ?_
      clear hK K
      (try simp only [Act.put, List.setIfInBounds_toArray, List.set_cons_succ, List.set_cons_zero])
      refine takeK 14 rfl (by kernel_rfl) (by kernel_rfl) (by kernel_rfl) rfl (fun _ _ _ _ h => h) rfl (fun K hK => ?_)
      go_big_quiet_op
      first | refine hK _ ?_ | refine ⟨_, fun _ _ => rfl, hK _ ?_⟩
      clear hK K
      refine stepM 15 rfl (by kernel_rfl) rfl (fun K hK => ?_)
      refine wp_store_part _ 40 (.tmp 21) (.tmp 17) rfl (w.heap.size + 2) (512 + k * 16) rfl (putAt (mixAt C Z k) (k * 16) P1) P2 _ rfl (setRow_at HB3.out) (szPieceBTo04 HP2.out) (by rw [putAt_len (by rw [mixAt_len, HP1.out]; omega), mixAt_len, HP2.out]; omega) HO2.out ?_
      refine hK _ _ (fun b hb => (setRow_only _).block b (by have := HB1.out.lt; rcases hb with rfl; simpa [World.setRow] using this) (by rcases hb with rfl; simp)) ?_
      clear hK K
      (try simp only [Act.put, List.setIfInBounds_toArray, List.set_cons_succ, List.set_cons_zero])
      refine doneM (by kernel_rfl) ?_ _
      have hx9 : Ext w ((w0.setRow (w.heap.size + 2) (putAt (mixAt C Z k) (k * 16) P1).toArray).setRow (w.heap.size + 2) (putAt (putAt (mixAt C Z k) (k * 16) P1) (512 + k * 16) P2).toArray) := grown_then (grown_then HX.out (setRow_only _) (.inr (by rintro b ⟨⟩; omega))) (setRow_only _) (.inr (by rintro b ⟨⟩; omega))
      have hb1 : Blk ((w0.setRow (w.heap.size + 2) (putAt (mixAt C Z k) (k * 16) P1).toArray).setRow (w.heap.size + 2) (putAt (putAt (mixAt C Z k) (k * 16) P1) (512 + k * 16) P2).toArray) w.heap.size 38 C := (HB1.out.keep (setRow_only _) (by simp)).keep (setRow_only _) (by simp)
      have hb2 : Blk ((w0.setRow (w.heap.size + 2) (putAt (mixAt C Z k) (k * 16) P1).toArray).setRow (w.heap.size + 2) (putAt (putAt (mixAt C Z k) (k * 16) P1) (512 + k * 16) P2).toArray) (w.heap.size + 1) 43 Z := (HB2.out.keep (setRow_only _) (by simp)).keep (setRow_only _) (by simp)
      have hb3 : Blk ((w0.setRow (w.heap.size + 2) (putAt (mixAt C Z k) (k * 16) P1).toArray).setRow (w.heap.size + 2) (putAt (putAt (mixAt C Z k) (k * 16) P1) (512 + k * 16) P2).toArray) (w.heap.size + 2) 43 (mixAt C Z (k + 1)) := by rw [← HST.out]; exact setRow_at (setRow_at HB3.out)
      generalize World.setRow _ _ _ = w9 at *
      have HX9 := Lib.hid hx9
      have HB91 := Lib.hid hb1
      have HB92 := Lib.hid hb2
      have HB93 := Lib.hid hb3
      clear hx9 hb1 hb2 hb3
      go_wp2
      go_roundw
      case rel => exact ⟨k + 1, by omega, by go_num, HX9.out, HB91.out, HB92.out, HB93.out, _, rfl⟩
      case measure => simp [intOf]; omega
    · obtain rfl : k = 32 := by omega
      rw [mixAt_all C Z HCL.out HZL.out] at hb3
      have hcm := hb3.cells
      have hr2 : wr.heap[w.heap.size + 1]? = some (.cells Z.toArray 43 (0, 0)) := hb2
      have HX := Lib.hid hx
      clear hx hb1 hb2 hb3
      go_wp2_with (first
        | (refine wpList_load_agg _ rfl 43 (.tmp 3) rfl _ rfl C _ Try.underlying43 rfl (szSigTo04 HCL.out) hcm ?_)
        | (refine wpList_store_row _ rfl 43 (.tmp 2) (.tmp 23) rfl (w.heap.size + 1) rfl Z C _ rfl hr2 (szSigTo04 HCL.out) (by rw [HCL.out, HZL.out]) hone ?_)
        | fail)
      have hc9 := Blk.cells (t := 43) (setRow_at (cs' := C.toArray) hr2)
      (try simp only [Exit.inBlock, Exit.then])
      refine bodyPost_ret (results_agg rfl _ _ _ _ _ rfl Try.underlying43 rfl (szSigTo04 HCL.out) hc9) rfl ?_
      exact ⟨rfl, grown_then HX.out (setRow_only _) (.inr (by rintro b ⟨⟩; omega))⟩
end
section
open Go.RowKit

/-- What is left behind k sums. -/
def stT (s : InS) : Nat → InS
  | 0 => s
  | k + 1 => (sumM (stT s k)).2
def takeO (s : InS) (k : Nat) : List UInt8 := (sumM (stT s k)).1.take 16
def takeT (s : InS) (k : Nat) : List UInt8 := (sumM (stT s k)).1.drop 16
theorem sumM_length (s : InS) : (sumM s).1.length = 32 := by
  have h := cutM_len 32 s
  show ((cutM 32 s).1 ++ List.replicate (32 - (cutM 32 s).1.length) 0).length = 32
  rw [List.length_append, List.length_replicate]; omega
theorem takeO_length (s : InS) (k : Nat) : (takeO s k).length = 16 := by unfold takeO; rw [List.length_take, sumM_length]; rfl
theorem takeT_length (s : InS) (k : Nat) : (takeT s k).length = 16 := by unfold takeT; rw [List.length_drop, sumM_length]
def takeS (s : InS) : List UInt8 := piecesM (takeO s) 32 ++ piecesM (takeT s) 32
theorem takeS_length (s : InS) : (takeS s).length = 1024 := by
  unfold takeS
  rw [List.length_append, piecesM_length (takeO_length s), piecesM_length (takeT_length s)]
theorem take_open (s : InS) {k : Nat} (h : k < 32) : ((bv (takeS s)).drop (k * 16)).take 16 = bv (takeO s k) := by
  have e := pieceAt_pieces (takeO_length s) h
  have hl : (piecesM (takeO s) 32).length = 512 := piecesM_length (takeO_length s) 32
  unfold pieceAt at e
  rw [← e, bv, ← List.map_drop, ← List.map_take, takeS, List.drop_append_of_le_length (by rw [hl]; omega), List.take_append_of_le_length (by rw [List.length_drop, hl]; omega), Nat.mul_comm 16 k]
  rfl
theorem take_other (s : InS) {k : Nat} (h : k < 32) : ((bv (takeS s)).drop (512 + k * 16)).take 16 = bv (takeT s k) := by
  have e := pieceAt_pieces (takeT_length s) h
  have hl : (piecesM (takeO s) 32).length = 512 := piecesM_length (takeO_length s) 32
  unfold pieceAt at e
  rw [← e, bv, ← List.map_drop, ← List.map_take, takeS, ← List.drop_drop, List.drop_left' hl, Nat.mul_comm 16 k]
  rfl
theorem putAt_of (cur : List Value) (off : Nat) (P : List UInt8) (h : P.length = 16) : cur.take off ++ bv (P.take 16) ++ cur.drop (off + 16) = putAt cur off (bv P) := by
  have e : P.take 16 = P := List.take_of_length_le (by omega)
  unfold putAt
  rw [e, bv_length, h]
theorem tsig_size {n : Nat} (h : n = 1024) : (Try.prog.info? 43).map (·.size) = some n := by subst h; kernel_rfl
set_option maxRecDepth 100000 in
set_option maxHeartbeats 8000000 in
theorem Take {g q : Nat} {s : InS} (w : World) (h : InAt w g q s) :
    Calls Try.prog 23 #[.pointer (some ⟨g, 0, none⟩)] w fun e w' => e = .returned (.agg (bv (takeS s)).toArray) ∧ InAt w' g q (stT s 32) ∧ w.grownBy w' (some g) := by
  obtain ⟨Z, hz, hzl, hzo⟩ : ∃ Z : List Value, (Try.prog.info? 43).bind (fun i => i.zero.map (·.cells)) = some Z.toArray ∧ Z.length = 1024 ∧ ∀ u ∈ Z, u.oneCell' = true := ⟨_, zSigTo04, List.length_replicate, fun u hu => by rw [List.eq_of_mem_replicate hu]; rfl⟩
  obtain ⟨ZD, hzd, hzdl⟩ : ∃ ZD : List Value, (Try.prog.info? 31).bind (fun i => i.zero.map (·.cells)) = some ZD.toArray ∧ ZD.length = 32 := ⟨_, digest_zero, by simp⟩
  have hgl := h.lt
  have hql : q < w.heap.size := h.2.1
  have hC : (bv (takeS s)).length = 1024 := by rw [bv_length, takeS_length]
  have hone := bv_one (takeS s)
  have hop := fun k (h : k < 32) => take_open s h
  have hot := fun k (h : k < 32) => take_other s h
  have hb2 : Blk ((w.alloc (.cells Z.toArray 43)).alloc (.cells Z.toArray 43)) w.heap.size 43 Z := (Blk.new _ _ _).keep ((Ext.refl _).alloc _) (by simp)
  have hb3 : Blk ((w.alloc (.cells Z.toArray 43)).alloc (.cells Z.toArray 43)) (w.heap.size + 1) 43 Z := Blk.fresh (by simp) _ _
  have hx0 : Ext w ((w.alloc (.cells Z.toArray 43)).alloc (.cells Z.toArray 43)) := ((Ext.refl w).alloc _).alloc _
  have hin := h.ext hx0
  have hg0 : w.grownBy ((w.alloc (.cells Z.toArray 43)).alloc (.cells Z.toArray 43)) (some g) := hx0.any _
  generalize bv (takeS s) = C at *
  have HB2 := Lib.hid hb2
  have HB3 := Lib.hid hb3
  have HIN := Lib.hid hin
  have HG0 := Lib.hid hg0
  have HCL := Lib.hid hC
  have HZL := Lib.hid hzl
  have HZDL := Lib.hid hzdl
  have HOP := Lib.hid hop
  have HOT := Lib.hid hot
  have HGL := Lib.hid hgl
  have HQL := Lib.hid hql
  clear hb2 hb3 hx0 hin hg0 hC hzl hzdl hop hot hgl hql h
  go_enter Try.func23, Try.ntmps23
  go_wp2_with (first
    | (refine wpList_alloc _ rfl 43 rfl _ hz ?_)
    | fail)
  go_loopw [4, 5, 6] (fun p r i wr => ∃ k : Nat, k ≤ 32 ∧ i = .int .i64 k ∧ w.grownBy wr (some g) ∧ InAt wr g q (stT s k) ∧ Blk wr w.heap.size 43 Z ∧ Blk wr (w.heap.size + 1) 43 (mixAt C Z k)) (fun _ _ i _ => 32 - (intOf i).toNat)
  case atStart => exact ⟨0, by omega, rfl, HG0.out, HIN.out, HB2.out, by rw [mixAt_zero C Z HCL.out HZL.out]; exact HB3.out⟩
  case round =>
    clear HG0 HIN HB2 HB3
    obtain ⟨k, hk, rfl, hg, hin, hb2, hb3⟩ := hrel
    by_cases hlt : k < 32
    · have hst := mixAt_step C Z HCL.out HZL.out k hlt
      rw [HOP.out k hlt, HOT.out k hlt] at hst
      have hd32 := sumM_length (stT s k)
      have hdo := bv_one (sumM (stT s k)).1
      have hdl : (bv (sumM (stT s k)).1).length = 32 := by rw [bv_length]; exact hd32
      have ht1 : (bv (sumM (stT s k)).1).take 16 = bv (takeO s k) := by simp [takeO, bv, List.map_take]
      have ht2 : (bv (sumM (stT s k)).1).drop 16 = bv (takeT s k) := by simp [takeT, bv, List.map_drop]
      have hp1 := takeO_length s k
      have hp2 := takeT_length s k
      have hsm := In_Sum (h := hin)
      have hs1 : (sumM (stT s k)).2 = stT s (k + 1) := rfl
      rw [hs1] at hsm
      generalize takeO s k = P1 at *
      generalize takeT s k = P2 at *
      generalize bv (sumM (stT s k)).1 = DD at *
      have hpll : (putAt (mixAt C Z k) (k * 16) (bv P1)).length = 1024 := by rw [putAt_len (by rw [mixAt_len, bv_length, hp1]; omega), mixAt_len]
      have HST := Lib.hid hst
      have HDL := Lib.hid hdl
      have HT1 := Lib.hid ht1
      have HT2 := Lib.hid ht2
      have HP1 := Lib.hid hp1
      have HP2 := Lib.hid hp2
      have HSM := Lib.hid hsm
      have HPLL := Lib.hid hpll
      have HG := Lib.hid hg
      have HB2 := Lib.hid hb2
      have HB3 := Lib.hid hb3
      clear hst hdl ht1 ht2 hp1 hp2 hsm hpll hg hb2 hb3 hin hd32 hs1
      go_wp2_with fail
      refine HSM.out.mono ?_
      rintro e w1 ⟨rfl, hin1, hg1⟩
      have hxd : Ext w1 (w1.alloc (.cells DD.toArray 31)).drew := ((Ext.refl w1).alloc _).trans (Ext.refl _).drew
      have hnd : ∀ b, b < w1.heap.size → b ≠ w1.heap.size := fun b hb => by omega
      have HIN1 := Lib.hid (hin1.ext hxd)
      have HG1 := Lib.hid (grown_then HG.out hg1 (.inl rfl))
      have HB21 := Lib.hid (HB2.out.keep hg1 (by have := HGL.out; simp; omega))
      have HB31 := Lib.hid (HB3.out.keep hg1 (by have := HGL.out; simp; omega))
      have HBD : Hid (Blk (w1.alloc (.cells DD.toArray 31)).drew w1.heap.size 31 DD) := Lib.hid ((Blk.new _ _ _).keep (Ext.refl _).drew (by simp))
      have HBS := Lib.hid (HB31.out.keep hxd (by simp))
      have HB22 := Lib.hid (HB21.out.keep hxd (by simp))
      have HG2 : Hid (w.grownBy (w1.alloc (.cells DD.toArray 31)).drew (some g)) := Lib.hid (grown_then HG1.out (hxd.any _) (.inl rfl))
      have HLT3 : Hid (w.heap.size + 1 < w1.heap.size) := Lib.hid HB31.out.lt
      clear hin1 hg1 hxd hnd
      go_wp2_with (first
        | (refine wpList_alloc _ rfl 31 rfl _ hzd ?_)
        | (refine wpList_store_new _ rfl 31 (.tmp 5) (.tmp 10) rfl rfl ZD DD _ rfl (digest_size HDL.out) (by rw [HDL.out, HZDL.out]) hdo ?_)
        | fail)
      have HK1 : Hid (∀ W, Ext (w1.alloc (.cells DD.toArray 31)).drew W → Cells W ⟨w1.heap.size, 0, none⟩ (bv P1)) := Lib.hid fun W h => by have h2 := (HBD.out.keep h (by simp)).cells.take 16; rw [HT1.out] at h2; exact h2
      generalize hgs : w.heap.size + 1 = gs at *
      generalize hgd : w1.heap.size = gd at *
      generalize hV : w1.alloc (.cells DD.toArray 31) = V at *
      have HGS := Lib.hid hgs
      have HGD := Lib.hid hgd
      have hdk : decide ((k : Int) < 32) = true := by rw [decide_eq_true_iff]; omega
      (try simp only [hdk])
      clear hgs hgd hV hdk
      refine stab_store Ext ext_refl ext_trans [[0], [1], [0, 1, 2], [0, 1, 2, 3], [4], [0, 1, 2, 3, 4, 5]] (fun i v wv => match i with | 0 => v = .int .i64 (k : Int) | 1 => v = .pointer (some ⟨gs, 0, none⟩) | 2 => v = .pointer (some ⟨gs, k * 16, none⟩) | 3 => v = .slice (some ⟨gs, k * 16, none⟩) 16 16 | 4 => v = .slice (some ⟨gd, 0, none⟩) 16 32 | _ => True) (by kernel_rfl) (by kernel_rfl) (by kernel_rfl) (by kernel_rfl) (by simp) ?_ ?_ ?_
      · intro i v w1 w2 h hx
        match i, h with
        | 0, h => exact h
        | 1, h => exact h
        | 2, h => exact h
        | 3, h => exact h
        | 4, h => exact h
        | i + 5, h => trivial
      · intro i hi o ho
        match i, hi, ho with
        | 0, _, ho =>
          obtain rfl := Option.some.inj ho
          intro s W hX hd K hK
          rw [if_pos (wanted_plain rfl)]
          clear hd
          replace hK : ∀ (v : Value) (W' : World), Ext W W' → (v = .int .i64 (k : Int)) → _ := hK
          simp only [mkOf, List.map_cons, List.map_nil, Act.put, List.setIfInBounds_toArray, List.set_cons_succ, List.set_cons_zero, Nat.reduceAdd, Nat.zero_add] at hK ⊢
          go_simp
          exact hK _ _ (Ext.refl _) rfl
        | 1, _, ho =>
          obtain rfl := Option.some.inj ho
          intro s W hX hd K hK
          rw [if_pos (wanted_plain rfl)]
          clear hd
          replace hK : ∀ (v : Value) (W' : World), Ext W W' → (v = .pointer (some ⟨gs, 0, none⟩)) → _ := hK
          simp only [mkOf, List.map_cons, List.map_nil, Act.put, List.setIfInBounds_toArray, List.set_cons_succ, List.set_cons_zero, Nat.reduceAdd, Nat.zero_add] at hK ⊢
          go_simp
          exact hK _ _ (Ext.refl _) rfl
        | 2, _, ho =>
          obtain rfl := Option.some.inj ho
          intro s W hX hd K hK
          rw [if_pos (wanted_plain rfl)]
          have d11 : (s 0) = .int .i64 (k : Int) := hd 0 (by decide) (by decide)
          have d12 : (s 1) = .pointer (some ⟨gs, 0, none⟩) := hd 1 (by decide) (by decide)
          clear hd
          replace hK : ∀ (v : Value) (W' : World), Ext W W' → (v = .pointer (some ⟨gs, k * 16, none⟩)) → _ := hK
          simp only [mkOf, List.map_cons, List.map_nil, Act.put, List.setIfInBounds_toArray, List.set_cons_succ, List.set_cons_zero, Nat.reduceAdd, Nat.zero_add] at hK ⊢
          simp only [d11, d12] at hK ⊢
          go_simp
          exact hK _ _ (Ext.refl _) rfl
        | 3, _, ho =>
          obtain rfl := Option.some.inj ho
          intro s W hX hd K hK
          rw [if_pos (wanted_plain rfl)]
          have d13 : (s 2) = .pointer (some ⟨gs, k * 16, none⟩) := hd 2 (by decide) (by decide)
          clear hd
          replace hK : ∀ (v : Value) (W' : World), Ext W W' → (v = .slice (some ⟨gs, k * 16, none⟩) 16 16) → _ := hK
          simp only [mkOf, List.map_cons, List.map_nil, Act.put, List.setIfInBounds_toArray, List.set_cons_succ, List.set_cons_zero, Nat.reduceAdd, Nat.zero_add] at hK ⊢
          simp only [d13] at hK ⊢
          go_simp
          exact hK _ _ (Ext.refl _) rfl
        | 4, _, ho =>
          obtain rfl := Option.some.inj ho
          intro s W hX hd K hK
          rw [if_pos (wanted_plain rfl)]
          clear hd
          replace hK : ∀ (v : Value) (W' : World), Ext W W' → (v = .slice (some ⟨gd, 0, none⟩) 16 32) → _ := hK
          simp only [mkOf, List.map_cons, List.map_nil, Act.put, List.setIfInBounds_toArray, List.set_cons_succ, List.set_cons_zero, Nat.reduceAdd, Nat.zero_add] at hK ⊢
          go_simp
          exact hK _ _ (Ext.refl _) rfl
        | i + 5, hi, _ => exact absurd hi (by simp)
      · intro o ho
        obtain rfl := Option.some.inj ho
        intro s W hX hd K hK
        rw [if_pos (wanted_plain rfl)]
        have d11 : (s 0) = .int .i64 (k : Int) := hd 0 (by decide)
        have d12 : (s 1) = .pointer (some ⟨gs, 0, none⟩) := hd 1 (by decide)
        have d13 : (s 2) = .pointer (some ⟨gs, k * 16, none⟩) := hd 2 (by decide)
        have d14 : (s 3) = .slice (some ⟨gs, k * 16, none⟩) 16 16 := hd 3 (by decide)
        have d15 : (s 4) = .slice (some ⟨gd, 0, none⟩) 16 32 := hd 4 (by decide)
        clear hd
        simp only [mkOf, List.map_cons, List.map_nil, Act.put, List.setIfInBounds_toArray, List.set_cons_succ, List.set_cons_zero, Nat.reduceAdd, Nat.zero_add]
        refine wp_copyB (.tmp 14) (.tmp 15) 55 55 rfl 5 Try.underlying55 u8_size1 gs (k * 16) 16 16 (by simpa [Act.eval] using d14) _ 16 32 (by simpa [Act.eval] using d15) P1 HP1.out (fun _ => ⟨_, rfl, HK1.out W hX⟩) (mixAt C Z k) _ (HBS.out.keep hX (by simp)) 16 rfl (by rw [mixAt_len]; omega) ?_
        intro W5 hW5 hg5
        refine hK _ _ ?_
        have hW5' : Blk W5 gs 43 (putAt (mixAt C Z k) (k * 16) (bv P1)) := by
          have e := putAt_of (mixAt C Z k) (k * 16) P1 HP1.out
          rw [← e]; exact hW5
        have hlt3 := HLT3.out
        have hgs3 := HGS.out
        have hgl3 := HGL.out
        have hql3 := HQL.out
        have hx5 := (Ext.refl W5).drew
        have HBS2 := Lib.hid (hW5'.keep hx5 (by simp))
        have HBD2 := Lib.hid (((HBD.out.keep hX (by simp)).keep hg5 (by simp; omega)).keep hx5 (by simp))
        have HB23 := Lib.hid (((HB22.out.keep hX (by simp)).keep hg5 (by simp; omega)).keep hx5 (by simp))
        have HIN2 := Lib.hid (((HIN1.out.ext hX).keep hg5 (by simp; omega) (by simp; omega)).ext hx5)
        have HG3 := Lib.hid (grown_then (grown_then (grown_then HG2.out (hX.any (some g)) (.inl rfl)) hg5 (.inr (by rintro b ⟨⟩; omega))) (hx5.any (some g)) (.inl rfl))
        have HK2 : Hid (∀ W7, Ext W5.drew W7 → Cells W7 ⟨gd, 16, none⟩ (bv P2)) := Lib.hid fun W7 h => by have h2 := (HBD2.out.keep h (by simp)).cells.drop 16; rw [addr_at, HT2.out] at h2; exact h2
        clear hX hK hW5 hg5 hW5' hx5 hlt3 hgs3 hgl3 hql3 d11 d12 d13 d14 d15 HK1 HBD HB22 HIN1 HG2 HBS
        (try simp only [Exit.then])
        go_wp2_with fail
        refine stab_store Ext ext_refl ext_trans [[0], [1], [0, 1, 2], [0, 1, 2, 3], [4], [0, 1, 2, 3, 4, 5]] (fun i v wv => match i with | 0 => v = .int .i64 (k : Int) | 1 => v = .pointer (some ⟨gs, 512, none⟩) | 2 => v = .pointer (some ⟨gs, 512 + k * 16, none⟩) | 3 => v = .slice (some ⟨gs, 512 + k * 16, none⟩) 16 16 | 4 => v = .slice (some ⟨gd, 16, none⟩) 16 16 | _ => True) (by kernel_rfl) (by kernel_rfl) (by kernel_rfl) (by kernel_rfl) (by simp) ?_ ?_ ?_
        · intro i v w1 w2 h hx
          match i, h with
          | 0, h => exact h
          | 1, h => exact h
          | 2, h => exact h
          | 3, h => exact h
          | 4, h => exact h
          | i + 5, h => trivial
        · intro i hi o ho
          match i, hi, ho with
          | 0, _, ho =>
            obtain rfl := Option.some.inj ho
            intro s W2 hX hd K hK
            rw [if_pos (wanted_plain rfl)]
            clear hd
            replace hK : ∀ (v : Value) (W2' : World), Ext W2 W2' → (v = .int .i64 (k : Int)) → _ := hK
            simp only [mkOf, List.map_cons, List.map_nil, Act.put, List.setIfInBounds_toArray, List.set_cons_succ, List.set_cons_zero, Nat.reduceAdd, Nat.zero_add] at hK ⊢
            go_simp
            exact hK _ _ (Ext.refl _) rfl
          | 1, _, ho =>
            obtain rfl := Option.some.inj ho
            intro s W2 hX hd K hK
            rw [if_pos (wanted_plain rfl)]
            clear hd
            replace hK : ∀ (v : Value) (W2' : World), Ext W2 W2' → (v = .pointer (some ⟨gs, 512, none⟩)) → _ := hK
            simp only [mkOf, List.map_cons, List.map_nil, Act.put, List.setIfInBounds_toArray, List.set_cons_succ, List.set_cons_zero, Nat.reduceAdd, Nat.zero_add] at hK ⊢
            go_simp
            exact hK _ _ (Ext.refl _) rfl
          | 2, _, ho =>
            obtain rfl := Option.some.inj ho
            intro s W2 hX hd K hK
            rw [if_pos (wanted_plain rfl)]
            have d17 : (s 0) = .int .i64 (k : Int) := hd 0 (by decide) (by decide)
            have d18 : (s 1) = .pointer (some ⟨gs, 512, none⟩) := hd 1 (by decide) (by decide)
            clear hd
            replace hK : ∀ (v : Value) (W2' : World), Ext W2 W2' → (v = .pointer (some ⟨gs, 512 + k * 16, none⟩)) → _ := hK
            simp only [mkOf, List.map_cons, List.map_nil, Act.put, List.setIfInBounds_toArray, List.set_cons_succ, List.set_cons_zero, Nat.reduceAdd, Nat.zero_add] at hK ⊢
            simp only [d17, d18] at hK ⊢
            go_simp
            exact hK _ _ (Ext.refl _) rfl
          | 3, _, ho =>
            obtain rfl := Option.some.inj ho
            intro s W2 hX hd K hK
            rw [if_pos (wanted_plain rfl)]
            have d19 : (s 2) = .pointer (some ⟨gs, 512 + k * 16, none⟩) := hd 2 (by decide) (by decide)
            clear hd
            replace hK : ∀ (v : Value) (W2' : World), Ext W2 W2' → (v = .slice (some ⟨gs, 512 + k * 16, none⟩) 16 16) → _ := hK
            simp only [mkOf, List.map_cons, List.map_nil, Act.put, List.setIfInBounds_toArray, List.set_cons_succ, List.set_cons_zero, Nat.reduceAdd, Nat.zero_add] at hK ⊢
            simp only [d19] at hK ⊢
            go_simp
            exact hK _ _ (Ext.refl _) rfl
          | 4, _, ho =>
            obtain rfl := Option.some.inj ho
            intro s W2 hX hd K hK
            rw [if_pos (wanted_plain rfl)]
            clear hd
            replace hK : ∀ (v : Value) (W2' : World), Ext W2 W2' → (v = .slice (some ⟨gd, 16, none⟩) 16 16) → _ := hK
            simp only [mkOf, List.map_cons, List.map_nil, Act.put, List.setIfInBounds_toArray, List.set_cons_succ, List.set_cons_zero, Nat.reduceAdd, Nat.zero_add] at hK ⊢
            go_simp
            exact hK _ _ (Ext.refl _) rfl
          | i + 5, hi, _ => exact absurd hi (by simp)
        · intro o ho
          obtain rfl := Option.some.inj ho
          intro s W2 hX hd K hK
          rw [if_pos (wanted_plain rfl)]
          have d17 : (s 0) = .int .i64 (k : Int) := hd 0 (by decide)
          have d18 : (s 1) = .pointer (some ⟨gs, 512, none⟩) := hd 1 (by decide)
          have d19 : (s 2) = .pointer (some ⟨gs, 512 + k * 16, none⟩) := hd 2 (by decide)
          have d20 : (s 3) = .slice (some ⟨gs, 512 + k * 16, none⟩) 16 16 := hd 3 (by decide)
          have d21 : (s 4) = .slice (some ⟨gd, 16, none⟩) 16 16 := hd 4 (by decide)
          clear hd
          simp only [mkOf, List.map_cons, List.map_nil, Act.put, List.setIfInBounds_toArray, List.set_cons_succ, List.set_cons_zero, Nat.reduceAdd, Nat.zero_add]
          refine wp_copyB (.tmp 20) (.tmp 21) 55 55 rfl 5 Try.underlying55 u8_size1 gs (512 + k * 16) 16 16 (by simpa [Act.eval] using d20) _ 16 16 (by simpa [Act.eval] using d21) P2 HP2.out (fun _ => ⟨_, rfl, HK2.out W2 hX⟩) (putAt (mixAt C Z k) (k * 16) (bv P1)) _ (HBS2.out.keep hX (by simp)) 16 rfl (by rw [HPLL.out]; omega) ?_
          intro W6 hW6 hg6
          refine hK _ _ ?_
          have hW6' : Blk W6 gs 43 (mixAt C Z (k + 1)) := by
            have e := putAt_of (putAt (mixAt C Z k) (k * 16) (bv P1)) (512 + k * 16) P2 HP2.out
            rw [HST.out] at e
            rw [← e]; exact hW6
          have hlt3 := HLT3.out
          have hgs3 := HGS.out
          have hgl3 := HGL.out
          have hql3 := HQL.out
          have HB24 := Lib.hid ((HB23.out.keep hX (by simp)).keep hg6 (by simp; omega))
          have HIN3 := Lib.hid ((HIN2.out.ext hX).keep hg6 (by simp; omega) (by simp; omega))
          have HG4 := Lib.hid (grown_then (grown_then HG3.out (hX.any (some g)) (.inl rfl)) hg6 (.inr (by rintro b ⟨⟩; omega)))
          have HBS3 := Lib.hid hW6'
          clear hX hK hW6 hg6 hW6' hlt3 hgl3 hql3
          subst hgs3
          (try simp only [Exit.then])
          go_wp2_with fail
          go_roundw
          case rel => exact ⟨k + 1, by omega, by go_num, HG4.out, HIN3.out, HB24.out, HBS3.out⟩
          case measure => simp [intOf]; omega
    · obtain rfl : k = 32 := by omega
      rw [mixAt_all C Z HCL.out HZL.out] at hb3
      have hcm := hb3.cells
      have hr2 : wr.heap[w.heap.size]? = some (.cells Z.toArray 43 (0, 0)) := hb2
      have HG := Lib.hid hg
      have HIN := Lib.hid hin
      have hgl3 := HGL.out
      have hql3 := HQL.out
      clear hg hb2 hb3 hin
      go_wp2_with (first
        | (refine wpList_load_agg _ rfl 43 (.tmp 3) rfl _ rfl C _ Try.underlying43 rfl (tsig_size HCL.out) hcm ?_)
        | (refine wpList_store_row _ rfl 43 (.tmp 2) (.tmp 24) rfl w.heap.size rfl Z C _ rfl hr2 (tsig_size HCL.out) (by rw [HCL.out, HZL.out]) hone ?_)
        | fail)
      have hc9 := Blk.cells (t := 43) (setRow_at (cs' := C.toArray) hr2)
      (try simp only [Exit.inBlock, Exit.then])
      refine bodyPost_ret (results_agg rfl _ _ _ _ _ rfl Try.underlying43 rfl (tsig_size HCL.out) hc9) rfl ?_
      exact ⟨rfl, HIN.out.keep (setRow_only _) (by simp; omega) (by simp; omega), grown_then HG.out (setRow_only _) (.inr (by rintro b ⟨⟩; omega))⟩
end
section
open Go.RowKit

/-- The first k pairs of pieces, laid. -/
def layS (BB : List UInt8) : Nat → List UInt8
  | 0 => []
  | k + 1 => layS BB k ++ ((BB.drop (k * 16)).take 16 ++ (BB.drop (512 + k * 16)).take 16)
theorem pieceB_len {BB : List UInt8} (hB : BB.length = 1024) {o : Nat} (ho : o ≤ 1008) : ((BB.drop o).take 16).length = 16 := by
  rw [List.length_take, List.length_drop]; omega
theorem layS_len {BB : List UInt8} (hB : BB.length = 1024) : ∀ k, k ≤ 32 → (layS BB k).length = 32 * k
  | 0, _ => rfl
  | k + 1, h => by
    show (layS BB k ++ ((BB.drop (k * 16)).take 16 ++ (BB.drop (512 + k * 16)).take 16)).length = _
    rw [List.length_append, List.length_append, layS_len hB k (by omega), pieceB_len hB (by omega), pieceB_len hB (by omega)]
    omega
theorem bv_piece (BB : List UInt8) (o : Nat) : ((bv BB).drop o).take 16 = bv ((BB.drop o).take 16) := by
  simp [bv, List.map_drop, List.map_take]
set_option maxRecDepth 100000 in
set_option maxHeartbeats 4000000 in
theorem Lamp_Lay (BB : List UInt8) (v : Value) (bs : List UInt8) (w : World) (hB : BB.length = 1024) (ho : OwnB w v bs) (hb : bs.length + 1024 ≤ 140737488355328) :
    Calls Try.prog 21 #[.agg (bv BB).toArray, v] w fun e w' => ∃ v', e = .returned v' ∧ OwnB w' v' (bs ++ layS BB 32) ∧ Moved w w' v v' := by
  obtain ⟨i0, hi, hz0, hz1, hz2⟩ := info_parts u8_info
  have hlt0 := OwnB.lt ho
  have hb1 : Blk (w.alloc (.cells (bv BB).toArray 43)) w.heap.size 43 (bv BB) := Blk.new _ _ _
  have hx0 : Ext w (w.alloc (.cells (bv BB).toArray 43)) := (Ext.refl w).alloc _
  have ho0 : OwnB (w.alloc (.cells (bv BB).toArray 43)) v bs := ho.ext hx0
  have hm0 : Moved w (w.alloc (.cells (bv BB).toArray 43)) v v := Moved.pre hx0 (Moved.refl _ _)
  have hne0 : ∀ b, v.ownBlock = some b → b ≠ w.heap.size := fun b hb e => by have := hlt0 b hb; omega
  have HBL := Lib.hid hB
  have HB1 := Lib.hid hb1
  have HO0 := Lib.hid ho0
  have HM0 := Lib.hid hm0
  have HNE0 := Lib.hid hne0
  clear ho hb1 hx0 ho0 hm0 hne0 hlt0
  go_enter Try.func21, Try.ntmps21
  go_wp2
  go_loopw [1, 5, 6] (fun u p i wr => ∃ k : Nat, k ≤ 32 ∧ i = .int .i64 k ∧ OwnB wr u (bs ++ layS BB k) ∧ Moved w wr v u ∧ Blk wr w.heap.size 43 (bv BB) ∧ (∀ b, u.ownBlock = some b → b ≠ w.heap.size) ∧ ∃ q, p = q) (fun _ _ i _ => 32 - (intOf i).toNat)
  case atStart => exact ⟨0, by omega, rfl, by simpa [layS] using HO0.out, HM0.out, HB1.out, HNE0.out, _, rfl⟩
  case round =>
    clear HO0 HM0 HB1 HNE0
    obtain ⟨k, hk, rfl, hou, hmu, hbu, hne, q, rfl⟩ := hrel
    by_cases hlt : k < 32
    · have HO := Lib.hid hou
      have HM := Lib.hid hmu
      have HB := Lib.hid hbu
      have HNE := Lib.hid hne
      clear hou hmu hbu hne
      go_wp2
      have hou : OwnB wr.drew u1 (bs ++ layS BB k) := HO.out.ext (Ext.refl _).drew
      have hmu : Moved w wr.drew v u1 := HM.out.post (Ext.refl _).drew
      have hbu : Blk wr.drew w.heap.size 43 (bv BB) := HB.out
      refine startM (KeepB fun b => b = w.heap.size) (by kernel_rfl) ?_
      (try simp only [Act.put, List.setIfInBounds_toArray, List.set_cons_succ, List.set_cons_zero])
      generalize wr.drew = w0 at *
      have hll := layS_len HBL.out k (by omega)
      have hp1 := pieceB_len HBL.out (o := k * 16) (by omega)
      have hp2 := pieceB_len HBL.out (o := 512 + k * 16) (by omega)
      have hk1 : Cells w0 ⟨w.heap.size, k * 16, none⟩ (bv ((BB.drop (k * 16)).take 16)) := by have h := (hbu.cells.drop (k * 16)).take 16; rw [addr_at, bv_piece] at h; exact h
      have hk2 : Cells w0 ⟨w.heap.size, 512 + k * 16, none⟩ (bv ((BB.drop (512 + k * 16)).take 16)) := by have h := (hbu.cells.drop (512 + k * 16)).take 16; rw [addr_at, bv_piece] at h; exact h
      have hstep : layS BB (k + 1) = layS BB k ++ ((BB.drop (k * 16)).take 16 ++ (BB.drop (512 + k * 16)).take 16) := rfl
      generalize (BB.drop (k * 16)).take 16 = P1 at *
      generalize (BB.drop (512 + k * 16)).take 16 = P2 at *
      have hbl : w.heap.size < w0.heap.size := hbu.lt
      have HO := Lib.hid hou
      have HM := Lib.hid hmu
      have HB := Lib.hid hbu
      have HK1 := Lib.hid hk1
      have HK2 := Lib.hid hk2
      have HP1 := Lib.hid hp1
      have HP2 := Lib.hid hp2
      have HLL := Lib.hid hll
      have HST := Lib.hid hstep
      have HBLT := Lib.hid hbl
      clear hou hmu hbu hk1 hk2 hp1 hp2 hll hstep hbl
      refine takeK 0 rfl (by kernel_rfl) (by kernel_rfl) (by kernel_rfl) rfl (fun _ _ _ _ h => h) rfl (fun K hK => ?_)
      go_big_quiet_op
      first | refine hK _ ?_ | refine ⟨_, fun _ _ => rfl, hK _ ?_⟩
      clear hK K
      refine takeK 1 rfl (by kernel_rfl) (by kernel_rfl) (by kernel_rfl) rfl (fun _ _ _ _ h => h) rfl (fun K hK => ?_)
      go_big_quiet_op
      first | refine hK _ ?_ | refine ⟨_, fun _ _ => rfl, hK _ ?_⟩
      clear hK K
      refine takeK 2 rfl (by kernel_rfl) (by kernel_rfl) (by kernel_rfl) rfl (fun _ _ _ _ h => h) rfl (fun K hK => ?_)
      go_big_quiet_op
      first | refine hK _ ?_ | refine ⟨_, fun _ _ => rfl, hK _ ?_⟩
      clear hK K
      refine takeK 3 rfl (by kernel_rfl) (by kernel_rfl) (by kernel_rfl) rfl (fun _ _ _ _ h => h) rfl (fun K hK => ?_)
      go_big_quiet_op
      first | refine hK _ ?_ | refine ⟨_, fun _ _ => rfl, hK _ ?_⟩
      clear hK K
      refine takeK 4 rfl (by kernel_rfl) (by kernel_rfl) (by kernel_rfl) rfl (fun _ _ _ _ h => h) rfl (fun K hK => ?_)
      go_big_quiet_op
      first | refine hK _ ?_ | refine ⟨_, fun _ _ => rfl, hK _ ?_⟩
      clear hK K
      refine takeK 6 rfl (by kernel_rfl) (by kernel_rfl) (by kernel_rfl) rfl (fun _ _ _ _ h => h) rfl (fun K hK => ?_)
      go_big_quiet_op
      first | refine hK _ ?_ | refine ⟨_, fun _ _ => rfl, hK _ ?_⟩
      clear hK K
      refine takeK 7 rfl (by kernel_rfl) (by kernel_rfl) (by kernel_rfl) rfl (fun _ _ _ _ h => h) rfl (fun K hK => ?_)
      go_big_quiet_op
      first | refine hK _ ?_ | refine ⟨_, fun _ _ => rfl, hK _ ?_⟩
      clear hK K
      refine takeK 8 rfl (by kernel_rfl) (by kernel_rfl) (by kernel_rfl) rfl (fun _ _ _ _ h => h) rfl (fun K hK => ?_)
      go_big_quiet_op
      first | refine hK _ ?_ | refine ⟨_, fun _ _ => rfl, hK _ ?_⟩
      clear hK K
      refine takeK 9 rfl (by kernel_rfl) (by kernel_rfl) (by kernel_rfl) rfl (fun _ _ _ _ h => h) rfl (fun K hK => ?_)
      go_big_quiet_op
      first | refine hK _ ?_ | refine ⟨_, fun _ _ => rfl, hK _ ?_⟩
      clear hK K
      refine stepM 5 rfl (by kernel_rfl) rfl (fun K hK => ?_)
      refine wp_app _ (.tmp 9) (.tmp 13) _ _ rfl 5 5 i0 _ 1 1 Try.underlying56 Try.underlying55 hi hz0 hz1 hz2 rfl (by decide) u1 _ _ rfl HO.out _ 16 16 (bv P1) rfl (by simp [HP1.out]) (fun _ => ⟨_, rfl, HK1.out⟩) (bv_one _) (by have := HLL.out; rw [List.length_append]; unfold maxLen; omega) (by have := HLL.out; rw [List.length_append]; omega) ?_
      intro v8 w8 ho8 hm8
      have ho8 : OwnB w8 v8 ((bs ++ layS BB k) ++ P1) := OwnB.app (by rw [HP1.out]; exact ho8)
      have hne8 : ∀ b, v8.ownBlock = some b → b ≠ w.heap.size := fun b hb => by rcases hm8.at_ with e | hn; exact HNE.out b (e.symm.trans hb); have h1 := hn b hb; have h3 := HBLT.out; omega
      have HNE8 := Lib.hid hne8
      have HK28 := Lib.hid (HK2.out.keep (hm8.grown.block w.heap.size HBLT.out (fun e => HNE.out _ e.symm rfl)))
      clear hne8
      refine hK _ _ (fun b hb => by subst hb; exact hm8.grown.block _ HBLT.out (fun e => HNE.out _ e.symm rfl)) ?_
      clear hK K
      (try simp only [Act.put, List.setIfInBounds_toArray, List.set_cons_succ, List.set_cons_zero])
      refine stepM 10 rfl (by kernel_rfl) rfl (fun K hK => ?_)
      refine wp_app _ (.tmp 14) (.tmp 18) _ _ rfl 5 5 i0 _ 1 1 Try.underlying56 Try.underlying55 hi hz0 hz1 hz2 rfl (by decide) v8 _ _ rfl ho8 _ 16 16 (bv P2) rfl (by simp [HP2.out]) (fun _ => ⟨_, rfl, HK28.out⟩) (bv_one _) (by have := HLL.out; have := HP1.out; rw [List.length_append, List.length_append]; unfold maxLen; omega) (by have := HLL.out; have := HP1.out; rw [List.length_append, List.length_append]; omega) ?_
      intro v9 w9 ho9 hm9
      have ho9 : OwnB w9 v9 (((bs ++ layS BB k) ++ P1) ++ P2) := OwnB.app (by rw [HP2.out]; exact ho9)
      refine hK _ _ (fun b hb => by subst hb; exact hm9.grown.block _ (Nat.lt_of_lt_of_le HBLT.out hm8.grown.size) (fun e => HNE8.out _ e.symm rfl)) ?_
      clear hK K
      (try simp only [Act.put, List.setIfInBounds_toArray, List.set_cons_succ, List.set_cons_zero])
      refine takeK 11 rfl (by kernel_rfl) (by kernel_rfl) (by kernel_rfl) rfl (fun _ _ _ _ h => h) rfl (fun K hK => ?_)
      go_big_quiet_op
      first | refine hK _ ?_ | refine ⟨_, fun _ _ => rfl, hK _ ?_⟩
      clear hK K
      refine doneM (by kernel_rfl) ?_ _
      have hm2 : Moved w w9 v v9 := (HM.out.trans hm8).trans hm9
      have hb2 : Blk w9 w.heap.size 43 (bv BB) := (HB.out.keep hm8.grown (fun e => HNE.out _ e.symm rfl)).keep hm9.grown (fun e => HNE8.out _ e.symm rfl)
      have hne9 : ∀ b, v9.ownBlock = some b → b ≠ w.heap.size := fun b hb => by
        rcases hm9.at_ with e | hn
        · exact HNE8.out b (e.symm.trans hb)
        · have h1 := hn b hb
          have h2 := hm8.grown.size
          have h3 := HBLT.out
          omega
      have ho2 : OwnB w9 v9 (bs ++ layS BB (k + 1)) := by rw [HST.out, ← List.append_assoc, ← List.append_assoc]; exact ho9
      have HM9 := Lib.hid hm2
      have HB9 := Lib.hid hb2
      have HN9 := Lib.hid hne9
      have HO9 := Lib.hid ho2
      clear hm2 hb2 hne9 ho2 ho9 hm9
      go_wp2
      go_roundw
      case rel => exact ⟨k + 1, by omega, by go_num, HO9.out, HM9.out, HB9.out, HN9.out, _, rfl⟩
      case measure => simp [intOf]; omega
    · obtain rfl : k = 32 := by omega
      go_wp2
      go_ret
      exact ⟨_, rfl, hou, hmu⟩
end
section
open Go.RowKit

def signM (seed : List UInt8) (n : Nat) (d : List UInt8) : List UInt8 := piecesM (openM seed n d) 32 ++ piecesM (otherM seed n d) 32
theorem signM_length (seed : List UInt8) (n : Nat) (d : List UInt8) : (signM seed n d).length = 1024 := by
  unfold signM
  rw [List.length_append, piecesM_length (f := openM seed n d) (fun _ => secretM_length _ _ _ _), piecesM_length (f := otherM seed n d) (fun _ => coverM_length _)]
theorem sign_open (seed : List UInt8) (n : Nat) (d : List UInt8) {k : Nat} (h : k < 32) : ((bv (signM seed n d)).drop (k * 16)).take 16 = bv (openM seed n d k) := by
  have e := pieceAt_pieces (f := openM seed n d) (fun _ => secretM_length _ _ _ _) h
  have hl : (piecesM (openM seed n d) 32).length = 512 := piecesM_length (f := openM seed n d) (fun _ => secretM_length _ _ _ _) 32
  unfold pieceAt at e
  rw [← e, bv, ← List.map_drop, ← List.map_take, signM, List.drop_append_of_le_length (by rw [hl]; omega), List.take_append_of_le_length (by rw [List.length_drop, hl]; omega), Nat.mul_comm 16 k]
  rfl
theorem sign_other (seed : List UInt8) (n : Nat) (d : List UInt8) {k : Nat} (h : k < 32) : ((bv (signM seed n d)).drop (512 + k * 16)).take 16 = bv (otherM seed n d k) := by
  have e := pieceAt_pieces (f := otherM seed n d) (fun _ => coverM_length _) h
  have hl : (piecesM (openM seed n d) 32).length = 512 := piecesM_length (f := openM seed n d) (fun _ => secretM_length _ _ _ _) 32
  unfold pieceAt at e
  rw [← e, bv, ← List.map_drop, ← List.map_take, signM, ← List.drop_drop, List.drop_left' hl, Nat.mul_comm 16 k]
  rfl
theorem Secret_i (seed : List UInt8) (hs : seed.length = 32) (n : Nat) (hn : (Lit.int .u32 (n : Int)).wf = true) (k : Nat) (hk : k < 32) (bt : Nat) (hbt : bt < 2) (x : Int) (hx : x = (bt : Int)) (w : World) :
    Calls Try.prog 31 #[.agg (keyC seed n).toArray, .int .i64 (k : Int), .int .u8 x] w fun e w' => e = .returned (.agg (bv (secretM seed n k bt)).toArray) ∧ Ext w w' := by
  subst hx; exact Secret seed hs n hn k hk bt hbt w
theorem sig_size {n : Nat} (h : n = 1024) : (Try.prog.info? 43).map (·.size) = some n := by subst h; kernel_rfl
set_option maxRecDepth 100000 in
set_option maxHeartbeats 4000000 in
theorem Sign (seed : List UInt8) (hs : seed.length = 32) (n : Nat) (hn : (Lit.int .u32 (n : Int)).wf = true) (d : List UInt8) (hd : d.length = 32) (w : World) :
    Calls Try.prog 14 #[.agg (keyC seed n).toArray, .agg (bv d).toArray] w fun e w' => e = .returned (.agg (bv (signM seed n d)).toArray) ∧ Ext w w' := by
  obtain ⟨Z, hz, hzl, hzo⟩ : ∃ Z : List Value, (Try.prog.info? 43).bind (fun i => i.zero.map (·.cells)) = some Z.toArray ∧ Z.length = 1024 ∧ ∀ u ∈ Z, u.oneCell' = true := ⟨_, zSigTo04, List.length_replicate, fun u hu => by rw [List.eq_of_mem_replicate hu]; rfl⟩
  have hC : (bv (signM seed n d)).length = 1024 := by rw [bv_length, signM_length]
  have hone := bv_one (signM seed n d)
  have hop := fun k (h : k < 32) => sign_open seed n d h
  have hot := fun k (h : k < 32) => sign_other seed n d h
  have hkl := keyC_len hs n
  have hdl : (bv d).length = 32 := by rw [bv_length]; exact hd
  have hsec := fun (k : Nat) (hk : k < 32) (bt : Nat) (hbt : bt < 2) (x : Int) (hx : x = (bt : Int)) W => Secret_i seed hs n hn k hk bt hbt x hx W
  have hbit := fun (k : Nat) (hk : k < 32) W => Bit d hd k hk W
  generalize bv (signM seed n d) = C at *
  generalize keyC seed n = KC at *
  generalize bv d = DC at *
  have hb0 : Blk ((((w.alloc (.cells KC.toArray 28)).alloc (.cells DC.toArray 31)).alloc (.cells Z.toArray 43)).alloc (.cells Z.toArray 43)) w.heap.size 28 KC := (((Blk.new _ _ _).keep ((Ext.refl _).alloc _) (by simp)).keep ((Ext.refl _).alloc _) (by simp)).keep ((Ext.refl _).alloc _) (by simp)
  have hb1 : Blk ((((w.alloc (.cells KC.toArray 28)).alloc (.cells DC.toArray 31)).alloc (.cells Z.toArray 43)).alloc (.cells Z.toArray 43)) (w.heap.size + 1) 31 DC := ((Blk.fresh (by simp) _ _).keep ((Ext.refl _).alloc _) (by simp)).keep ((Ext.refl _).alloc _) (by simp)
  have hb2 : Blk ((((w.alloc (.cells KC.toArray 28)).alloc (.cells DC.toArray 31)).alloc (.cells Z.toArray 43)).alloc (.cells Z.toArray 43)) (w.heap.size + 1 + 1) 43 Z := (Blk.fresh (by simp) _ _).keep ((Ext.refl _).alloc _) (by simp)
  have hb3 : Blk ((((w.alloc (.cells KC.toArray 28)).alloc (.cells DC.toArray 31)).alloc (.cells Z.toArray 43)).alloc (.cells Z.toArray 43)) (w.heap.size + 1 + 1 + 1) 43 Z := Blk.fresh (by simp) _ _
  have hx0 : Ext w ((((w.alloc (.cells KC.toArray 28)).alloc (.cells DC.toArray 31)).alloc (.cells Z.toArray 43)).alloc (.cells Z.toArray 43)) := ((((Ext.refl w).alloc _).alloc _).alloc _).alloc _
  have HB0 := Lib.hid hb0
  have HB1 := Lib.hid hb1
  have HB2 := Lib.hid hb2
  have HB3 := Lib.hid hb3
  have HX0 := Lib.hid hx0
  have HCL := Lib.hid hC
  have HZL := Lib.hid hzl
  have HKL := Lib.hid hkl
  have HDL := Lib.hid hdl
  have HOP := Lib.hid hop
  have HOT := Lib.hid hot
  have HSEC := Lib.hid hsec
  have HBIT := Lib.hid hbit
  clear hb0 hb1 hb2 hb3 hx0 hC hzl hkl hdl hop hot hsec hbit
  go_enter Try.func14, Try.ntmps14
  go_wp2_with (first
    | (refine wpList_alloc _ rfl 43 rfl _ hz ?_)
    | fail)
  go_loopw [6, 7, 8] (fun p q i wr => ∃ k : Nat, k ≤ 32 ∧ i = .int .i64 k ∧ Ext w wr ∧ Blk wr w.heap.size 28 KC ∧ Blk wr (w.heap.size + 1) 31 DC ∧ Blk wr (w.heap.size + 1 + 1) 43 Z ∧ Blk wr (w.heap.size + 1 + 1 + 1) 43 (mixAt C Z k)) (fun _ _ i _ => 32 - (intOf i).toNat)
  case atStart => exact ⟨0, by omega, rfl, HX0.out, HB0.out, HB1.out, HB2.out, by rw [mixAt_zero C Z HCL.out HZL.out]; exact HB3.out⟩
  case round =>
    clear HX0 HB0 HB1 HB2 HB3
    obtain ⟨k, hk, rfl, hx, hb0, hb1, hb2, hb3⟩ := hrel
    by_cases hlt : k < 32
    · have hcd := hb1.cells
      have hbl := bitM_lt d k
      have hp1 : (bv (openM seed n d k)).length = 16 := by rw [bv_length]; exact secretM_length _ _ _ _
      have hp2 : (bv (otherM seed n d k)).length = 16 := by rw [bv_length]; exact coverM_length _
      have ho1 := bv_one (openM seed n d k)
      have ho2 := bv_one (otherM seed n d k)
      have hst := mixAt_step C Z HCL.out HZL.out k hlt
      rw [HOP.out k hlt, HOT.out k hlt] at hst
      have hsc := fun W => HSEC.out k hlt (bitM d k) hbl _ rfl W
      have hsc2 := fun (x : Int) hx W => HSEC.out k hlt (1 - bitM d k) (by omega) x hx W
      have hcv := fun W => Cover (secretM seed n k (1 - bitM d k)) (secretM_length _ _ _ _) W
      have e1 : secretM seed n k (bitM d k) = openM seed n d k := rfl
      have e2 : coverM (secretM seed n k (1 - bitM d k)) = otherM seed n d k := rfl
      rw [e1] at hsc
      rw [e2] at hcv
      have hbt := fun W => HBIT.out k hlt W
      generalize bitM d k = b at *
      generalize hS2 : bv (secretM seed n k (1 - b)) = S2 at *
      generalize bv (openM seed n d k) = P1 at *
      generalize bv (otherM seed n d k) = P2 at *
      have hc3 : (w.heap.size + 1 + 1 + 1) ≠ w.heap.size := by omega
      have HX := Lib.hid hx
      have HB0 := Lib.hid hb0
      have HB1 := Lib.hid hb1
      have HB2 := Lib.hid hb2
      have HB3 := Lib.hid hb3
      have HP1 := Lib.hid hp1
      have HP2 := Lib.hid hp2
      have HST := Lib.hid hst
      have HSC := Lib.hid hsc
      have HSC2 := Lib.hid hsc2
      have HCV := Lib.hid hcv
      have HBT := Lib.hid hbt
      have HBL := Lib.hid hbl
      clear hx hb0 hb1 hb2 hb3 hp1 hp2 hst hsc hsc2 hcv hbt hbl hS2 e1 e2
      go_wp2_with (first
        | (refine wpList_load_agg _ rfl 31 (.tmp 3) rfl _ rfl DC _ Try.underlying31 rfl (digest_size HDL.out) hcd ?_)
        | (go_at_call 36; refine (HBT.out _).mono ?_; rintro e w1 ⟨rfl, hx1⟩; have hk1 := (HB0.out.keep hx1 (by simp)).cells)
        | (refine wpList_load_agg _ rfl 28 (.tmp 2) rfl _ rfl KC _ Try.underlying28 rfl (key_size HKL.out) hk1 ?_)
        | fail)
      refine (HSC.out _).mono ?_
      rintro e w2 ⟨rfl, hx2⟩
      have hx12 := hx1.trans hx2
      have hm2 : w2.heap[w.heap.size + 1 + 1 + 1]? = some (.cells (mixAt C Z k).toArray 43 (0, 0)) := HB3.out.keep hx12 (by simp)
      have hk2 : Blk (w2.setRow (w.heap.size + 1 + 1 + 1) (putAt (mixAt C Z k) (k * 16) P1).toArray) w.heap.size 28 KC := (HB0.out.keep hx12 (by simp)).keep (setRow_only _) (by simp; omega)
      have hk3 := hk2.cells
      have HX12 := Lib.hid hx12
      have HK2 := Lib.hid hk2
      clear hx1 hx2 hx12 hk2 hcd hk1
      go_wp2_with (first
        | (refine wpList_store_part _ rfl 40 (.tmp 20) (.tmp 18) rfl (w.heap.size + 1 + 1 + 1) (k * 16) rfl (mixAt C Z k) P1 _ rfl hm2 (piece_size HP1.out) (by rw [mixAt_len, HP1.out]; omega) ho1 ?_)
        | (refine wpList_load_agg _ rfl 28 (.tmp 2) rfl _ rfl KC _ Try.underlying28 rfl (key_size HKL.out) hk3 ?_)
        | fail)
      refine (HSC2.out _ (by have := HBL.out; omega) _).mono ?_
      rintro e w3 ⟨rfl, hx3⟩
      clear hk3
      go_wp2_with (first
        | fail)
      refine (HCV.out _).mono ?_
      rintro e w4 ⟨rfl, hx4⟩
      have hx34 := hx3.trans hx4
      have hm4 : w4.heap[w.heap.size + 1 + 1 + 1]? = some (.cells (putAt (mixAt C Z k) (k * 16) P1).toArray 43 (0, 0)) := Blk.keep (t := 43) (setRow_at hm2) hx34 (by simp)
      have hg2 : w.grownBy w2 none := HX.out.trans HX12.out
      have hx2g : Ext w (w2.setRow (w.heap.size + 1 + 1 + 1) (putAt (mixAt C Z k) (k * 16) P1).toArray) := grown_then hg2 (setRow_only _) (.inr (by rintro b ⟨⟩; omega))
      have hx9 : Ext w (w4.setRow (w.heap.size + 1 + 1 + 1) (putAt (putAt (mixAt C Z k) (k * 16) P1) (512 + k * 16) P2).toArray) := grown_then (hx2g.trans hx34) (setRow_only _) (.inr (by rintro b ⟨⟩; omega))
      have hb0 := (HK2.out.keep hx34 (by simp)).keep (setRow_only (putAt (putAt (mixAt C Z k) (k * 16) P1) (512 + k * 16) P2).toArray) (show some w.heap.size ≠ some (w.heap.size + 1 + 1 + 1) by simp; omega)
      have hb1 := (((HB1.out.keep HX12.out (by simp)).keep (setRow_only (putAt (mixAt C Z k) (k * 16) P1).toArray) (show some (w.heap.size + 1) ≠ some (w.heap.size + 1 + 1 + 1) by simp)).keep hx34 (by simp)).keep (setRow_only (putAt (putAt (mixAt C Z k) (k * 16) P1) (512 + k * 16) P2).toArray) (show some (w.heap.size + 1) ≠ some (w.heap.size + 1 + 1 + 1) by simp)
      have hb2 := (((HB2.out.keep HX12.out (by simp)).keep (setRow_only (putAt (mixAt C Z k) (k * 16) P1).toArray) (show some (w.heap.size + 1 + 1) ≠ some (w.heap.size + 1 + 1 + 1) by simp)).keep hx34 (by simp)).keep (setRow_only (putAt (putAt (mixAt C Z k) (k * 16) P1) (512 + k * 16) P2).toArray) (show some (w.heap.size + 1 + 1) ≠ some (w.heap.size + 1 + 1 + 1) by simp)
      have hb3 : Blk (w4.setRow (w.heap.size + 1 + 1 + 1) (putAt (putAt (mixAt C Z k) (k * 16) P1) (512 + k * 16) P2).toArray) (w.heap.size + 1 + 1 + 1) 43 (mixAt C Z (k + 1)) := by rw [← HST.out]; exact setRow_at hm4
      have HX9 := Lib.hid hx9
      have HB90 := Lib.hid hb0
      have HB91 := Lib.hid hb1
      have HB92 := Lib.hid hb2
      have HB93 := Lib.hid hb3
      clear hx9 hb0 hb1 hb2 hb3 hx3 hx4 hx34 hg2 hx2g hm2
      go_wp2_with (first
        | (refine wpList_store_part _ rfl 40 (.tmp 29) (.tmp 27) rfl (w.heap.size + 1 + 1 + 1) (512 + k * 16) rfl (putAt (mixAt C Z k) (k * 16) P1) P2 _ rfl hm4 (piece_size HP2.out) (by rw [putAt_len (by rw [mixAt_len, HP1.out]; omega), mixAt_len, HP2.out]; omega) ho2 ?_)
        | fail)
      go_roundw
      case rel => exact ⟨k + 1, by omega, by go_num, HX9.out, HB90.out, HB91.out, HB92.out, HB93.out⟩
      case measure => simp [intOf]; omega
    · obtain rfl : k = 32 := by omega
      rw [mixAt_all C Z HCL.out HZL.out] at hb3
      have hcm := hb3.cells
      have hr2 : wr.heap[w.heap.size + 1 + 1]? = some (.cells Z.toArray 43 (0, 0)) := hb2
      have HX := Lib.hid hx
      clear hx hb0 hb1 hb2 hb3
      go_wp2_with (first
        | (refine wpList_load_agg _ rfl 43 (.tmp 5) rfl _ rfl C _ Try.underlying43 rfl (sig_size HCL.out) hcm ?_)
        | (refine wpList_store_row _ rfl 43 (.tmp 4) (.tmp 31) rfl (w.heap.size + 1 + 1) rfl Z C _ rfl hr2 (sig_size HCL.out) (by rw [HCL.out, HZL.out]) hone ?_)
        | fail)
      have hc9 := Blk.cells (t := 43) (setRow_at (cs' := C.toArray) hr2)
      (try simp only [Exit.inBlock, Exit.then])
      refine bodyPost_ret (results_agg rfl _ _ _ _ _ rfl Try.underlying43 rfl (sig_size HCL.out) hc9) rfl ?_
      exact ⟨rfl, grown_then HX.out (setRow_only _) (.inr (by rintro b ⟨⟩; omega))⟩
end
section
open Go.RowKit

theorem wpList_indexAgg {P : Program} {w : World} {ops : Array Oper} {rest : List Oper} {o : Oper} {a : Act} {Q : Exit → Act → World → Prop} (hgd : o.guard = none ∨ Region.wanted o (yielded ops a.tmps) = true) (t : TypeId) (x y : Operand) (ho : o.op = .index t x y)
    (cs piece : List Value) (k n m : Nat) (q : IntKind) (e : TypeId) (d : TypeDesc) (hx : a.eval x = .agg cs.toArray) (hy : a.eval y = .int q (k : Int)) (hu : P.underlying t = some (.array n e)) (hk : k < n)
    (he : P.underlying e = some d) (hd : isAggD d = true) (hs : (P.info? e).map (·.size) = some m) (hc : (cs.drop (k * m)).take m = piece) (h : wpList P ops Q rest (a.put o.dst (.agg piece.toArray)) w) : wpList P ops Q (o :: rest) a w :=
  wpList_want hgd fun K hK => by
    have hagg : (isAgg e).run P w = .ok true w := by
      unfold isAgg
      rw [Sem.run_bind, run_underlying he w]
      cases d <;> simp_all [isAggD]
    have hr : (Instr.index t (.agg cs.toArray) (.int q (k : Int))).run P w = .ok (.agg piece.toArray) w := by
      have hk2 : (0 : Int) ≤ (k : Int) ∧ (k : Int) < (n : Int) := by omega
      obtain ⟨i, hi2, rfl⟩ := Option.map_eq_some_iff.1 hs
      rw [← hc]
      simp [Instr.index, asIntOf, run_underlying hu, Nat.not_le_of_lt hk, hk, sizeOf, typeInfo, hi2, part, hagg]
    unfold Oper.wp execOp
    simp only [ho, hx, hy, Sem.run_bind, hr, Result.andThen_ok, Sem.run_pure]
    exact hK _ _ h
theorem two_size {n : Nat} (h : n = 32) : (Try.prog.info? 71).map (·.size) = some n := by subst h; kernel_rfl
theorem two_zero : (Try.prog.info? 71).bind (fun i => i.zero.map (·.cells)) = some (bv (List.replicate 32 0)).toArray := by kernel_rfl
theorem all_size {n : Nat} (h : n = 1024) : (Try.prog.info? 72).map (·.size) = some n := by subst h; kernel_rfl
theorem take_step32 (L : List UInt8) (hL : L.length = 1024) {k : Nat} (h : k < 32) : L.take (32 * (k + 1)) = L.take (32 * k) ++ (((L.drop (k * 32)).take 32).take 16 ++ ((L.drop (k * 32)).take 32).drop 16) := by
  rw [List.take_append_drop, Nat.mul_succ, List.take_add, Nat.mul_comm k 32]
theorem bv_drop_take (L : List UInt8) (a b : Nat) : ((bv L).drop a).take b = bv ((L.drop a).take b) := by simp [bv, List.map_drop, List.map_take]
set_option maxRecDepth 100000 in
set_option maxHeartbeats 4000000 in
theorem LeafW (L : List UInt8) (hL : L.length = 1024) (w : World) :
    Calls Try.prog 32 #[.agg (bv L).toArray] w fun e w' => e = .returned (.agg (bv (leafOf L)).toArray) ∧ Ext w w' := by
  obtain ⟨i0, hi, hz0, hz1, hz2⟩ := info_parts u8_info
  have hzd := digest_zero
  have hzt := two_zero
  have hdl : (bv (List.replicate 32 0)).length = 32 := by simp
  generalize bv (List.replicate 32 0) = D at hzd hzt hdl
  have hll : (bv L).length = 1024 := by rw [bv_length]; exact hL
  have hpc := fun k => bv_drop_take L (k * 32) 32
  have hb0 : Blk ((w.alloc (.cells (bv L).toArray 72)).alloc (.cells D.toArray 31)) w.heap.size 72 (bv L) := (Blk.new _ _ _).keep ((Ext.refl _).alloc _) (by simp)
  have hb1 : Blk ((w.alloc (.cells (bv L).toArray 72)).alloc (.cells D.toArray 31)) (w.heap.size + 1) 31 D := Blk.fresh (by simp) _ _
  have hx0 : Ext w ((w.alloc (.cells (bv L).toArray 72)).alloc (.cells D.toArray 31)) := ((Ext.refl w).alloc _).alloc _
  have hcl := hb0.cells
  generalize bv L = B at *
  have HB1 := Lib.hid hb1
  have HX0 := Lib.hid hx0
  have HDL := Lib.hid hdl
  have HLL := Lib.hid hll
  have HL := Lib.hid hL
  have HPC := Lib.hid hpc
  clear hb0 hb1 hx0 hdl hll hL hpc
  go_enter Try.func32, Try.ntmps32
  go_wp2_with (first
    | (refine wpList_alloc _ rfl 31 rfl _ hzd ?_)
    | (refine wpList_load_agg _ rfl 72 (.tmp 1) rfl _ rfl B _ Try.underlying72 rfl (all_size HLL.out) hcl ?_)
    | fail)
  go_loopw [3, 5, 7] (fun u p i wr => ∃ k : Nat, k ≤ 32 ∧ i = .int .i64 k ∧ OwnB wr u (L.take (32 * k)) ∧ Ext w wr ∧ Blk wr (w.heap.size + 1) 31 D ∧ (∀ b, u.ownBlock = some b → w.heap.size + 2 ≤ b) ∧ ∃ q, p = q) (fun _ _ i _ => 32 - (intOf i).toNat)
  case atStart => exact ⟨0, by omega, rfl, Own.nil _ _ _, HX0.out, HB1.out, fun b hb => (by simp [Value.ownBlock] at hb), _, rfl⟩
  case round =>
    clear HX0 HB1 hcl
    obtain ⟨k, hk, rfl, hou, hx, hb1, hne, q, rfl⟩ := hrel
    by_cases hlt : k < 32
    · have hpp := HPC.out k
      have hst := take_step32 L HL.out hlt
      have hpl : ((L.drop (k * 32)).take 32).length = 32 := by rw [List.length_take, List.length_drop, HL.out]; omega
      have htl : (L.take (32 * k)).length = 32 * k := by rw [List.length_take, HL.out]; omega
      have hpo := bv_one ((L.drop (k * 32)).take 32)
      have hbl : (bv ((L.drop (k * 32)).take 32)).length = 32 := by rw [bv_length]; exact hpl
      have hp1 : (((L.drop (k * 32)).take 32).take 16).length = 16 := by rw [List.length_take, hpl]; rfl
      have hp2 : (((L.drop (k * 32)).take 32).drop 16).length = 16 := by rw [List.length_drop, hpl]
      have hcb : Blk ((wr.alloc (.cells (bv ((L.drop (k * 32)).take 32)).toArray 71)).drew) wr.heap.size 71 (bv ((L.drop (k * 32)).take 32)) := (Blk.new _ _ _).keep (Ext.refl _).drew (by simp)
      have hk1 : Cells ((wr.alloc (.cells (bv ((L.drop (k * 32)).take 32)).toArray 71)).drew) ⟨wr.heap.size, 0, none⟩ (bv (((L.drop (k * 32)).take 32).take 16)) := by
        have h := hcb.cells.take 16
        have e : (bv ((L.drop (k * 32)).take 32)).take 16 = bv (((L.drop (k * 32)).take 32).take 16) := by simp [bv, List.map_take, List.map_drop]
        rw [e] at h; exact h
      have hk2 : Cells ((wr.alloc (.cells (bv ((L.drop (k * 32)).take 32)).toArray 71)).drew) ⟨wr.heap.size, 16, none⟩ (bv (((L.drop (k * 32)).take 32).drop 16)) := by
        have h := hcb.cells.drop 16
        have e : (bv ((L.drop (k * 32)).take 32)).drop 16 = bv (((L.drop (k * 32)).take 32).drop 16) := by simp [bv, List.map_take, List.map_drop]
        rw [addr_at, e] at h; exact h
      have hxw : Ext wr ((wr.alloc (.cells (bv ((L.drop (k * 32)).take 32)).toArray 71)).drew) := ((Ext.refl wr).alloc _).trans (Ext.refl _).drew
      have hou2 := hou.ext hxw
      have hx2 := hx.trans hxw
      have hb2 := hb1.keep hxw (by simp)
      have hlt0 := OwnB.lt hou
      generalize ((L.drop (k * 32)).take 32).take 16 = P1 at *
      generalize ((L.drop (k * 32)).take 32).drop 16 = P2 at *
      generalize bv ((L.drop (k * 32)).take 32) = PP at *
      have HX := Lib.hid hx2
      have HB := Lib.hid hb2
      have HO := Lib.hid hou2
      have HNE := Lib.hid hne
      have HLT := Lib.hid hlt0
      have HST := Lib.hid hst
      have HTL := Lib.hid htl
      have HBL := Lib.hid hbl
      have HP1 := Lib.hid hp1
      have HP2 := Lib.hid hp2
      have HK1 := Lib.hid hk1
      have HK2 := Lib.hid hk2
      have HCB := Lib.hid hcb
      have HPP := Lib.hid hpp
      clear hou hx hb1 hne hpl htl hbl hp1 hp2 hk1 hk2 hcb hxw hou2 hx2 hb2 hlt0 hst hpp
      go_wp2_with (first
        | (refine wpList_indexAgg (.inl rfl) 72 (.tmp 6) (.tmp 7) rfl B PP k 32 32 _ 71 _ rfl rfl Try.underlying72 hlt Try.underlying71 rfl (two_size rfl) HPP.out ?_)
        | (refine wpList_alloc _ rfl 71 rfl _ hzt ?_)
        | (refine wpList_store_new _ rfl 71 (.tmp 5) (.tmp 9) rfl rfl D PP _ rfl (two_size HBL.out) (by rw [HBL.out, HDL.out]) hpo ?_)
        | fail)
      refine startM (KeepB fun b => b = wr.heap.size) (by kernel_rfl) ?_
      (try simp only [Act.put, List.setIfInBounds_toArray, List.set_cons_succ, List.set_cons_zero])
      have hbg : wr.heap.size < (wr.alloc (.cells PP.toArray 71)).drew.heap.size := HCB.out.lt
      generalize (wr.alloc (.cells PP.toArray 71)).drew = w0 at *
      have HBG := Lib.hid hbg
      clear hbg
      have HNU : Hid (∀ b, u3.ownBlock = some b → b ≠ wr.heap.size) := Lib.hid fun b hb e => by have := HLT.out b hb; omega
      generalize wr.heap.size = gp at *
      refine takeK 0 rfl (by kernel_rfl) (by kernel_rfl) (by kernel_rfl) rfl (fun _ _ _ _ h => h) rfl (fun K hK => ?_)
      go_big_quiet_op
      first | refine hK _ ?_ | refine ⟨_, fun _ _ => rfl, hK _ ?_⟩
      clear hK K
      refine takeK 1 rfl (by kernel_rfl) (by kernel_rfl) (by kernel_rfl) rfl (fun _ _ _ _ h => h) rfl (fun K hK => ?_)
      go_big_quiet_op
      first | refine hK _ ?_ | refine ⟨_, fun _ _ => rfl, hK _ ?_⟩
      clear hK K
      refine takeK 2 rfl (by kernel_rfl) (by kernel_rfl) (by kernel_rfl) rfl (fun _ _ _ _ h => h) rfl (fun K hK => ?_)
      go_big_quiet_op
      first | refine hK _ ?_ | refine ⟨_, fun _ _ => rfl, hK _ ?_⟩
      clear hK K
      refine takeK 4 rfl (by kernel_rfl) (by kernel_rfl) (by kernel_rfl) rfl (fun _ _ _ _ h => h) rfl (fun K hK => ?_)
      go_big_quiet_op
      first | refine hK _ ?_ | refine ⟨_, fun _ _ => rfl, hK _ ?_⟩
      clear hK K
      refine takeK 5 rfl (by kernel_rfl) (by kernel_rfl) (by kernel_rfl) rfl (fun _ _ _ _ h => h) rfl (fun K hK => ?_)
      go_big_quiet_op
      first | refine hK _ ?_ | refine ⟨_, fun _ _ => rfl, hK _ ?_⟩
      clear hK K
      refine stepM 3 rfl (by kernel_rfl) rfl (fun K hK => ?_)
      refine wp_app _ (.tmp 10) (.tmp 12) _ _ rfl 5 5 i0 _ 1 1 Try.underlying55 Try.underlying55 hi hz0 hz1 hz2 rfl (by decide) u3 _ _ rfl HO.out _ 16 16 (bv P1) rfl (by simp [HP1.out]) (fun _ => ⟨_, rfl, HK1.out⟩) (bv_one _) (by rw [HTL.out]; unfold maxLen; omega) (by rw [HTL.out]; omega) ?_
      intro v8 w8 ho8 hm8
      have ho8' : OwnB w8 v8 (L.take (32 * k) ++ P1) := OwnB.app (by rw [HP1.out]; exact ho8)
      have HK28 := Lib.hid (HK2.out.keep (hm8.grown.block _ HBG.out (fun e => HNU.out _ e.symm rfl)))
      have HNE8 : Hid (∀ b, v8.ownBlock = some b → b ≠ gp) := Lib.hid (fun b hb e => by rcases hm8.at_ with h | h <;> first | exact HNU.out b (h.symm.trans hb) e | (have := h b hb; have := HBG.out; omega))
      refine hK _ _ (fun b hb => by subst hb; exact hm8.grown.block _ HBG.out (fun e => HNU.out _ e.symm rfl)) ?_
      clear hK K
      (try simp only [Act.put, List.setIfInBounds_toArray, List.set_cons_succ, List.set_cons_zero])
      refine stepM 6 rfl (by kernel_rfl) rfl (fun K hK => ?_)
      refine wp_app _ (.tmp 13) (.tmp 15) _ _ rfl 5 5 i0 _ 1 1 Try.underlying55 Try.underlying55 hi hz0 hz1 hz2 rfl (by decide) v8 _ _ rfl ho8' _ 16 16 (bv P2) rfl (by simp [HP2.out]) (fun _ => ⟨_, rfl, HK28.out⟩) (bv_one _) (by rw [List.length_append, HTL.out, HP1.out]; unfold maxLen; omega) (by rw [List.length_append, HTL.out, HP1.out]; omega) ?_
      intro v9 w9 ho9 hm9
      replace ho9 : OwnB w9 v9 (L.take (32 * k) ++ P1 ++ P2) := OwnB.app (by rw [HP2.out]; exact ho9)
      refine hK _ _ (fun b hb => by subst hb; exact hm9.grown.block _ (Nat.lt_of_lt_of_le HBG.out hm8.grown.size) (fun e => HNE8.out _ e.symm rfl)) ?_
      clear hK K
      (try simp only [Act.put, List.setIfInBounds_toArray, List.set_cons_succ, List.set_cons_zero])
      refine takeK 7 rfl (by kernel_rfl) (by kernel_rfl) (by kernel_rfl) rfl (fun _ _ _ _ h => h) rfl (fun K hK => ?_)
      go_big_quiet_op
      first | refine hK _ ?_ | refine ⟨_, fun _ _ => rfl, hK _ ?_⟩
      clear hK K
      refine doneM (by kernel_rfl) ?_ _
      have hm2 := hm8.trans hm9
      have hfr : ∀ b, u3.ownBlock = some b → w.heap.size ≤ b := fun b hb => by have := HNE.out b hb; omega
      have hx9 : Ext w w9 := grown_then HX.out hm2.grown (.inr hfr)
      have hb9 : Blk w9 (w.heap.size + 1) 31 D := HB.out.keep hm2.grown (fun e => by have := HNE.out _ e.symm; omega)
      have hne9 : ∀ b, v9.ownBlock = some b → w.heap.size + 2 ≤ b := fun b hb => by
        rcases hm2.at_ with e | hn
        · exact HNE.out b (e.symm.trans hb)
        · have h1 := hn b hb
          have h2 := HX.out.size
          have h3 := HB.out.lt
          omega
      have ho2 : OwnB w9 v9 (L.take (32 * (k + 1))) := by rw [HST.out, ← List.append_assoc]; exact ho9
      have HX9 := Lib.hid hx9
      have HB9 := Lib.hid hb9
      have HN9 := Lib.hid hne9
      have HO9 := Lib.hid ho2
      clear hm2 hb9 hne9 ho2 ho9 hm9 hx9
      go_wp2
      go_roundw
      case rel => exact ⟨k + 1, by omega, by go_num, HO9.out, HX9.out, HB9.out, HN9.out, _, rfl⟩
      case measure => simp [intOf]; omega
    · obtain rfl : k = 32 := by omega
      have ho := hou
      rw [show L.take (32 * 32) = L from List.take_of_length_le (by rw [HL.out]; decide)] at ho
      obtain ⟨A, c, hv⟩ := OwnB.form ho
      subst hv
      have h1 := ho.holds
      have hlt1 := OwnB.lt ho
      have hv := parts_new (w := wr) (T := 55) (n := 1) rfl rfl (by simp [maxLen]) (AllH.one (R := (Ty.sl .u8).holds _ _) h1) hlt1
      have hF : ∀ b, ((Value.slice A L.length c).ownBlock = some b ∨ b = wr.heap.size) → b < (wr.alloc (.cells #[Value.slice A L.length c] 55)).heap.size := by
        rintro b (hb | rfl)
        · have := hlt1 b hb; simp; omega
        · simp
      have hrl : (bv (sha (textM 2 [L]))).length = 32 := by rw [bv_length, sha_length]
      have hro := bv_one (sha (textM 2 [L]))
      have hfor := For_i 2 2 rfl _ [L] _ _ hv hF (by simp [blob, be_length, HL.out])
      have e2 : leafOf L = sha (textM 2 [L]) := rfl
      rw [← e2] at hrl hro hfor
      obtain ⟨R, hR⟩ : ∃ R, R = bv (leafOf L) := ⟨_, rfl⟩
      rw [← hR] at hrl hro hfor
      have HR := Lib.hid hR
      clear hR
      have HFOR := Lib.hid hfor
      have HRL := Lib.hid hrl
      have HX := Lib.hid (hx.alloc (.cells #[Value.slice A L.length c] 55))
      have HB := Lib.hid (hb1.keep ((Ext.refl wr).alloc (.cells #[Value.slice A L.length c] 55)) (by simp))
      clear hx hb1 hou ho h1 hlt1 hv hF hrl hfor hne e2
      generalize L.length = n at *
      clear HL HPC
      go_wp2_with fail
      refine (HFOR.out).mono ?_
      rintro e w4 ⟨rfl, hx4⟩
      have hr4 : w4.heap[w.heap.size + 1]? = some (.cells D.toArray 31 (0, 0)) := HB.out.keep hx4 (by simp)
      have hx5 := HX.out.trans hx4
      go_wp2_with (first
        | (refine wpList_store_row _ rfl 31 (.tmp 2) (.tmp 20) rfl (w.heap.size + 1) rfl D R _ rfl hr4 (digest_size HRL.out) (by rw [HRL.out, HDL.out]) hro ?_)
        | fail)
      have hc9 := Blk.cells (t := 31) (setRow_at (cs' := R.toArray) hr4)
      (try simp only [Exit.inBlock, Exit.then])
      refine bodyPost_ret (results_agg rfl _ _ _ _ _ rfl Try.underlying31 rfl (digest_size HRL.out) hc9) rfl ?_
      exact ⟨by rw [HR.out], setRow_grown hx5 _ _ (by omega)⟩
end
end Go.Proofs.Ytfoomnibfibfnaa
