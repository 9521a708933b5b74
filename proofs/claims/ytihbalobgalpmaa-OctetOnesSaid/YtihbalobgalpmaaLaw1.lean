/- Walks of the helpers of layer 1's statements. -/
import Derived.Test.YtihbalobgalpmaaRef1
import Derived.Lib.SlBytesConst
set_option linter.unusedVariables false
set_option linter.unusedSimpArgs false
set_option linter.unnecessarySimpa false
namespace Go.Proofs.Ytihbalobgalpmaa
open Go.RowKit

/-- A thing: kind, number, sum, bytes, most. -/
abbrev Item : Ty := .st (.pair (.int .i64) (.pair (.nat .u64) (.pair (.arr 32 .u8) (.pair (.sl .u8) (.pair (.int .i64) .unit)))))


set_option maxHeartbeats 800000 in
theorem awake_true (w : World) : Calls Try.prog 8 #[] w fun e w' => e = .returned (.bool true) ∧ Ext w w' := by
  have kc := fun (w : World) (C : Array Value) (n c : Nat) => Lib.run_convert_bytes_const (P := Try.prog) w 26 5 C n c Try.underlying26 Try.underlying5
  go_enter Try.func8, Try.ntmps8
  go_wp2_with fail
  refine (Out_Four _ _ [] [258] _ (fun b => b = w.heap.size + 1) (Own.ext (own_empty rfl) ((Ext.refl _).alloc _)) (sl_made (by simp) rfl rfl (by simp [maxLen]) (one_nat (by decide))) (by rintro b rfl; simp [Value.ownBlock]) (by simp)).mono ?_
  rintro e w1 ⟨v1, rfl, ho1, hm1⟩
  have hf1 : Fresh w w1 v1 := (fresh_empty w _).trans (Moved.pre ((Ext.refl _).alloc _) hm1)
  have hin : (Ty.sl .u8).holds (w1.alloc (.cells #[.int .u8 97] 5 (1, 2))) (fun b => b = w1.heap.size) [.slice (some ⟨w1.heap.size, 0, none⟩) 1 1] [97] := sl_made rfl rfl rfl (by simp [maxLen]) (AllH.bytes.2 rfl)
  go_wp2_with fail
  refine (Out_Blob _ _ _ [[97]] _ (fun b => b = w1.heap.size ∨ b = w1.heap.size + 1) (ho1.ext (((Ext.refl _).alloc _).alloc _))
    (sl_made (by simp) (.inr rfl) rfl (by simp [maxLen]) (AllH.one (R := (Ty.sl .u8).holds _ _) (Ty.keep (fun b hb => Below.heap_alloc _ _ b (by subst hb; simp)) (fun _ h => .inl h) _ hin)))
    (by rintro b (rfl | rfl) <;> exact ⟨by simp <;> omega, fun e => by have := ho1.lt _ e; omega⟩) (by simp) (by simp [blob, be_length])).mono ?_
  rintro e w2 ⟨v2, rfl, ho2, hm2⟩
  obtain ⟨A2, c2, rfl⟩ := ho2.form
  go_wp2_with (refine wpList_str _ rfl _ _ (.tmp 7) rfl _ Try.underlying27 Try.underlying5 Try.underlying9 _ _ _ rfl ho2.src ?_)
  go_ret
  exact ⟨by rw [strOf_toList]; rfl, Fresh.ext (hf1.trans (Moved.pre (((Ext.refl _).alloc _).alloc _) hm2))⟩

theorem i64_of {n : Int} {cs : List Value} {w : World} {F : Fp} (h : (Ty.int .i64).holds w F cs n) : cs = [.int .i64 n] ∧ -9223372036854775808 ≤ n ∧ n ≤ 9223372036854775807 := ⟨h.1, bounds_i64 h.2⟩

theorem item_cells {w : World} {F : Fp} {cs : List Value} {d : Item.Data} (h : Item.holds w F cs d) :
    cs.length = 36 ∧ cs[0]? = some (.int .i64 d.1) ∧ cs[1]? = some (.int .u64 (d.2.1 : Int)) ∧ (cs.drop 2).take 32 = bv d.2.2.1 ∧ d.2.2.1.length = 32 ∧ @LT.lt Nat _ d.2.1 18446744073709551616 ∧
    ∃ A c, cs[34]? = some (.slice A d.2.2.2.1.length c) ∧ d.2.2.2.1.length ≤ 9223372036854775807 ∧ (Ty.sl .u8).holds w F [.slice A d.2.2.2.1.length c] d.2.2.2.1 := by
  obtain ⟨_, _, rfl, ⟨rfl, w0⟩, _, _, rfl, ⟨rfl, w1⟩, _, _, rfl, ⟨h32, hb⟩, _, _, rfl, ⟨A, c, xs, rfl, hl, hc, hA, h1, h2⟩, _, _, rfl, ⟨rfl, w2⟩, rfl⟩ := h
  have hb := AllH.bytes.1 hb
  subst hb
  obtain ⟨k, n, b, p, m, u⟩ := d
  simp only at h32 hl w1 w2 ⊢
  have hbv : (bv b).length = 32 := by simp [h32]
  have := bounds_u64 w1
  unfold maxLen at hc
  have hn : @LT.lt Nat _ n 18446744073709551616 := by omega
  refine ⟨by simp [h32], rfl, rfl, ?_, h32, hn, A, c, ?_, by omega, A, c, xs, rfl, hl, hc, hA, h1, h2⟩
  · show List.take 32 (bv b ++ _) = bv b
    rw [← hbv, List.take_left]
  · show (bv b ++ _)[32]? = _
    rw [← hbv, List.getElem?_append_right (Nat.le_refl _)]
    simp
def itemZero : List Value := .int .i64 0 :: .int .u64 0 :: (bv (List.replicate 32 0) ++ [.slice none 0 0, .int .i64 0])
theorem zeroItem : (Try.prog.info? 31).bind (fun i => i.zero.map (·.cells)) = some itemZero.toArray := by kernel_rfl
theorem sizeItem {n : Nat} (h : n = 36) : (Try.prog.info? 31).map (·.size) = some n := by subst h; kernel_rfl

def bigItem (x : Item.Data) : Bool := decide (x.2.2.2.1.length ≤ 4096)
def fitsB (l : List Item.Data) : Bool := l.all bigItem && decide (l.length ≤ 40)
theorem fitsB_not {l : List Item.Data} {k : Nat} (hk : k < l.length) (h : (4096 : Int) < (l[k].2.2.2.1.length : Int)) : fitsB l = false := by
  unfold fitsB
  rw [Bool.and_eq_false_iff]
  left
  rw [List.all_eq_false]
  exact ⟨l[k], List.getElem_mem hk, by unfold bigItem; simp; omega⟩
theorem all_step {α : Type} {p : α → Bool} {l : List α} {k : Nat} (hk : k < l.length) (h : (l.take k).all p = true) (h2 : p l[k] = true) : (l.take (k + 1)).all p = true := by
  rw [List.take_add_one, List.getElem?_eq_getElem hk, List.all_append, h]
  simp [h2]
theorem fitsB_all {l : List Item.Data} (h : (l.take l.length).all bigItem = true) : fitsB l = decide ((l.length : Int) ≤ 40) := by
  unfold fitsB
  rw [List.take_length] at h
  rw [h, Bool.true_and]
  congr 1
  apply propext
  omega
set_option maxHeartbeats 800000 in
theorem fits_any (vl : Value) (l : List Item.Data) (w : World) (F : Fp) (hl : (Ty.sl Item).holds w F [vl] l) (hF : ∀ b, F b → b < w.heap.size) :
    Calls Try.prog 7 #[vl] w fun e w' => e = .returned (.bool (fitsB l)) ∧ Ext w w' := by
  obtain ⟨A, c, xs, hv, hlc, hc, _, hcell, hall⟩ := hl
  cases hv
  unfold maxLen at hc
  go_enter Try.func7, Try.ntmps7
  go_wp2
  go_loopw [7] (fun i wr => ∃ k : Nat, k ≤ l.length ∧ i = .int .i64 k ∧ (l.take k).all bigItem = true ∧ Ext w wr) (fun i _ => l.length - (intOf i).toNat)
  case atStart => exact ⟨0, by omega, rfl, by simp, Ext.refl _⟩
  case round =>
    obtain ⟨k, hk, rfl, hfit, hxr⟩ := hrel
    have HF := Lib.hid hfit
    clear hfit
    by_cases hlt : k < l.length
    · obtain ⟨ad, rfl, hf, hcells⟩ := hcell (by rintro rfl; simp at hlt)
      have hx := AllH.elem (t := Item) hall hlt
      have hcx : Cells wr (ad.add (k * 36)) ((xs.drop (k * 36)).take 36) := ((hcells.keep (hxr.same hF _ hf)).drop _).take _
      have hx : Item.holds w F ((xs.drop (k * 36)).take 36) l[k] := hx
      generalize hcs : (xs.drop (k * 36)).take 36 = cs at hx hcx
      clear hcs
      obtain ⟨hlen, _, _, _, _, _, A1, c1, h34, hmx, _⟩ := item_cells hx
      have hone := Ty.one _ hx
      have H36 := Lib.hid hlen
      clear hlen
      go_wp2_with (first
        | (refine wpList_load_agg _ rfl 31 (.tmp 9) rfl _ rfl cs _ Try.underlying31 rfl (sizeItem H36.out) hcx ?_)
        | (refine wpList_alloc _ rfl 31 rfl _ zeroItem ?_)
        | (refine wpList_store_new _ rfl 31 (.tmp 4) (.tmp 10) rfl rfl _ cs _ rfl (sizeItem H36.out) (by rw [H36.out]; rfl) hone ?_))
      · have hb : (4096 : Int) < (l[k].2.2.2.1.length : Int) := by assumption
        go_ret
        exact ⟨by rw [fitsB_not hlt hb]; rfl, hxr.alloc _⟩
      · have hb : (l[k].2.2.2.1.length : Int) ≤ 4096 := by assumption
        go_roundw
        case rel => exact ⟨k + 1, by omega, by go_num, all_step hlt HF.out (by unfold bigItem; simp; omega), hxr.alloc _⟩
        case measure => simp [intOf]; omega
    · obtain rfl : k = l.length := by omega
      go_wp2
      go_ret
      exact ⟨by rw [fitsB_all HF.out]; rfl, hxr⟩

/-- The bytes of a thing. -/
def layB (d : Item.Data) : List UInt8 :=
  if d.1 = 0 then [UInt8.ofNat d.2.1] else if d.1 = 1 then be 4 d.2.1 else if d.1 = 2 then be 8 d.2.1 else if d.1 = 3 then d.2.2.1 else if d.1 = 4 then blob d.2.2.2.1 else []
theorem Own.lt' {w : World} {v : Value} {bs : List UInt8} (h : OwnB w v bs) {g : Nat} (hg : w.heap.size ≤ g) : v.ownBlock ≠ some g := fun e => by have := h.lt _ e; omega

set_option linter.unusedVariables false
section
variable (v : Value) (bs : List UInt8) (cs : List Value) (d : Item.Data) (w : World) (F : Fp)
set_option maxHeartbeats 400000 in
theorem lay_0 (ho : OwnB w v bs) (hx : Item.holds w F cs d) (hF : Far F w v) (hb : bs.length + 4200 ≤ 140737488355328) (hp : d.2.2.2.1.length ≤ 4096) (hk : d.1 = 0) :
    Calls Try.prog 9 #[v, .agg cs.toArray] w fun e w' => ∃ v', e = .returned v' ∧ OwnB w' v' (bs ++ layB d) ∧ Moved w w' v v' := by
  obtain ⟨hlen, h0, h1, h2, h32, hn, A1, c1, h34, hmx, hpp⟩ := item_cells hx
  rw [hk] at h0
  have hlb : layB d = [UInt8.ofNat d.2.1] := by simp [layB, hk]
  have HB := Lib.hid hlb
  have hm : ((d.2.1 : Nat) : Int) % 256 = ((UInt8.ofNat d.2.1).toNat : Int) := by rw [UInt8.toNat_ofNat']; omega
  have HM := Lib.hid hm
  clear hlen hk hlb hm h2 h32
  go_enter Try.func9, Try.ntmps9
  go_wp2_with fail
  rw [HM.out]
  refine (Out_One v _ bs [UInt8.ofNat d.2.1] _ (fun b => b = w.heap.size + 1) (ho.ext (((Ext.refl _).alloc _).alloc _)) (sl_made (by simp) rfl rfl (by simp [maxLen]) (AllH.bytes.2 rfl)) (by simp; omega)).mono ?_
  rintro e w1 ⟨v1, rfl, ho1, hm1⟩
  have hm2 : Moved w w1 v v1 := Moved.pre (((Ext.refl _).alloc _).alloc _) hm1
  go_wp2
  go_ret
  exact ⟨_, rfl, by rw [HB.out]; simpa using ho1, hm2⟩

set_option maxHeartbeats 400000 in
theorem lay_1 (ho : OwnB w v bs) (hx : Item.holds w F cs d) (hF : Far F w v) (hb : bs.length + 4200 ≤ 140737488355328) (hp : d.2.2.2.1.length ≤ 4096) (hk : d.1 = 1) :
    Calls Try.prog 9 #[v, .agg cs.toArray] w fun e w' => ∃ v', e = .returned v' ∧ OwnB w' v' (bs ++ layB d) ∧ Moved w w' v v' := by
  obtain ⟨hlen, h0, h1, h2, h32, hn, A1, c1, h34, hmx, hpp⟩ := item_cells hx
  rw [hk] at h0
  have hlb : layB d = [d.2.1 % 4294967296].flatMap (be 4) := by simp [layB, hk, be_mod4]
  have HB := Lib.hid hlb
  have hm : ((d.2.1 : Nat) : Int) % 4294967296 = ((d.2.1 % 4294967296 : Nat) : Int) := by omega
  have HM := Lib.hid hm
  clear hlen hk hlb hm h2 h32
  go_enter Try.func9, Try.ntmps9
  go_wp2_with fail
  rw [HM.out]
  refine (Out_Four v _ bs [d.2.1 % 4294967296] _ (fun b => b = w.heap.size + 1) (ho.ext (((Ext.refl _).alloc _).alloc _)) (sl_made (by simp) rfl rfl (by simp [maxLen]) (one_nat (WalkArith.wf_u32 (by omega)))) (by rintro b rfl; exact ⟨by simp, Own.lt' ho (by omega)⟩) (by simp; omega)).mono ?_
  rintro e w1 ⟨v1, rfl, ho1, hm1⟩
  have hm2 : Moved w w1 v v1 := Moved.pre (((Ext.refl _).alloc _).alloc _) hm1
  go_wp2
  go_ret
  exact ⟨_, rfl, by rw [HB.out]; simpa using ho1, hm2⟩

set_option maxHeartbeats 400000 in
theorem lay_2 (ho : OwnB w v bs) (hx : Item.holds w F cs d) (hF : Far F w v) (hb : bs.length + 4200 ≤ 140737488355328) (hp : d.2.2.2.1.length ≤ 4096) (hk : d.1 = 2) :
    Calls Try.prog 9 #[v, .agg cs.toArray] w fun e w' => ∃ v', e = .returned v' ∧ OwnB w' v' (bs ++ layB d) ∧ Moved w w' v v' := by
  obtain ⟨hlen, h0, h1, h2, h32, hn, A1, c1, h34, hmx, hpp⟩ := item_cells hx
  rw [hk] at h0
  have hlb : layB d = [d.2.1].flatMap (be 8) := by simp [layB, hk]
  have HB := Lib.hid hlb
  clear hlen hk hlb h2 h32
  go_enter Try.func9, Try.ntmps9
  go_wp2_with fail
  refine (Out_Eight v _ bs [d.2.1] _ (fun b => b = w.heap.size + 1) (ho.ext (((Ext.refl _).alloc _).alloc _)) (sl_made (by simp) rfl rfl (by simp [maxLen]) (one_nat (WalkArith.wf_u64 (by omega)))) (by rintro b rfl; exact ⟨by simp, Own.lt' ho (by omega)⟩) (by simp; omega)).mono ?_
  rintro e w1 ⟨v1, rfl, ho1, hm1⟩
  have hm2 : Moved w w1 v v1 := Moved.pre (((Ext.refl _).alloc _).alloc _) hm1
  go_wp2
  go_ret
  exact ⟨_, rfl, by rw [HB.out]; simpa using ho1, hm2⟩

set_option maxHeartbeats 400000 in
theorem lay_3 (ho : OwnB w v bs) (hx : Item.holds w F cs d) (hF : Far F w v) (hb : bs.length + 4200 ≤ 140737488355328) (hp : d.2.2.2.1.length ≤ 4096) (hk : d.1 = 3) :
    Calls Try.prog 9 #[v, .agg cs.toArray] w fun e w' => ∃ v', e = .returned v' ∧ OwnB w' v' (bs ++ layB d) ∧ Moved w w' v v' := by
  obtain ⟨hlen, h0, h1, h2, h32, hn, A1, c1, h34, hmx, hpp⟩ := item_cells hx
  rw [hk] at h0
  have hlb : layB d = [d.2.2.1].flatMap id := by simp [layB, hk]
  have HB := Lib.hid hlb
  have hc : Cells (w.alloc (.cells cs.toArray 31)) ⟨w.heap.size, 2, none⟩ (bv d.2.2.1) := by
    rw [← h2]
    have := ((Cells.of_block (heap_alloc_new w (.cells cs.toArray 31))).drop 2).take 32
    simpa [Addr.add] using this
  have H32 := Lib.hid h32
  clear hlen hk hlb h2 h32
  go_enter Try.func9, Try.ntmps9
  go_wp2_with (first
    | (refine wpList_load_agg _ rfl 29 (.tmp 33) rfl _ rfl (bv d.2.2.1) _ Try.underlying29 rfl (by rw [bv_length, H32.out]; kernel_rfl) hc ?_)
    | (refine wpList_one _ rfl _ (.tmp 34) rfl _ (bv d.2.2.1) Try.underlying38 rfl (by rw [bv_length, H32.out]; kernel_rfl) (by kernel_rfl) (by rw [bv_length, H32.out]; omega) (by rw [bv_length, H32.out]; omega) ?_))
  refine (Out_Sum v _ bs [d.2.2.1] _ (fun b => b = w.heap.size + 1) (ho.ext (((Ext.refl _).alloc _).alloc _)) (sl_made (by simp) rfl rfl (by simp [maxLen]) (AllH.one (R := (Ty.arr 32 .u8).holds _ _) ⟨H32.out, AllH.bytes.2 rfl⟩)) (by rintro b rfl; exact ⟨by simp, Own.lt' ho (by omega)⟩) (by simp; omega)).mono ?_
  rintro e w1 ⟨v1, rfl, ho1, hm1⟩
  have hm2 : Moved w w1 v v1 := Moved.pre (((Ext.refl _).alloc _).alloc _) hm1
  go_wp2
  go_ret
  exact ⟨_, rfl, by rw [HB.out]; simpa using ho1, hm2⟩

set_option maxHeartbeats 400000 in
theorem lay_4 (ho : OwnB w v bs) (hx : Item.holds w F cs d) (hF : Far F w v) (hb : bs.length + 4200 ≤ 140737488355328) (hp : d.2.2.2.1.length ≤ 4096) (hk : d.1 = 4) :
    Calls Try.prog 9 #[v, .agg cs.toArray] w fun e w' => ∃ v', e = .returned v' ∧ OwnB w' v' (bs ++ layB d) ∧ Moved w w' v v' := by
  obtain ⟨hlen, h0, h1, h2, h32, hn, A1, c1, h34, hmx, hpp⟩ := item_cells hx
  rw [hk] at h0
  have hlb : layB d = [d.2.2.2.1].flatMap blob := by simp [layB, hk]
  have HB := Lib.hid hlb
  clear hlen hk hlb h2 h32
  go_enter Try.func9, Try.ntmps9
  go_wp2_with fail
  refine (Out_Blob v _ bs [d.2.2.2.1] _ (fun b => F b ∨ b = w.heap.size + 1) (ho.ext (((Ext.refl _).alloc _).alloc _)) (sl_made (by simp) (.inr rfl) rfl (by simp [maxLen]) (AllH.one (R := (Ty.sl .u8).holds _ _) (Ty.keep (fun b hb => (((Ext.refl w).alloc _).alloc _).block b (hF b hb).1 (by simp)) (fun _ h => .inl h) _ hpp)))
    (by
      rintro b (hb | rfl)
      · exact ⟨by have := (hF b hb).1; simp; omega, (hF b hb).2⟩
      · exact ⟨by simp, Own.lt' ho (by omega)⟩) (by simp; omega) (by simp [blob, be_length]; omega)).mono ?_
  rintro e w1 ⟨v1, rfl, ho1, hm1⟩
  have hm2 : Moved w w1 v v1 := Moved.pre (((Ext.refl _).alloc _).alloc _) hm1
  go_wp2
  go_ret
  exact ⟨_, rfl, by rw [HB.out]; simpa using ho1, hm2⟩

set_option maxHeartbeats 400000 in
theorem lay_x (ho : OwnB w v bs) (hx : Item.holds w F cs d) (hF : Far F w v) (hb : bs.length + 4200 ≤ 140737488355328) (hp : d.2.2.2.1.length ≤ 4096) (hk : d.1 ≠ 0 ∧ d.1 ≠ 1 ∧ d.1 ≠ 2 ∧ d.1 ≠ 3 ∧ d.1 ≠ 4) :
    Calls Try.prog 9 #[v, .agg cs.toArray] w fun e w' => ∃ v', e = .returned v' ∧ OwnB w' v' (bs ++ layB d) ∧ Moved w w' v v' := by
  obtain ⟨hlen, h0, h1, h2, h32, hn, A1, c1, h34, hmx, hpp⟩ := item_cells hx
  obtain ⟨k0, k1, k2, k3, k4⟩ := hk
  have hlb : layB d = [] := by simp [layB, k0, k1, k2, k3, k4]
  have HB := Lib.hid hlb
  have e0 : (d.1 == (0 : Int)) = false := by simp [k0]
  have e1 : (d.1 == (1 : Int)) = false := by simp [k1]
  have e2 : (d.1 == (2 : Int)) = false := by simp [k2]
  have e3 : (d.1 == (3 : Int)) = false := by simp [k3]
  have e4 : (d.1 == (4 : Int)) = false := by simp [k4]
  clear hlen hlb h2 h32 k0 k1 k2 k3 k4
  go_enter Try.func9, Try.ntmps9
  go_wp2
  go_ret
  exact ⟨_, rfl, by rw [HB.out, List.append_nil]; exact ho.ext ((Ext.refl _).alloc _), Moved.post (Moved.refl _ _) ((Ext.refl _).alloc _)⟩

theorem lay_any (ho : OwnB w v bs) (hx : Item.holds w F cs d) (hF : Far F w v) (hb : bs.length + 4200 ≤ 140737488355328) (hp : d.2.2.2.1.length ≤ 4096) :
    Calls Try.prog 9 #[v, .agg cs.toArray] w fun e w' => ∃ v', e = .returned v' ∧ OwnB w' v' (bs ++ layB d) ∧ Moved w w' v v' := by
  by_cases k0 : d.1 = 0
  · exact lay_0 v bs cs d w F ho hx hF hb hp k0
  by_cases k1 : d.1 = 1
  · exact lay_1 v bs cs d w F ho hx hF hb hp k1
  by_cases k2 : d.1 = 2
  · exact lay_2 v bs cs d w F ho hx hF hb hp k2
  by_cases k3 : d.1 = 3
  · exact lay_3 v bs cs d w F ho hx hF hb hp k3
  by_cases k4 : d.1 = 4
  · exact lay_4 v bs cs d w F ho hx hF hb hp k4
  exact lay_x v bs cs d w F ho hx hF hb hp ⟨k0, k1, k2, k3, k4⟩
set_option maxHeartbeats 400000 in
theorem laid_0 (ho : OwnB w v bs) (hx : Item.holds w F cs d) (hF : Far F w v) (hb : bs.length + 4200 ≤ 140737488355328) (hp : d.2.2.2.1.length ≤ 4096) (hk : d.1 = 0) :
    Calls Try.prog 10 #[v, .agg cs.toArray] w fun e w' => ∃ v', e = .returned v' ∧ OwnB w' v' (bs ++ layB d) ∧ Moved w w' v v' := by
  obtain ⟨hlen, h0, h1, h2, h32, hn, A1, c1, h34, hmx, hpp⟩ := item_cells hx
  rw [hk] at h0
  have hlb : layB d = be 1 d.2.1 := by simp [layB, hk, be]
  have HB := Lib.hid hlb
  clear hlen hk hlb h2 h32
  go_enter Try.func10, Try.ntmps10
  go_wp2_with fail
  refine (Ref_Num v bs d.2.1 1 _ (fun b => v.ownBlock = some b) (ho.ext ((Ext.refl _).alloc _)).holds (fun b hb => by have := ho.lt b hb; simp; omega) hn (by omega) (by omega)).mono ?_
  rintro e w1 ⟨v1, rfl, ho1, hm1⟩
  have hm2 : Moved w w1 v v1 := Moved.pre ((Ext.refl _).alloc _) (Fresh.moved hm1 v)
  go_wp2
  go_ret
  exact ⟨_, rfl, by rw [HB.out]; simpa using ho1, hm2⟩

set_option maxHeartbeats 400000 in
theorem laid_1 (ho : OwnB w v bs) (hx : Item.holds w F cs d) (hF : Far F w v) (hb : bs.length + 4200 ≤ 140737488355328) (hp : d.2.2.2.1.length ≤ 4096) (hk : d.1 = 1) :
    Calls Try.prog 10 #[v, .agg cs.toArray] w fun e w' => ∃ v', e = .returned v' ∧ OwnB w' v' (bs ++ layB d) ∧ Moved w w' v v' := by
  obtain ⟨hlen, h0, h1, h2, h32, hn, A1, c1, h34, hmx, hpp⟩ := item_cells hx
  rw [hk] at h0
  have hlb : layB d = be 4 d.2.1 := by simp [layB, hk]
  have HB := Lib.hid hlb
  clear hlen hk hlb h2 h32
  go_enter Try.func10, Try.ntmps10
  go_wp2_with fail
  refine (Ref_Num v bs d.2.1 4 _ (fun b => v.ownBlock = some b) (ho.ext ((Ext.refl _).alloc _)).holds (fun b hb => by have := ho.lt b hb; simp; omega) hn (by omega) (by omega)).mono ?_
  rintro e w1 ⟨v1, rfl, ho1, hm1⟩
  have hm2 : Moved w w1 v v1 := Moved.pre ((Ext.refl _).alloc _) (Fresh.moved hm1 v)
  go_wp2
  go_ret
  exact ⟨_, rfl, by rw [HB.out]; simpa using ho1, hm2⟩

set_option maxHeartbeats 400000 in
theorem laid_2 (ho : OwnB w v bs) (hx : Item.holds w F cs d) (hF : Far F w v) (hb : bs.length + 4200 ≤ 140737488355328) (hp : d.2.2.2.1.length ≤ 4096) (hk : d.1 = 2) :
    Calls Try.prog 10 #[v, .agg cs.toArray] w fun e w' => ∃ v', e = .returned v' ∧ OwnB w' v' (bs ++ layB d) ∧ Moved w w' v v' := by
  obtain ⟨hlen, h0, h1, h2, h32, hn, A1, c1, h34, hmx, hpp⟩ := item_cells hx
  rw [hk] at h0
  have hlb : layB d = be 8 d.2.1 := by simp [layB, hk]
  have HB := Lib.hid hlb
  clear hlen hk hlb h2 h32
  go_enter Try.func10, Try.ntmps10
  go_wp2_with fail
  refine (Ref_Num v bs d.2.1 8 _ (fun b => v.ownBlock = some b) (ho.ext ((Ext.refl _).alloc _)).holds (fun b hb => by have := ho.lt b hb; simp; omega) hn (by omega) (by omega)).mono ?_
  rintro e w1 ⟨v1, rfl, ho1, hm1⟩
  have hm2 : Moved w w1 v v1 := Moved.pre ((Ext.refl _).alloc _) (Fresh.moved hm1 v)
  go_wp2
  go_ret
  exact ⟨_, rfl, by rw [HB.out]; simpa using ho1, hm2⟩

set_option maxHeartbeats 400000 in
theorem laid_3 (ho : OwnB w v bs) (hx : Item.holds w F cs d) (hF : Far F w v) (hb : bs.length + 4200 ≤ 140737488355328) (hp : d.2.2.2.1.length ≤ 4096) (hk : d.1 = 3) :
    Calls Try.prog 10 #[v, .agg cs.toArray] w fun e w' => ∃ v', e = .returned v' ∧ OwnB w' v' (bs ++ layB d) ∧ Moved w w' v v' := by
  obtain ⟨hlen, h0, h1, h2, h32, hn, A1, c1, h34, hmx, hpp⟩ := item_cells hx
  rw [hk] at h0
  obtain ⟨i0, hi, hz0, hz1, hz2⟩ := info_parts u8_info
  have hlb : layB d = d.2.2.1 := by simp [layB, hk]
  have HB := Lib.hid hlb
  have hc : Cells (w.alloc (.cells cs.toArray 31)) ⟨w.heap.size, 2, none⟩ (bv d.2.2.1) := by
    rw [← h2]
    have := ((Cells.of_block (heap_alloc_new w (.cells cs.toArray 31))).drop 2).take 32
    simpa [Addr.add] using this
  have H32 := Lib.hid h32
  clear hlen hk hlb h2 h32
  go_enter Try.func10, Try.ntmps10
  go_wp2_with (at_builtin; refine wpList_app _ rfl (.tmp 27) (.tmp 29) _ _ rfl _ _ i0 _ 1 1 Try.underlying26 Try.underlying26 hi hz0 hz1 hz2 rfl (by decide) _ _ _ rfl (ho.ext ((Ext.refl _).alloc _)) _ _ _ (bv d.2.2.1) rfl (by simp [H32.out]) (fun _ => ⟨_, rfl, hc⟩) (bv_one _) (by unfold maxLen; omega) (by omega) ?_; intro v2 w2 ho2 hm2)
  have hm3 := Moved.pre ((Ext.refl w).alloc _) hm2
  go_ret
  exact ⟨_, rfl, by rw [HB.out]; exact OwnB.app (by rw [H32.out]; exact ho2), hm3⟩

set_option maxHeartbeats 400000 in
theorem laid_4 (ho : OwnB w v bs) (hx : Item.holds w F cs d) (hF : Far F w v) (hb : bs.length + 4200 ≤ 140737488355328) (hp : d.2.2.2.1.length ≤ 4096) (hk : d.1 = 4) :
    Calls Try.prog 10 #[v, .agg cs.toArray] w fun e w' => ∃ v', e = .returned v' ∧ OwnB w' v' (bs ++ layB d) ∧ Moved w w' v v' := by
  obtain ⟨hlen, h0, h1, h2, h32, hn, A1, c1, h34, hmx, hpp⟩ := item_cells hx
  rw [hk] at h0
  have hlb : layB d = blob d.2.2.2.1 := by simp [layB, hk]
  have HB := Lib.hid hlb
  clear hlen hk hlb h2 h32
  go_enter Try.func10, Try.ntmps10
  go_wp2_with fail
  refine (Ref_Blob v _ bs d.2.2.2.1 _ (fun b => F b ∨ v.ownBlock = some b) (Ty.keep (fun _ _ => rfl) (fun _ h => .inr h) _ (ho.ext ((Ext.refl _).alloc _)).holds) (Ty.keep (fun b hb => ((Ext.refl w).alloc _).block b (hF b hb).1 (by simp)) (fun _ h => .inl h) _ hpp)
    (by
      rintro b (hb | hb)
      · have := (hF b hb).1; simp; omega
      · have := ho.lt b hb; simp; omega) (by omega)).mono ?_
  rintro e w1 ⟨v1, rfl, ho1, hm1⟩
  have hm2 : Moved w w1 v v1 := Moved.pre ((Ext.refl _).alloc _) (Fresh.moved hm1 v)
  go_wp2
  go_ret
  exact ⟨_, rfl, by rw [HB.out]; simpa using ho1, hm2⟩

set_option maxHeartbeats 400000 in
theorem laid_x (ho : OwnB w v bs) (hx : Item.holds w F cs d) (hF : Far F w v) (hb : bs.length + 4200 ≤ 140737488355328) (hp : d.2.2.2.1.length ≤ 4096) (hk : d.1 ≠ 0 ∧ d.1 ≠ 1 ∧ d.1 ≠ 2 ∧ d.1 ≠ 3 ∧ d.1 ≠ 4) :
    Calls Try.prog 10 #[v, .agg cs.toArray] w fun e w' => ∃ v', e = .returned v' ∧ OwnB w' v' (bs ++ layB d) ∧ Moved w w' v v' := by
  obtain ⟨hlen, h0, h1, h2, h32, hn, A1, c1, h34, hmx, hpp⟩ := item_cells hx
  obtain ⟨k0, k1, k2, k3, k4⟩ := hk
  have hlb : layB d = [] := by simp [layB, k0, k1, k2, k3, k4]
  have HB := Lib.hid hlb
  have e0 : (d.1 == (0 : Int)) = false := by simp [k0]
  have e1 : (d.1 == (1 : Int)) = false := by simp [k1]
  have e2 : (d.1 == (2 : Int)) = false := by simp [k2]
  have e3 : (d.1 == (3 : Int)) = false := by simp [k3]
  have e4 : (d.1 == (4 : Int)) = false := by simp [k4]
  clear hlen hlb h2 h32 k0 k1 k2 k3 k4
  go_enter Try.func10, Try.ntmps10
  go_wp2
  go_ret
  exact ⟨_, rfl, by rw [HB.out, List.append_nil]; exact ho.ext ((Ext.refl _).alloc _), Moved.post (Moved.refl _ _) ((Ext.refl _).alloc _)⟩

theorem laid_any (ho : OwnB w v bs) (hx : Item.holds w F cs d) (hF : Far F w v) (hb : bs.length + 4200 ≤ 140737488355328) (hp : d.2.2.2.1.length ≤ 4096) :
    Calls Try.prog 10 #[v, .agg cs.toArray] w fun e w' => ∃ v', e = .returned v' ∧ OwnB w' v' (bs ++ layB d) ∧ Moved w w' v v' := by
  by_cases k0 : d.1 = 0
  · exact laid_0 v bs cs d w F ho hx hF hb hp k0
  by_cases k1 : d.1 = 1
  · exact laid_1 v bs cs d w F ho hx hF hb hp k1
  by_cases k2 : d.1 = 2
  · exact laid_2 v bs cs d w F ho hx hF hb hp k2
  by_cases k3 : d.1 = 3
  · exact laid_3 v bs cs d w F ho hx hF hb hp k3
  by_cases k4 : d.1 = 4
  · exact laid_4 v bs cs d w F ho hx hF hb hp k4
  exact laid_x v bs cs d w F ho hx hF hb hp ⟨k0, k1, k2, k3, k4⟩
end
end Go.Proofs.Ytihbalobgalpmaa
