/- OctetBack: for every input the law returns true. -/
import Derived.Test.YtihbalobgalpmaaLays
import Derived.Test.YtihbalobgalpmaaIn
import Derived.Test.YtihbalobgalpmaaReg
import Derived.RegionTactic
import Derived.Deep.RegionHeldLaw
import Derived.Deep.MidRow
set_option linter.unusedVariables false
set_option linter.unusedSimpArgs false
set_option linter.unnecessarySimpa false
namespace Go.Proofs.Ytihbalobgalpmaa
open Go.RowKit

/-! ### What was laid is taken -/
theorem beNum_cons_aux (l : List UInt8) : ∀ a : Nat, l.foldl (fun n b => n * 256 + b.toNat) a = a * 256 ^ l.length + l.foldl (fun n b => n * 256 + b.toNat) 0 := by
  induction l with
  | nil => intro a; simp
  | cons x l ih =>
    intro a
    rw [List.foldl_cons, List.foldl_cons, ih, ih (0 * 256 + x.toNat), List.length_cons, Nat.pow_succ, Nat.zero_mul, Nat.zero_add, Nat.add_mul, Nat.mul_assoc, Nat.mul_comm 256, Nat.add_assoc]
theorem beNum_cons (x : UInt8) (l : List UInt8) : beNum (x :: l) = x.toNat * 256 ^ l.length + beNum l := by
  unfold beNum
  rw [List.foldl_cons, beNum_cons_aux, Nat.zero_mul, Nat.zero_add]
theorem beNum_be (k n : Nat) : beNum (be k n) = n % 256 ^ k := by
  induction k with
  | zero => simp [be, beNum, Nat.mod_one]
  | succ k ih =>
    rw [be, beNum_cons, be_length, ih, UInt8.toNat_ofNat', show (2 : Nat) ^ 8 = 256 from rfl]
    have h : n % 256 ^ (k + 1) = n % 256 ^ k + 256 ^ k * (n / 256 ^ k % 256) := Nat.mod_pow_succ
    rw [h, Nat.mul_comm, Nat.add_comm]
theorem cutM_app (a r : List UInt8) (n : Nat) (h : a.length = n) : cutM n (a ++ r, 0) = (a, (r, 0)) := by
  subst h
  unfold cutM
  rw [if_neg (by simp), if_neg (by simp)]
  simp
theorem numM_app (k n : Nat) (r : List UInt8) : numM k (be k n ++ r, 0) = (n % 256 ^ k, (r, 0)) := by
  unfold numM
  rw [cutM_app _ _ _ (be_length k n), beNum_be]
theorem sumM_app (D r : List UInt8) (h : D.length = 32) : sumM (D ++ r, 0) = (D, (r, 0)) := by
  unfold sumM
  rw [cutM_app _ _ _ h]
  simp [h]
theorem blobM_app (p r : List UInt8) (h : p.length ≤ 4096) : blobM 4096 (blob p ++ r, 0) = (p, (r, 0)) := by
  unfold blobM blob
  rw [List.append_assoc, numM_app, Nat.mod_eq_of_lt (by omega)]
  rw [if_neg (by simp; omega)]
  exact cutM_app _ _ _ rfl
theorem lay_num (d : Item.Data) (r : List UInt8) (h : d.1 = 0) : numM 1 (layB d ++ r, 0) = (d.2.1 % 256, (r, 0)) := by
  have : layB d = be 1 d.2.1 := by simp [layB, h, be]
  rw [this, numM_app]

theorem eq_self (t : TypeId) (hg : Try.prog.eqGuardType Try.prog.depth t = false) (ht : Try.prog.underlying t = some (.array 32 5)) (D : List UInt8) (hD : D.length = 32) :
    (∀ (x y : Operand) (w : World), (eqGuard .eql t x y (.agg (bv D).toArray) (.agg (bv D).toArray)).run Try.prog w = .ok () w) ∧ ∀ w, (binOp .eql t (.agg (bv D).toArray) (.agg (bv D).toArray)).run Try.prog w = .ok (.bool true) w :=
  ⟨fun x y w => run_eqGuard w .eql t x y _ _ (.inl rfl) hg, fun w => by have := run_eqD w t 5 32 ht Try.underlying5 (by kernel_rfl) D D hD hD; simpa using this⟩
set_option maxHeartbeats 4000000 in
theorem back_walk (vl : Value) (l : List Item.Data) (w : World) (F : Fp) (hl : (Ty.sl Item).holds w F [vl] l) (hF : ∀ b, F b → b < w.heap.size) :
    Calls Try.prog 6 #[vl] w fun e w' => e = .returned (.bool true) ∧ Ext w w' := by
  have hl0 := hl
  obtain ⟨A, c, xs, hv, hlc, hc, _, hcell, hall⟩ := hl
  cases hv
  unfold maxLen at hc
  by_cases hfit : fitsB l = true
  · have hfl := fits_len hfit
    go_enter Try.func6, Try.ntmps6
    go_wp2_with fail
    refine (fits_any _ l w F hl0 hF).mono ?_
    rintro e w1 ⟨rfl, hx1⟩
    rw [hfit]
    have HFL := Lib.hid hfl
    clear hfit hfl
    go_wp2
    go_loopw [3, 16] (fun vo i wr => ∃ k : Nat, k ≤ l.length ∧ i = .int .i64 k ∧ OwnB wr vo ((l.take k).flatMap layB) ∧ Fresh w wr vo ∧ ((l.take k).flatMap layB).length ≤ k * 4100) (fun _ i _ => l.length - (intOf i).toNat)
    case atStart => exact ⟨0, by omega, rfl, Own.nil _ _ _, Moved.post (Moved.refl _ _) hx1, by simp⟩
    case round =>
      obtain ⟨k, hk, rfl, ho, hfo, hlen⟩ := hrel
      by_cases hlt : k < l.length
      · obtain ⟨ad, rfl, hf, hcells⟩ := hcell (by rintro rfl; simp at hlt)
        have hx := AllH.elem (t := Item) hall hlt
        have hcx : Cells wr (ad.add (k * 36)) ((xs.drop (k * 36)).take 36) := ((hcells.keep (hfo.ext.same hF _ hf)).drop _).take _
        have hx : Item.holds w F ((xs.drop (k * 36)).take 36) l[k] := hx
        generalize hcs : (xs.drop (k * 36)).take 36 = cs at hx hcx
        clear hcs
        obtain ⟨hlen36, _, _, _, h32, _⟩ := item_cells hx
        have hone := Ty.one _ hx
        have hp := HFL.out.2 l[k] (List.getElem_mem hlt)
        have hlb := layB_len hp h32
        have hl40 := HFL.out.1
        have H36 := Lib.hid hlen36
        clear hlen36 h32
        have hFo := hfo.farF hF
        have hxr := hfo.ext.holds hF hx
        have hblk : Cells (wr.alloc (.cells cs.toArray 31)) ⟨wr.heap.size, 0, none⟩ cs := by have := Cells.of_block (heap_alloc_new wr (.cells cs.toArray 31)); simpa using this
        go_wp2_with (first
          | (refine wpList_load_agg _ rfl 31 (.tmp 18) rfl _ rfl cs _ Try.underlying31 rfl (sizeItem H36.out) hcx ?_)
          | (refine wpList_alloc _ rfl 31 rfl _ zeroItem ?_)
          | (refine wpList_store_new _ rfl 31 (.tmp 5) (.tmp 19) rfl rfl _ cs _ rfl (sizeItem H36.out) (by rw [H36.out]; rfl) hone ?_)
          | (refine wpList_load_agg _ rfl 31 (.tmp 5) rfl _ rfl cs _ Try.underlying31 rfl (sizeItem H36.out) hblk ?_)
          | fail)
        refine (lay_any _ _ cs l[k] _ F (ho.ext ((Ext.refl _).alloc _)) (((Ext.refl _).alloc _).holds (fun b hb => (hFo b hb).1) hxr) (fun b hb => ⟨by have := (hFo b hb).1; simp; omega, (hFo b hb).2⟩) (by omega) hp).mono ?_
        rintro e w2 ⟨v2, rfl, ho2, hm2⟩
        have hmo := hfo.trans (Moved.pre ((Ext.refl _).alloc _) hm2)
        go_wp2
        go_roundw
        case rel => exact ⟨k + 1, by omega, by go_num, by rw [flat_step _ _ _ hlt]; exact ho2, hmo, by rw [flat_step _ _ _ hlt, List.length_append]; omega⟩
        case measure => simp [intOf]; omega
      · obtain rfl : k = l.length := by omega
        rw [List.take_length] at ho hlen
        have hl40 := HFL.out.1
        go_wp2_with fail
        refine (In_Of _ _ _ _ ho.holds (by omega)).mono ?_
        rintro e w2 ⟨g, q, rfl, hin, hx2, hg, hq⟩
        have hxw2 : Ext w w2 := hfo.ext.trans hx2
        have hgw : w.heap.size ≤ g := Nat.le_trans hfo.ext.size hg
        clear hlen ho hfo hx2 hg hq
        go_wp2
        obtain ⟨wo, rfl⟩ : ∃ wo : World, wo = wr := ⟨_, rfl⟩
        go_loopw [28] (fun i wr => ∃ k : Nat, k ≤ l.length ∧ i = .int .i64 k ∧ InAt wr g q ((l.drop k).flatMap layB, 0) ∧ Ext w wr) (fun i _ => l.length - (intOf i).toNat)
        case atStart => exact ⟨0, by omega, rfl, by simpa using hin, hxw2⟩
        case round =>
          clear hin hxw2
          obtain ⟨k, hk, rfl, hin, hxw⟩ := hrel
          by_cases hlt : k < l.length
          · obtain ⟨ad, rfl, hf, hcells⟩ := hcell (by rintro rfl; simp at hlt)
            have hx := AllH.elem (t := Item) hall hlt
            have hcx : Cells wr (ad.add (k * 36)) ((xs.drop (k * 36)).take 36) := ((hcells.keep (hxw.same hF _ hf)).drop _).take _
            have hx : Item.holds w F ((xs.drop (k * 36)).take 36) l[k] := hx
            generalize hcs : (xs.drop (k * 36)).take 36 = cs at hx hcx
            clear hcs
            have hsplit : (l.drop k).flatMap layB = layB l[k] ++ (l.drop (k + 1)).flatMap layB := by rw [List.drop_eq_getElem_cons hlt, List.flatMap_cons]
            rw [hsplit] at hin
            clear hsplit
            have hp := HFL.out.2 l[k] (List.getElem_mem hlt)
            generalize l[k] = d at *
            generalize hrest : (l.drop (k + 1)).flatMap layB = rest at *
            have HRE := Lib.hid hrest
            clear hrest
            obtain ⟨hlen36, h0, h1, h2, h32, hn, A1, c1, h34, hmx, hpp⟩ := item_cells hx
            have hone := Ty.one _ hx
            have H36 := Lib.hid hlen36
            have hblk : Cells (wr.alloc (.cells cs.toArray 31)) ⟨wr.heap.size, 0, none⟩ cs := by have := Cells.of_block (heap_alloc_new wr (.cells cs.toArray 31)); simpa using this
            have hB := Blk.new wr 31 cs
            have cc0 := (hB.cell 0).trans h0
            have cc1 := (hB.cell 1).trans h1
            have cc34 := (hB.cell 34).trans h34
            have hgG : g < wr.heap.size := hin.lt
            have hin1 : InAt (wr.alloc (.cells cs.toArray 31)).drew g q (layB d ++ rest, 0) := hin.ext ((Ext.refl _).alloc _).drew
            have hin1' : InAt (wr.alloc (.cells cs.toArray 31)) g q (layB d ++ rest, 0) := hin.ext ((Ext.refl _).alloc _)
            have HIN := Lib.hid hin1
            have HIN' := Lib.hid hin1'
            have hsame : ∀ w3, (wr.alloc (.cells cs.toArray 31)).drew.grownBy w3 (some g) → w3.cell? ⟨wr.heap.size, 1, none⟩ = some (Value.int .u64 (d.2.1 : Nat)) := fun w3 hg3 =>
              (World.cell?_of_block (hg3.block wr.heap.size (by simp) (by simp; omega))).trans (by simpa using cc1)
            have hext : ∀ w3, (wr.alloc (.cells cs.toArray 31)).drew.grownBy w3 (some g) → Ext w w3 := fun w3 hg3 => grown_then (hxw.alloc _).drew hg3 (.inr (by rintro _ ⟨⟩; exact hgw))
            have HSAME := Lib.hid hsame
            have HEXT := Lib.hid hext
            clear hlen36 h0 h1 h34 hin1 hin1' hin hcells hx hsame
            by_cases k0 : d.1 = 0
            · have HO : ∀ W, InAt W g q (layB d ++ rest, 0) → Calls Try.prog 16 #[.pointer (some ⟨g, 0, none⟩)] W fun e w' => e = .returned (.int .u8 ((d.2.1 : Int) % 256)) ∧ InAt w' g q (rest, 0) ∧ W.grownBy w' (some g) := by
                intro W h
                have h2 := In_One g q _ W h
                rw [show layB d = be 1 d.2.1 by simp [layB, k0, be], numM_app] at h2
                refine h2.mono fun e w' ⟨h3, h4⟩ => ⟨?_, h4⟩
                rw [h3]
                simp [Int.natCast_emod]
              have HO := Lib.hid HO
              rw [k0] at cc0
              go_wp2_with (first
                | (refine wpList_load_agg _ rfl 31 (.tmp 30) rfl _ rfl cs _ Try.underlying31 rfl (sizeItem H36.out) hcx ?_)
                | (refine wpList_alloc _ rfl 31 rfl _ zeroItem ?_)
                | (refine wpList_store_new _ rfl 31 (.tmp 8) (.tmp 31) rfl rfl _ cs _ rfl (sizeItem H36.out) (by rw [H36.out]; rfl) hone ?_)
                | fail)
              go_region_held_law (fun w' => w'.cell? ⟨wr.heap.size, 1, none⟩ = some (Value.int .u64 (d.2.1 : Nat))) ((first | assumption | go_keep))
                (first | (go_at_call 16; refine (HO.out _ HIN.out).mono ?_; rintro e w3 ⟨rfl, hi3, hg3⟩; have hk3 := HSAME.out w3 hg3))
              have HI3 := Lib.hid hi3
              have hxw3 := HEXT.out w3 hg3
              go_wp2_with fail
              refine (In_Bad g q _ _ HI3.out).mono ?_
              rintro e w4 ⟨rfl, rfl⟩
              go_wp2
              go_roundw
              case rel => exact ⟨k + 1, by omega, by go_num, by rw [HRE.out]; exact HI3.out, hxw3⟩
              case measure => simp [intOf]; omega
            by_cases k1 : d.1 = 1
            · have HO : ∀ W, InAt W g q (layB d ++ rest, 0) → Calls Try.prog 25 #[.pointer (some ⟨g, 0, none⟩)] W fun e w' => e = .returned (.int .u32 ((d.2.1 : Int) % 4294967296)) ∧ InAt w' g q (rest, 0) ∧ W.grownBy w' (some g) := by
                intro W h
                have h2 := In_Four g q _ W h
                rw [show layB d = be 4 d.2.1 by simp [layB, k1, be], numM_app] at h2
                refine h2.mono fun e w' ⟨h3, h4⟩ => ⟨?_, h4⟩
                rw [h3]
                simp [Int.natCast_emod]
              have HO := Lib.hid HO
              rw [k1] at cc0
              go_wp2_with (first
                | (refine wpList_load_agg _ rfl 31 (.tmp 30) rfl _ rfl cs _ Try.underlying31 rfl (sizeItem H36.out) hcx ?_)
                | (refine wpList_alloc _ rfl 31 rfl _ zeroItem ?_)
                | (refine wpList_store_new _ rfl 31 (.tmp 8) (.tmp 31) rfl rfl _ cs _ rfl (sizeItem H36.out) (by rw [H36.out]; rfl) hone ?_)
                | fail)
              go_region_held_law (fun w' => w'.cell? ⟨wr.heap.size, 1, none⟩ = some (Value.int .u64 (d.2.1 : Nat))) ((first | assumption | go_keep))
                (first | (go_at_call 25; refine (HO.out _ HIN.out).mono ?_; rintro e w3 ⟨rfl, hi3, hg3⟩; have hk3 := HSAME.out w3 hg3))
              have HI3 := Lib.hid hi3
              have hxw3 := HEXT.out w3 hg3
              go_wp2_with fail
              refine (In_Bad g q _ _ HI3.out).mono ?_
              rintro e w4 ⟨rfl, rfl⟩
              go_wp2
              go_roundw
              case rel => exact ⟨k + 1, by omega, by go_num, by rw [HRE.out]; exact HI3.out, hxw3⟩
              case measure => simp [intOf]; omega
            by_cases k2 : d.1 = 2
            · have HO : ∀ W, InAt W g q (layB d ++ rest, 0) → Calls Try.prog 17 #[.pointer (some ⟨g, 0, none⟩)] W fun e w' => e = .returned (.int .u64 ((d.2.1 : Int))) ∧ InAt w' g q (rest, 0) ∧ W.grownBy w' (some g) := by
                intro W h
                have h2 := In_Eight g q _ W h
                rw [show layB d = be 8 d.2.1 by simp [layB, k2, be], numM_app] at h2
                refine h2.mono fun e w' ⟨h3, h4⟩ => ⟨?_, h4⟩
                rw [h3]
                rw [Nat.mod_eq_of_lt (by simpa using hn)]
              have HO := Lib.hid HO
              rw [k2] at cc0
              go_wp2_with (first
                | (refine wpList_load_agg _ rfl 31 (.tmp 30) rfl _ rfl cs _ Try.underlying31 rfl (sizeItem H36.out) hcx ?_)
                | (refine wpList_alloc _ rfl 31 rfl _ zeroItem ?_)
                | (refine wpList_store_new _ rfl 31 (.tmp 8) (.tmp 31) rfl rfl _ cs _ rfl (sizeItem H36.out) (by rw [H36.out]; rfl) hone ?_)
                | fail)
              go_region_held_law (fun w' => w'.cell? ⟨wr.heap.size, 1, none⟩ = some (Value.int .u64 (d.2.1 : Nat))) ((first | assumption | go_keep))
                (first | (go_at_call 17; refine (HO.out _ HIN.out).mono ?_; rintro e w3 ⟨rfl, hi3, hg3⟩; have hk3 := HSAME.out w3 hg3))
              have HI3 := Lib.hid hi3
              have hxw3 := HEXT.out w3 hg3
              go_wp2_with fail
              refine (In_Bad g q _ _ HI3.out).mono ?_
              rintro e w4 ⟨rfl, rfl⟩
              go_wp2
              go_roundw
              case rel => exact ⟨k + 1, by omega, by go_num, by rw [HRE.out]; exact HI3.out, hxw3⟩
              case measure => simp [intOf]; omega
            by_cases k3 : d.1 = 3
            · have HO : ∀ W, InAt W g q (layB d ++ rest, 0) → Calls Try.prog 18 #[.pointer (some ⟨g, 0, none⟩)] W fun e w' => e = .returned (.agg (bv d.2.2.1).toArray) ∧ InAt w' g q (rest, 0) ∧ W.grownBy w' (some g) := by
                intro W h
                have h2 := In_Sum g q _ W h
                rwa [show layB d = d.2.2.1 by simp [layB, k3], sumM_app _ _ h32] at h2
              have HO := Lib.hid HO
              obtain ⟨hq1, hq2⟩ := eq_self 49 (by kernel_rfl) Try.underlying49 d.2.2.1 h32
              have hu := Try.underlying29
              have hri : (Try.prog.info? 29).map (·.size) = some (bv d.2.2.1).length := by rw [bv_length, h32]; kernel_rfl
              have hra0 : ∀ W, Blk W wr.heap.size 31 cs → W.rangeAt wr.heap.size 2 (bv d.2.2.1) := fun W hW j v hv => by
                rw [hW.cell]
                rw [← h2, List.getElem?_take] at hv
                split at hv
                · rwa [List.getElem?_drop] at hv
                · cases hv
              have hra := hra0 (wr.alloc (.cells cs.toArray 31)).drew hB
              have hrs : ∀ w3, (wr.alloc (.cells cs.toArray 31)).drew.grownBy w3 (some g) → w3.rangeAt wr.heap.size 2 (bv d.2.2.1) := fun w3 hg3 => hra0 w3 (Blk.keep (w := (wr.alloc (.cells cs.toArray 31)).drew) hB hg3 (by simp; omega))
              clear hra0
              have HRS := Lib.hid hrs
              generalize bv d.2.2.1 = C at *
              rw [k3] at cc0
              go_wp2_with (first
                | (refine wpList_load_agg _ rfl 31 (.tmp 30) rfl _ rfl cs _ Try.underlying31 rfl (sizeItem H36.out) hcx ?_)
                | (refine wpList_alloc _ rfl 31 rfl _ zeroItem ?_)
                | (refine wpList_store_new _ rfl 31 (.tmp 8) (.tmp 31) rfl rfl _ cs _ rfl (sizeItem H36.out) (by rw [H36.out]; rfl) hone ?_)
                | fail)
              go_region_held_law (fun w' => w'.rangeAt wr.heap.size 2 C) ((first | assumption | go_keep))
                (first | (go_at_call 18; refine (HO.out _ HIN.out).mono ?_; rintro e w3 ⟨rfl, hi3, hg3⟩; have hk3 := HRS.out w3 hg3))
              have HI3 := Lib.hid hi3
              have hxw3 := HEXT.out w3 hg3
              go_wp2_with fail
              refine (In_Bad g q _ _ HI3.out).mono ?_
              rintro e w4 ⟨rfl, rfl⟩
              go_wp2
              go_roundw
              case rel => exact ⟨k + 1, by omega, by go_num, by rw [HRE.out]; exact HI3.out, hxw3⟩
              case measure => simp [intOf]; omega
            by_cases k4 : d.1 = 4
            · have HO : ∀ W, InAt W g q (layB d ++ rest, 0) → Calls Try.prog 19 #[.pointer (some ⟨g, 0, none⟩), .int .i64 4096] W fun e w' => ∃ v, e = .returned v ∧ OwnB w' v d.2.2.2.1 ∧ InAt w' g q (rest, 0) ∧ W.grownBy w' (some g) := by
                intro W h
                have h2 := In_Blob g q _ W 4096 (by decide) h
                rw [show layB d = blob d.2.2.2.1 by simp [layB, k4], blobM_app _ _ hp] at h2
                exact h2.mono fun e w' ⟨v, h3, h4, h5, h6, _⟩ => ⟨v, h3, h4, h5, h6⟩
              have HO := Lib.hid HO
              have HS : ∀ w3, (∀ b, F b → w3.heap[b]? = w.heap[b]?) → (convert 26 9 (.slice A1 d.2.2.2.1.length c1)).run Try.prog w3 = .ok (.string (strOf d.2.2.2.1)) w3 := fun w3 h => run_str w3 _ _ _ Try.underlying26 Try.underlying5 Try.underlying9 _ _ _ (src_bytes (Ty.keep (t := .sl .u8) h (fun _ h => h) hpp))
              have hs1 := HS (wr.alloc (.cells cs.toArray 31)).drew (fun b hb => ((hxw.alloc _).drew).block b (hF b hb) (by simp))
              have hs2 : ∀ w3, (wr.alloc (.cells cs.toArray 31)).drew.grownBy w3 (some g) → (convert 26 9 (.slice A1 d.2.2.2.1.length c1)).run Try.prog w3 = .ok (.string (strOf d.2.2.2.1)) w3 := fun w3 hg3 => HS w3 (fun b hb => (hext w3 hg3).block b (hF b hb) (by simp))
              have hc2 : ∀ w3, (wr.alloc (.cells cs.toArray 31)).drew.grownBy w3 (some g) → w3.cell? ⟨wr.heap.size, 34, none⟩ = some (.slice A1 d.2.2.2.1.length c1) := fun w3 hg3 =>
                (World.cell?_of_block (hg3.block wr.heap.size (by simp) (by simp; omega))).trans (by simpa using cc34)
              have HS2 := Lib.hid hs2
              have HC2 := Lib.hid hc2
              have HSTR : ∀ w3 v, OwnB w3 v d.2.2.2.1 → (convert 26 9 v).run Try.prog w3 = .ok (.string (strOf d.2.2.2.1)) w3 := by
                intro w3 v ho
                obtain ⟨A9, c9, rfl⟩ := ho.form
                exact run_str w3 _ _ _ Try.underlying26 Try.underlying5 Try.underlying9 _ _ _ ho.src
              have HSTR := Lib.hid HSTR
              clear hs2 hc2 HS
              rw [k4] at cc0
              go_wp2_with (first
                | (refine wpList_load_agg _ rfl 31 (.tmp 30) rfl _ rfl cs _ Try.underlying31 rfl (sizeItem H36.out) hcx ?_)
                | (refine wpList_alloc _ rfl 31 rfl _ zeroItem ?_)
                | (refine wpList_store_new _ rfl 31 (.tmp 8) (.tmp 31) rfl rfl _ cs _ rfl (sizeItem H36.out) (by rw [H36.out]; rfl) hone ?_)
                | fail)
              go_region_held_law (fun w' => w'.cell? ⟨wr.heap.size, 34, none⟩ = some (.slice A1 d.2.2.2.1.length c1) ∧ (convert 26 9 (.slice A1 d.2.2.2.1.length c1)).run Try.prog w' = .ok (.string (strOf d.2.2.2.1)) w') ((first | (refine ⟨?_, ?_⟩ <;> assumption) | (refine ⟨?_, ?_⟩ <;> first | assumption | go_keep)))
                (first | (go_at_call 19; refine (HO.out _ HIN.out).mono ?_; rintro e w3 ⟨v3, rfl, hv3, hi3, hg3⟩; have hk3 := HC2.out w3 hg3; have hs3 := HS2.out w3 hg3; have hs4 := HSTR.out w3 v3 hv3))
              have HI3 := Lib.hid hi3
              have hxw3 := HEXT.out w3 hg3
              go_wp2_with fail
              refine (In_Bad g q _ _ HI3.out).mono ?_
              rintro e w4 ⟨rfl, rfl⟩
              go_wp2
              go_roundw
              case rel => exact ⟨k + 1, by omega, by go_num, by rw [HRE.out]; exact HI3.out, hxw3⟩
              case measure => simp [intOf]; omega
            have e0 : (d.1 == (0 : Int)) = false := by simp [k0]
            have e1 : (d.1 == (1 : Int)) = false := by simp [k1]
            have e2 : (d.1 == (2 : Int)) = false := by simp [k2]
            have e3 : (d.1 == (3 : Int)) = false := by simp [k3]
            have e4 : (d.1 == (4 : Int)) = false := by simp [k4]
            have hnil : layB d = [] := by simp [layB, k0, k1, k2, k3, k4]
            have hi4 := HIN'.out
            rw [hnil, List.nil_append] at hi4
            have HI4 := Lib.hid hi4
            clear k0 k1 k2 k3 k4 hnil hi4
            go_wp2_with (first
              | (refine wpList_load_agg _ rfl 31 (.tmp 30) rfl _ rfl cs _ Try.underlying31 rfl (sizeItem H36.out) hcx ?_)
              | (refine wpList_alloc _ rfl 31 rfl _ zeroItem ?_)
              | (refine wpList_store_new _ rfl 31 (.tmp 8) (.tmp 31) rfl rfl _ cs _ rfl (sizeItem H36.out) (by rw [H36.out]; rfl) hone ?_)
              | fail)
            refine (In_Bad g q _ _ HI4.out).mono ?_
            rintro e w4 ⟨rfl, rfl⟩
            go_wp2
            go_roundw
            case rel => exact ⟨k + 1, by omega, by go_num, by rw [HRE.out]; exact HI4.out, hxw.alloc _⟩
            case measure => simp [intOf]; omega
          · obtain rfl : k = l.length := by omega
            rw [List.drop_length] at hin
            go_wp2_with fail
            refine (awake_true _).mono ?_
            rintro e w3 ⟨rfl, hx3⟩
            go_wp2_with fail
            refine (In_End g q _ _ (hin.ext hx3)).mono ?_
            rintro e w4 ⟨rfl, hin4, hg4⟩
            go_wp2
            go_ret
            exact ⟨by simp [endM], grown_then (hxw.trans hx3) hg4 (.inr (by rintro _ ⟨⟩; exact hgw))⟩
  · have hfit' : fitsB l = false := by simpa using hfit
    go_enter Try.func6, Try.ntmps6
    go_wp2_with fail
    refine (fits_any _ l w F hl0 hF).mono ?_
    rintro e w1 ⟨rfl, hx1⟩
    rw [hfit']
    clear hfit hfit'
    go_wp2_with fail
    refine (awake_true _).mono ?_
    rintro e w2 ⟨rfl, hx2⟩
    go_wp2
    go_ret
    exact ⟨rfl, Ext.trans hx1 hx2⟩
end Go.Proofs.Ytihbalobgalpmaa
