/- The walk of the document's Text of layer 25. Conditions: the request's numbers are in their bounds, the note isn't too long. -/
import Derived.Test.YtchnjcghbbacoaaDoorQRHead
import Derived.Test.YtchnjcghbbacoaaDoorQRBytes
set_option linter.unusedVariables false
set_option linter.unusedSimpArgs false
set_option linter.unnecessarySimpa false
namespace Go.Proofs.YtchnjcghbbacoaaDoor
open Go.RowKit

/-- What Text answers. -/
def TextSaid (rt : Bool) (B : List UInt8) (e : Ending) : Prop :=
  (rt = false ∧ e = .returned (.tuple #[.string ⟨#[]⟩, .int .i64 1])) ∨ (rt = true ∧ ∃ l, Fives (bitsP B) l ∧ e = .returned (.tuple #[.string ⟨(textR l).toArray⟩, .int .i64 0]))
theorem szRqR {n : Nat} (h : n = 36) : (Tryd.prog.info? 25).map (·.size) = some n := by subst h; kernel_rfl
theorem bitsP_two (p : List UInt8) : ∀ x ∈ bitsP p, x < 2 := fun x hx => by
  obtain ⟨b, _, h⟩ := List.mem_flatMap.1 hx
  exact bitsOf_two _ _ x h
theorem run_strcat (P : Program) (t : TypeId) (a : List UInt8) (b : UInt8) (h : a.length ≤ 1000000) (w : World) : (binOp .add t (.string ⟨a.toArray⟩) (.string (strOf [b]))).run P w = .ok (.string ⟨(a ++ [b]).toArray⟩) w := by
  have hs1 : (⟨a.toArray⟩ : ByteArray).size = a.length := List.size_toArray
  have hs2 : (strOf [b]).size = 1 := rfl
  have he : (⟨a.toArray⟩ : ByteArray) ++ strOf [b] = ⟨(a ++ [b]).toArray⟩ := by
    apply ByteArray.ext
    rw [ByteArray.data_append]
    simp [strOf]
  rw [binOp_string_add]
  unfold Op.stringOp
  simp only
  rw [if_neg (by rw [hs1, hs2]; simp [IntKind.max, IntKind.bits, IntKind.signed]; omega), he]
  rfl
/-- The last t of six numbers, zeros ahead. -/
def sixT (S t : Nat) : List Nat := List.replicate (6 - t) 0 ++ (sixOf S).drop (6 - t)
theorem sixT_length (S t : Nat) (h : t ≤ 6) : (sixT S t).length = 6 := by simp [sixT, six_len] <;> omega
theorem sixT_full (S : Nat) : sixT S 6 = sixOf S := by simp [sixT]
theorem sixT_none (S : Nat) : sixT S 0 = List.replicate 6 0 := by simp [sixT, six_len]
theorem sixT_step (S t : Nat) (h : t < 6) : (sixT S t).set (5 - t) (S / 2 ^ (5 * t) % 32) = sixT S (t + 1) := by
  have : t = 0 ∨ t = 1 ∨ t = 2 ∨ t = 3 ∨ t = 4 ∨ t = 5 := by omega
  rcases this with rfl | rfl | rfl | rfl | rfl | rfl <;> rfl
theorem iv_set (l : List Nat) (i n : Nat) : iv (l.set i n) = (iv l).set i (.int .i64 (n : Int)) := by simp [iv]
theorem OwnI.keepN {w w' : World} {u v : Value} {l : List Nat} {n : Nat} (h : OwnI w u l) (hg : w.grownBy w' v.ownBlock) (hlt : ∀ g, u.ownBlock = some g → g < n) (hge : ∀ g, v.ownBlock = some g → n ≤ g) : OwnI w' u l :=
  Own.keep h hg (by
    cases hu : u.ownBlock with
    | none => exact .inl rfl
    | some g => exact .inr (fun e => by have h1 := hlt g hu; have h2 := hge g e.symm; omega))
theorem Moved.low {w w' : World} {v v' : Value} {n : Nat} (hm : Moved w w' v v') (hn : n ≤ w.heap.size) (hv : ∀ g, v.ownBlock = some g → n ≤ g) : ∀ g, v'.ownBlock = some g → n ≤ g := fun g e => by
  rcases hm.at_ with e2 | h
  · exact hv g (e2.symm.trans e)
  · exact Nat.le_trans hn (h g e)
theorem Ext.grownN {a b c : World} {r : Option Nat} {n : Nat} (h : Ext a b) (k : b.grownBy c r) (hn : a.heap.size ≤ n) (hr : ∀ g, r = some g → n ≤ g) : Ext a c := grown_then h k (.inr fun g e => Nat.le_trans hn (hr g e))
theorem alne {k : Nat} (al : List Nat) (h : k < al.length) : iv al ≠ [] := by
  intro e
  have h1 : al.length = 0 := by have := congrArg List.length e; simpa [iv] using this
  omega
theorem lettersK_at (x : Nat) (h : x < 32) : (⟨#[113, 112, 122, 114, 121, 57, 120, 56, 103, 102, 50, 116, 118, 100, 119, 48, 115, 51, 106, 110, 53, 52, 107, 104, 99, 101, 54, 109, 117, 97, 55, 108]⟩ : ByteArray).data.toList[x]? = some (letter x) := by
  have : ∀ x : Fin 32, (⟨#[113, 112, 122, 114, 121, 57, 120, 56, 103, 102, 50, 116, 118, 100, 119, 48, 115, 51, 106, 110, 53, 52, 107, 104, 99, 101, 54, 109, 117, 97, 55, 108]⟩ : ByteArray).data.toList[x.1]? = some (letter x.1) := by decide
  exact this ⟨x, h⟩
set_option maxRecDepth 100000 in
set_option maxHeartbeats 8000000 in
theorem QRText (r : Rq) (w : World) (hok : RqOk r) (hnn : r.2.2.2.2.size ≤ 100000) :
    Calls Tryd.prog 8 #[.agg (rqC r).toArray] w fun e w' => TextSaid (rightR r) (bytesR r) e ∧ Ext w w' := by
  obtain ⟨i0, hi, hz0, hz1, hz2⟩ := info_parts int_info
  have HB0 := Lib.hid (show Blk (w.alloc (.cells (rqC r).toArray 25)) w.heap.size 25 (rqC r) from Blk.new _ _ _)
  have HX0 := Lib.hid (show Ext w (w.alloc (.cells (rqC r).toArray 25)) from (Ext.refl w).alloc _)
  have h1 := (HB0.out.cell 1).trans (show (rqC r)[1]? = some (.int .u64 (r.2.1 : Int)) from rfl)
  have h35 := (HB0.out.cell 35).trans (rqC_note hok)
  have HSZ := Lib.hid (szRqR (rqC_length hok))
  have HBY := Lib.hid (fun w => QRBytes r w hok hnn)
  have HR0 := Lib.hid (show r.2.1 = 0 → rightR r = false by intro h; simp [rightR, h])
  have HR1 := Lib.hid (show ¬ r.2.2.2.2.size ≤ 100 → rightR r = false by intro h; simp [rightR]; omega)
  have HR2 := Lib.hid (show r.2.1 ≠ 0 → r.2.2.2.2.size ≤ 100 → rightR r = true by intro h k; simp [rightR, k]; omega)
  have HBL := Lib.hid (bytesR_length hok)
  have hn := hok.note
  clear hok
  generalize rightR r = rt at *
  generalize bytesR r = BR at *
  generalize rqC r = CC at *
  generalize r.2.2.2.2 = note at *
  generalize r.2.1 = am at *
  have HNN := Lib.hid hnn
  clear hnn
  go_enter Tryd.func8, Tryd.ntmps8
  by_cases ha : am = 0
  · subst ha
    go_wp2
    go_ret2
    exact ⟨.inl ⟨by first | exact HR0.out rfl | exact HR0.out trivial, rfl⟩, HX0.out⟩
  have ha' : ((am : Int) == 0) = false := by simp; omega
  by_cases hs : note.size ≤ 100
  case neg =>
    go_wp2
    go_ret2
    exact ⟨.inl ⟨HR1.out hs, rfl⟩, HX0.out⟩
  have HRT := Lib.hid (HR2.out ha hs)
  have HBM := Lib.hid (show BR.length ≤ 153 by have := HBL.out; omega)
  clear HR0 HR1 HR2 HNN HBL
  go_wp2_with (first
    | ((with_reducible refine wpDst 21 rfl ?_); refine wpList_load_agg _ rfl _ _ rfl _ rfl CC _ Tryd.underlying25 rfl HSZ.out HB0.out.cells ?_)
    | fail)
  refine (HBY.out _).mono ?_
  rintro e w1 ⟨v1, rfl, ho1, hf1⟩
  have HX1 := Lib.hid (HX0.out.trans (Fresh.ext hf1))
  have HO1 := Lib.hid ho1
  clear ho1 hf1 HBY HSZ HX0 HB0 h1 h35
  go_wp2_with fail
  refine (QRBits v1 BR w1 _ (OwnB.holds HO1.out) (OwnB.lt HO1.out) (by have := HBM.out; omega)).mono ?_
  rintro e w2 ⟨v2, rfl, ho2, hf2⟩
  have HX2 := Lib.hid (HX1.out.trans (Fresh.ext hf2))
  obtain ⟨A2, c2, rfl⟩ := OwnI.form ho2
  have HO2 := Lib.hid ho2
  clear ho2 hf2 HX1 HO1
  go_wp2_with fail
  refine (QRFives A2 c2 (bitsP BR) w2 (OwnI.src rfl HO2.out) (bitsP_two BR) (by have := HBM.out; rw [bitsP_length]; omega)).mono ?_
  rintro e w3 ⟨v3, out, rfl, hfv, ho3, hf3⟩
  have hlo : out.length ≤ 300 := by
    have h1 := hfv.length
    have h2 := HBM.out
    rw [bitsP_length] at h1
    omega
  have HX3 := Lib.hid (HX2.out.trans (Fresh.ext hf3))
  have HL3 := Lib.hid (OwnI.lt ho3)
  have HN3 := Lib.hid (fun g e => Nat.le_trans HX2.out.size (Fresh.new hf3 g e))
  obtain ⟨A3, c3, rfl⟩ := OwnI.form ho3
  have HO3 := Lib.hid ho3
  have HFV := Lib.hid hfv
  have HLO := Lib.hid hlo
  clear ho3 hf3 hfv hlo HX2 HO2
  go_wp2_with fail
  refine (QRHead _).mono ?_
  rintro e w4 ⟨v4, rfl, ho4, hf4⟩
  have hx34 : Ext w3 w4 := ((Ext.refl w3).alloc _).trans (Fresh.ext hf4)
  have he4 : Own w4 3 1 (.slice (some ⟨w3.heap.size, 0, none⟩) 0 0) 0 [] := Own.ext (own_empty rfl) (Fresh.ext hf4)
  have HO34 := Lib.hid (HO3.out.ext hx34)
  have HE4 := Lib.hid he4
  have HX4 := Lib.hid (HX3.out.trans hx34)
  have HW3 := Lib.hid hx34.size
  have HWW := Lib.hid HX3.out.size
  obtain ⟨A4, c4, rfl⟩ := OwnI.form ho4
  rw [show aheadK.length = 11 from rfl] at ho4 ⊢
  have HO4 := Lib.hid (OwnI.src (show aheadK.length = 11 from rfl) ho4)
  clear ho4 hf4 hx34 he4 HX3 HO3
  go_wp2_with (first
    | ((with_reducible refine wpDst 27 rfl ?_)
       refine wpList_app _ rfl (.tmp 25) (.tmp 26) _ _ rfl 3 3 i0 _ 1 8 Tryd.underlying59 Tryd.underlying59 hi hz0 hz1 hz2 rfl (by decide) (.slice (some ⟨w3.heap.size, 0, none⟩) 0 0) _ _ rfl HE4.out _ 11 _ (iv aheadK) rfl rfl HO4.out (iv_one _) (by decide) (by decide) ?_
       intro v27 w5 ho5 hm5
       have HO5 := Lib.hid (show OwnI w5 v27 aheadK from ho5)
       have hv5 : ∀ g, v27.ownBlock = some g → w3.heap.size ≤ g := hm5.low HW3.out (fun g e => by cases e; exact Nat.le_refl _)
       have HO35 := Lib.hid (OwnI.keepN HO34.out hm5.grown HL3.out (fun g e => by cases e; exact Nat.le_refl _))
       have HX5 := Lib.hid (Ext.grownN HX4.out hm5.grown HWW.out (fun g e => by cases e; exact Nat.le_refl _))
       have HS5 := Lib.hid (Nat.le_trans HW3.out hm5.grown.size)
       have HV5 := Lib.hid hv5
       clear ho5 hm5 hv5)
    | ((with_reducible refine wpDst 29 rfl ?_)
       refine wpList_app _ rfl (.tmp 27) (.tmp 28) _ _ rfl 3 3 i0 _ 1 8 Tryd.underlying59 Tryd.underlying59 hi hz0 hz1 hz2 rfl (by decide) v27 _ _ rfl HO5.out _ out.length _ (iv out) rfl (by rw [iv_length, Nat.mul_one]) (OwnI.src rfl HO35.out) (iv_one _) (by have := HLO.out; rw [show aheadK.length = 11 from rfl]; unfold maxLen; omega) (by have := HLO.out; rw [show aheadK.length = 11 from rfl]; omega) ?_
       intro v29 w6 ho6 hm6
       have HO6 := Lib.hid (OwnI.app ho6)
       have HV6 := Lib.hid (hm6.low HS5.out HV5.out)
       have HO36 := Lib.hid (OwnI.keepN HO35.out hm6.grown HL3.out HV5.out)
       have HX6 := Lib.hid (Ext.grownN HX5.out hm6.grown HWW.out HV5.out)
       have HS6 := Lib.hid (Nat.le_trans HS5.out hm6.grown.size)
       clear ho6 hm6)
    | fail)
  clear HV5 HO35 HX5 HS5 HE4 HO34 HX4 HW3 HO4
  go_loopw [5, 6] (fun ov kv wr => ∃ k : Nat, k ≤ 6 ∧ kv = .int .i64 (k : Int) ∧ OwnI wr ov (aheadK ++ out ++ List.replicate k 0) ∧ OwnI wr (.slice A3 out.length c3) out ∧ Ext w wr ∧ (∀ g, ov.ownBlock = some g → w3.heap.size ≤ g) ∧ w3.heap.size ≤ wr.heap.size) (fun _ kv _ => 6 - (intOf kv).toNat)
  case atStart => exact ⟨0, by omega, rfl, by simpa using HO6.out, HO36.out, HX6.out, HV6.out, HS6.out⟩
  case round =>
    clear HO6 HO36 HX6 HV6 HS6
    obtain ⟨k, hk, rfl, hov, ho3, hx, hvo, hsz⟩ := hrel
    have HOV := Lib.hid hov
    have HO3 := Lib.hid ho3
    have HX := Lib.hid hx
    have HVO := Lib.hid hvo
    have HS := Lib.hid hsz
    clear hov ho3 hx hvo hsz
    by_cases hk6 : k < 6
    · have HL := Lib.hid (show (aheadK ++ out ++ List.replicate k 0).length ≤ 400 by have := HLO.out; simp [aheadK]; omega)
      go_wp2_with (first
        | ((with_reducible refine wpDst 36 rfl ?_)
           refine wpList_app1 _ rfl (.tmp 34) (.tmp 35) _ _ rfl 3 3 3 i0 _ 1 8 Tryd.underlying59 Tryd.underlying59 hi hz0 hz1 hz2 rfl (by decide) _ _ _ [.int .i64 ((0 : Nat) : Int)] rfl HOV.out rfl rfl (by simp [Value.oneCell']) (by have := HL.out; unfold maxLen; omega) (by have := HL.out; omega) ?_
           intro v9 w9 ho9 hm9
           have HO9 := Lib.hid (OwnI.put ho9)
           have HO39 := Lib.hid (OwnI.keepN HO3.out hm9.grown HL3.out HVO.out)
           have HX9 := Lib.hid (Ext.grownN HX.out hm9.grown HWW.out HVO.out)
           have HV9 := Lib.hid (hm9.low HS.out HVO.out)
           have HS9 := Lib.hid (Nat.le_trans HS.out hm9.grown.size)
           clear ho9 hm9)
        | fail)
      go_roundw
      case rel => exact ⟨k + 1, by omega, by go_num, by rw [List.replicate_succ', ← List.append_assoc]; exact HO9.out, HO39.out, HX9.out, HV9.out, HS9.out⟩
      case measure => simp [intOf]; omega
    · obtain rfl : k = 6 := by omega
      have HZ := Lib.hid (show checkM out = sixOf (mixM (aheadK ++ out ++ List.replicate 6 0) ^^^ 1) from rfl)
      have HZL := Lib.hid (show (aheadK ++ out ++ List.replicate 6 0).length ≤ 400 by have := HLO.out; simp [aheadK]; omega)
      have HZS := Lib.hid (show ∀ x ∈ aheadK ++ out ++ List.replicate 6 0, x < 256 from fun x hx => by
        rcases List.mem_append.1 hx with hx | hx
        · rcases List.mem_append.1 hx with hx | hx
          · have : ∀ x ∈ aheadK, x < 256 := by decide
            exact this x hx
          · have := HFV.out.small x hx; omega
        · obtain ⟨_, rfl⟩ := List.mem_replicate.1 hx; omega)
      generalize aheadK ++ out ++ List.replicate 6 0 = Z at *
      obtain ⟨A5, c5, rfl⟩ := OwnI.form HOV.out
      go_wp2_with fail
      refine (QRSum A5 c5 Z wr (OwnI.src rfl HOV.out) HZS.out (by have := HZL.out; omega)).mono ?_
      rintro e w7 ⟨rfl, hx7⟩
      have hM : mixM Z < 4294967296 := by have := mixM_lt Z (fun x hx => by have := HZS.out x hx; omega); omega
      have HO37 := Lib.hid (HO3.out.ext hx7)
      have HX7 := Lib.hid (HX.out.trans hx7)
      have HS7 := Lib.hid (Nat.le_trans HS.out hx7.size)
      have HQ0 := Lib.hid (fun w => run_xor64 Tryd.prog 3 (mixM Z) 1 hM (by omega) w)
      have hS : mixM Z ^^^ 1 < 4294967296 := Nat.xor_lt_two_pow (n := 32) hM (by omega)
      clear HOV HO3 HX HVO HS HZL HZS hx7 hM
      generalize mixM Z ^^^ 1 = SS at *
      generalize mixM Z = MZ at *
      go_wp2_with (first
        | ((with_reducible refine wpDst 39 rfl ?_); refine wpList_binV (.inl rfl) .xor 3 _ _ rfl (.int .i64 (MZ : Int)) (.int .i64 ((1 : Nat) : Int)) rfl rfl rfl (HQ0.out _) ?_)
        | ((with_reducible refine wpDst 40 rfl ?_)
           refine wpList_make_full _ rfl _ _ _ rfl 0 _ i0 _ 1 Tryd.underlying59 hi hz0 hz1 .i64 .i64 6 6 6 rfl rfl rfl rfl (by rw [hz2]; omega) (by unfold maxLen; omega) (Nat.zero_le _) ?_
           intro w8 ho8 hg8
           have ho8' : Own w8 3 1 (.slice (some ⟨w7.heap.size, 0, none⟩) 6 6) 6 (iv (sixT SS 0)) := by
             rw [sixT_none]
             have e : iv (List.replicate 6 0) = (madeCells (Value.int .i64 0).cells (6 * 1)).toList := by
               rw [show (Value.int .i64 0).cells = #[.int .i64 0] from rfl, toList_madeCells_one]
               rfl
             rw [e]; exact ho8
           have HO8 := Lib.hid ho8'
           have HX8 := Lib.hid (HX7.out.trans hg8)
           have HO38 := Lib.hid (HO37.out.ext hg8)
           clear ho8 hg8 ho8')
        | fail)
      clear HO37 HX7
      generalize w7.heap.size = g7 at *
      go_loopw [7, 9] (fun sv kv wr => ∃ t : Nat, t ≤ 6 ∧ kv = .int .i64 ((5 : Int) - (t : Int)) ∧ sv = .int .i64 ((SS / 2 ^ (5 * t) : Nat) : Int) ∧ Own wr 3 1 (.slice (some ⟨g7, 0, none⟩) 6 6) 6 (iv (sixT SS t)) ∧ OwnI wr (.slice A3 out.length c3) out ∧ Ext w wr) (fun _ kv _ => (intOf kv + 1).toNat)
      case atStart => exact ⟨0, by omega, by simp, by simp, HO8.out, HO38.out, HX8.out⟩
      case round =>
        clear HO8 HO38 HX8
        obtain ⟨t, ht, rfl, rfl, hor, ho3, hx⟩ := hrel
        by_cases ht6 : t < 6
        · have hcell0 := World.ownsRow.cellAt hor (5 - t) (by omega)
          obtain ⟨u0, hu0⟩ : ∃ u0, (iv (sixT SS t))[5 - t]? = some u0 := ⟨_, List.getElem?_eq_getElem (by rw [iv_length, sixT_length _ _ (by omega)]; omega)⟩
          rw [hu0] at hcell0
          have hfr := World.ownsRow.frozenAt hor (5 - t)
          have hst := World.ownsRow.stored hor (5 - t) (.int .i64 ((SS / 2 ^ (5 * t) % 32 : Nat) : Int))
          have hq : SS / 2 ^ (5 * t) < 4294967296 := Nat.lt_of_le_of_lt (Nat.div_le_self _ _) hS
          have HNX := Lib.hid (show SS / 2 ^ (5 * t) / 32 = SS / 2 ^ (5 * (t + 1)) by rw [Nat.div_div_eq_div_mul, show 32 = 2 ^ 5 from rfl, ← Nat.pow_add, show 5 * t + 5 = 5 * (t + 1) by omega])
          have HSX := Lib.hid (sixT_step SS t ht6)
          have HQ1 := Lib.hid (fun w => run_remN Tryd.prog 3 (SS / 2 ^ (5 * t)) 32 (by omega) (by omega) w)
          have HQ2 := Lib.hid (fun w => run_quoN Tryd.prog 3 (SS / 2 ^ (5 * t)) 32 (by omega) (by omega) w)
          have hj : (5 : Int) - (t : Int) = ((5 - t : Nat) : Int) := by omega
          rw [hj]
          have hj6 : 5 - t < 6 := by omega
          have HJ := Lib.hid hj
          have HST := Lib.hid hst
          have HX := Lib.hid hx
          have HO3 := Lib.hid (OwnI.keepN (v := .slice (some ⟨g7, 0, none⟩) 6 6) ho3 hst.2 HL3.out (fun g e => by cases e; exact HS7.out))
          have HXS := Lib.hid (Ext.grownN hx hst.2 HWW.out (fun g e => by cases e; exact HS7.out))
          clear hst hj hu0 hx ho3 hor
          have HT6 := Lib.hid ht6
          generalize hJe : 5 - t = j at *
          have HJE := Lib.hid hJe
          clear hJe
          generalize SS / 2 ^ (5 * t) = q at *
          generalize q / 32 = q2 at *
          generalize q % 32 = q1 at *
          clear ht6 ht
          go_wp2_with (first
            | ((with_reducible refine wpDst 48 rfl ?_); refine wpList_binV (.inl rfl) .rem 3 _ _ rfl (.int .i64 (q : Int)) (.int .i64 ((32 : Nat) : Int)) rfl rfl rfl (HQ1.out _) ?_)
            | ((with_reducible refine wpDst 51 rfl ?_); refine wpList_binV (.inl rfl) .quo 3 _ _ rfl (.int .i64 (q : Int)) (.int .i64 ((32 : Nat) : Int)) rfl rfl rfl (HQ2.out _) ?_)
            | fail)
          go_roundw
          case rel =>
            have h6 := HT6.out
            have hje := HJE.out
            refine ⟨t + 1, by omega, by go_num, by rw [HNX.out], ?_, HO3.out, HXS.out⟩
            have := HST.out.1
            rw [← iv_set, HSX.out] at this
            exact this
          case measure => first | (simp [intOf]; done) | (simp [intOf]; omega)
        · obtain rfl : t = 6 := by omega
          rw [sixT_full] at hor
          rw [show (5 : Int) - ((6 : Nat) : Int) = -1 by omega]
          have hsrc := own_src hor
          have HSR := Lib.hid hsrc
          have HO3 := Lib.hid ho3
          have HX := Lib.hid hx
          have HAL := Lib.hid (show ∀ x ∈ out ++ sixOf SS, x < 32 from fun x hx => by
            rcases List.mem_append.1 hx with h | h
            · exact HFV.out.small x h
            · exact sixOf_lt _ x h)
          have HLN := Lib.hid (show (out ++ sixOf SS).length = out.length + 6 by simp [six_len])
          have HTX := Lib.hid (show textR out = headK ++ (out ++ sixOf SS).map letter by unfold textR; rw [HZ.out])
          clear hor hsrc ho3 hx
          go_wp2_with (first
            | ((with_reducible refine wpDst 54 rfl ?_)
               refine wpList_app _ rfl (.tmp 52) (.tmp 53) _ _ rfl 3 3 i0 _ 1 8 Tryd.underlying59 Tryd.underlying59 hi hz0 hz1 hz2 rfl (by decide) (.slice A3 out.length c3) out.length (iv out) rfl HO3.out _ 6 _ (iv (sixOf SS)) rfl (by rw [iv_length, six_len]) HSR.out (iv_one _) (by have := HLO.out; unfold maxLen; omega) (by have := HLO.out; omega) ?_
               intro v54 w9 ho9 hm9
               have ho10 : OwnI w9 v54 (out ++ sixOf SS) := OwnI.app (by rw [six_len]; exact ho9)
               obtain ⟨A54, c54, rfl⟩ := OwnI.form ho10
               have HX9 := Lib.hid (show Ext w w9 from grown_then HX.out hm9.grown (.inr HN3.out))
               obtain ⟨N, hN⟩ : ∃ N, N = out.length + 6 := ⟨_, rfl⟩
               rw [HLN.out, ← hN] at ho10 ⊢
               have HNE := Lib.hid hN
               have HO10 := Lib.hid (OwnI.src (HLN.out.trans hN.symm) ho10)
               clear ho9 hm9 ho10 hN)
            | fail)
          have hln : (out ++ sixOf SS).length = N := by rw [HNE.out]; exact HLN.out
          have hn6 : N ≤ 306 := by have := HNE.out; have := HLO.out; omega
          obtain ⟨ad, rfl, hce⟩ := HO10.out (by have := HNE.out; omega)
          have HCE := Lib.hid hce
          have HLN2 := Lib.hid hln
          clear hce hln HNE HO10 HLN HSR HO3 HX hS
          generalize out ++ sixOf SS = al at *
          go_loopw [10, 11] (fun tv kv wr => ∃ k : Nat, k ≤ N ∧ kv = .int .i64 (k : Int) ∧ tv = .string ⟨(headK ++ (al.take k).map letter).toArray⟩ ∧ Ext w9 wr) (fun _ kv _ => N - (intOf kv).toNat)
          case atStart => exact ⟨0, by omega, rfl, rfl, Ext.refl _⟩
          case round =>
            obtain ⟨k, hk, rfl, rfl, hx⟩ := hrel
            by_cases hkn : k < N
            · have hkl : k < al.length := by have := HLN2.out; omega
              obtain ⟨x, hxk⟩ : ∃ x, al[k]? = some x := ⟨_, List.getElem?_eq_getElem hkl⟩
              have hx32 : x < 32 := HAL.out x (List.mem_of_getElem? hxk)
              have hcx := (HCE.out.keep (hx.block _ (HCE.out.lt (alne al hkl)) (by simp))) k _ (iv_at hxk)
              have HTK := Lib.hid (show (al.take (k + 1)).map letter = (al.take k).map letter ++ [letter x] by rw [List.take_add_one, hxk]; simp)
              have HLT := Lib.hid (lettersK_at x hx32)
              have HX := Lib.hid hx
              have HTL := Lib.hid (show (headK ++ (al.take k).map letter).length ≤ 1000000 by
                rw [List.length_append, List.length_map, List.length_take, show headK.length = 5 from rfl]; omega)
              clear hxk hx hkl
              generalize letter x = b at *
              generalize hT : headK ++ (al.take k).map letter = tx at *
              have HTE := Lib.hid hT
              clear hT
              have HSC := Lib.hid (fun w => run_strcat Tryd.prog 9 tx b HTL.out w)
              go_wp2_with (first
                | ((with_reducible refine wpDst 66 rfl ?_); refine wpList_idxS rfl 9 _ _ rfl Tryd.underlying9 ⟨#[113, 112, 122, 114, 121, 57, 120, 56, 103, 102, 50, 116, 118, 100, 119, 48, 115, 51, 106, 110, 53, 52, 107, 104, 99, 101, 54, 109, 117, 97, 55, 108]⟩ x rfl rfl b HLT.out ?_)
                | ((with_reducible refine wpDst 68 rfl ?_); refine wpList_str _ rfl _ _ _ rfl 5 Tryd.underlying40 Tryd.underlying5 Tryd.underlying9 _ _ [b] rfl (src_new _ _ _ _) ?_)
                | ((with_reducible refine wpDst 69 rfl ?_); refine wpList_binV (.inl rfl) .add 9 _ _ rfl (.string ⟨tx.toArray⟩) (.string (strOf [b])) rfl rfl rfl (HSC.out _) ?_)
                | fail)
              go_roundw
              case rel => exact ⟨k + 1, by omega, by go_num, by rw [HTK.out, ← List.append_assoc, HTE.out], HX.out.alloc _⟩
              case measure => simp [intOf]; omega
            · obtain rfl : k = N := by omega
              rw [List.take_of_length_le (by rw [HLN2.out]; exact Nat.le_refl _)]
              go_wp2
              go_ret2
              exact ⟨.inr ⟨HRT.out, out, HFV.out, by rw [HTX.out]; rfl⟩, HX9.out.trans hx⟩
end Go.Proofs.YtchnjcghbbacoaaDoor
