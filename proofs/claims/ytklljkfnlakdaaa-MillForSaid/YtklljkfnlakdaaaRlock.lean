/- The walk of the reference's Lock. No condition. (The mill seat alone reaches it.) -/
import Derived.Test.YtklljkfnlakdaaaRfor
set_option linter.unusedVariables false
set_option linter.unusedSimpArgs false
set_option linter.unnecessarySimpa false
namespace Go.Proofs.Ytklljkfnlakdaaa
open Go.RowKit

theorem Ref_For_i (Fs R : ByteArray) (d : UInt8) (x : Int) (hx : x = (d.toNat : Int)) (v : Value) (ps : List (List UInt8)) (w : World) (F : Fp) (hFs : HexTab Fs firstK) (hR : HexTab R stirK) (hp : (Ty.sl (.sl .u8)).holds w F [v] ps) (hF : ∀ b, F b → b < w.heap.size) (hb : (ps.flatMap blob).length < 1099511627000) :
    Calls Try.prog 18 #[.agg #[.string Fs, .string R], .int .u8 x, v] w fun e w' => e = .returned (.agg (bv (sha (textM d ps))).toArray) ∧ Ext w w' := by
  subst hx; exact Ref_For Fs R d v ps w F hFs hR hp hF hb
set_option maxRecDepth 100000 in
set_option maxHeartbeats 1000000 in
theorem Ref_Lock (Fs R : ByteArray) (s : List UInt8) (hs : s.length = 32) (w : World) (hFs : HexTab Fs firstK) (hR : HexTab R stirK) :
    Calls Try.prog 20 #[.agg #[.string Fs, .string R], .agg (bv s).toArray] w fun e w' => e = .returned (.agg (bv (sha (textM 6 [s]))).toArray) ∧ Ext w w' := by
  have hz := b32_zero
  have hzl : (bv (List.replicate 32 0)).length = 32 := by simp
  generalize bv (List.replicate 32 0) = Z at hz hzl
  generalize hB : bv s = B
  have HB := Lib.hid hB
  have HZL := Lib.hid hzl
  clear hB hzl
  go_enter Try.func20, Try.ntmps20
  go_wp2_with (first
    | (refine wpList_alloc _ rfl 24 rfl _ hz ?_)
    | fail)
  have hx0 : Ext w (((w.alloc (.cells #[.string Fs, .string R] 28)).alloc (.cells B.toArray 24)).alloc (.cells Z.toArray 24)) := (((Ext.refl w).alloc _).alloc _).alloc _
  have hbox := ((Blk.new w 28 [Value.string Fs, Value.string R]).keep ((Ext.refl _).alloc (.cells B.toArray 24)) (by simp)).keep ((Ext.refl _).alloc (.cells Z.toArray 24)) (by simp)
  have hres := Blk.new ((w.alloc (.cells #[.string Fs, .string R] 28)).alloc (.cells B.toArray 24)) 24 Z
  have hbl := bytes_new (w := w.alloc (.cells #[.string Fs, .string R] 28)) (G := w.heap.size + 1) (bs := s) (T := 24) (fr := (0, 0)) (by simp) hs (by simp [maxLen])
  rw [HB.out] at hbl
  have hbl2 := ((Ext.refl _).alloc (.cells Z.toArray 24)).holds (by rintro b rfl; simp) hbl
  have hsz : (((w.alloc (.cells #[.string Fs, .string R] 28)).alloc (.cells B.toArray 24)).alloc (.cells Z.toArray 24)).heap.size = w.heap.size + 1 + 1 + 1 := by simp
  have hsz2 : ((w.alloc (.cells #[.string Fs, .string R] 28)).alloc (.cells B.toArray 24)).heap.size = w.heap.size + 1 + 1 := by simp
  simp only [Act.put, List.setIfInBounds_toArray, List.set_cons_succ, List.set_cons_zero, hsz2]
  rw [hsz2] at hres
  generalize (((w.alloc (.cells #[.string Fs, .string R] 28)).alloc (.cells B.toArray 24)).alloc (.cells Z.toArray 24)) = W0 at *
  have hbl3 := ((Ext.refl W0).drew).holds (by rintro b rfl; omega) hbl2
  have hv := parts_new (w := W0.drew) (G := w.heap.size + 1 + 1 + 1) (n := 1) (T := 22) hsz rfl (by simp [maxLen]) (AllH.one (R := (Ty.sl .u8).holds _ _) hbl3) (by rintro b rfl; show w.heap.size + 1 < W0.heap.size; omega)
  have hvF : ∀ b, (b = w.heap.size + 1 ∨ b = w.heap.size + 1 + 1 + 1) → b < (W0.drew.alloc (.cells #[Value.slice (some ⟨w.heap.size + 1, 0, none⟩) 32 32] 22)).heap.size := by
    have h : (W0.drew.alloc (.cells #[Value.slice (some ⟨w.heap.size + 1, 0, none⟩) 32 32] 22)).heap.size = W0.heap.size + 1 := by show (W0.heap.push _).size = _; simp
    rintro b (rfl | rfl) <;> omega
  have hsl : (bv (sha (textM 6 [s]))).length = 32 := by rw [bv_length, sha_length]
  have hso := bv_one (sha (textM 6 [s]))
  have hzl2 : (bv (sha (textM 6 [s]))).length = Z.length := by rw [hsl, HZL.out]
  have hi32 : (Try.prog.info? 24).map (·.size) = some (bv (sha (textM 6 [s]))).length := b32_size hsl
  have HS : Hid (∀ w' : World, W0.grownBy w' (some (w.heap.size + 1 + 1)) → w'.cell? ⟨w.heap.size, 0, none⟩ = some (Value.string Fs) ∧ w'.cell? ⟨w.heap.size, 1, none⟩ = some (Value.string R)) := Lib.hid fun w' h => ⟨(hbox.keep h (by simp; omega)).cell 0, (hbox.keep h (by simp; omega)).cell 1⟩
  have HBOX := Lib.hid hbox
  have HRES := Lib.hid hres
  have HX0 := Lib.hid hx0
  have HV := Lib.hid hv
  clear hbox hres hx0 hbl hbl2 hbl3 hsz2 hz hv
  go_region_held_law (fun w' => w'.cell? ⟨w.heap.size, 0, none⟩ = some (Value.string Fs) ∧ w'.cell? ⟨w.heap.size, 1, none⟩ = some (Value.string R))
    ((refine HS.out _ ?_; first | exact (Ext.drew (Ext.refl _)).any _ | exact ((Ext.drew (Ext.refl _)).alloc _).any _ | exact Ext.any (by assumption) _ | (rw [setCells_row (by assumption) (by assumption) (by assumption) hso]; exact grown_then (Ext.any (by assumption) (some (w.heap.size + 1 + 1))) (setRow_only _) (.inl rfl)))) (first
    | (go_at_call 18; refine (Ref_For_i Fs R 6 6 rfl _ [s] _ _ hFs hR HV.out hvF (by simp [blob, be_length, hs])).mono ?_; rintro e W2 ⟨rfl, hx2⟩; have hx3 : Ext W0 W2 := ((Ext.refl W0).drew.alloc _).trans hx2; have hrs2 := HRES.out.keep hx3 (by simp); have hth := blk_there hrs2 hzl2; have hin := hi32))
  rw [setCells_row (by assumption) (by assumption) (by assumption) hso]
  have hc : Cells (W2.setRow (w.heap.size + 1 + 1) (bv (sha (textM 6 [s]))).toArray) ⟨w.heap.size + 1 + 1, 0, none⟩ (bv (sha (textM 6 [s]))) := Blk.cells (t := 24) (setRow_at hrs2)
  go_wp2_with fail
  (try simp only [Exit.inBlock, Exit.then])
  refine bodyPost_ret (results_agg rfl _ _ _ _ _ rfl Try.underlying24 rfl hi32 hc) rfl ?_
  exact ⟨rfl, setRow_grown (HX0.out.trans hx3) _ _ (by omega)⟩
end Go.Proofs.Ytklljkfnlakdaaa
