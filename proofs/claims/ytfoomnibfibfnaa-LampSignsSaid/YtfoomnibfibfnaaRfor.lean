/- The walk of the reference's For. Condition: the texts come to fewer than 2^40 bytes. -/
import Derived.Test.YtfoomnibfibfnaaRmake
import Derived.Test.YtfoomnibfibfnaaRtext
import Derived.Deep.RegionHeldLaw
set_option linter.unusedVariables false
set_option linter.unusedSimpArgs false
set_option linter.unnecessarySimpa false
namespace Go.Proofs.Ytfoomnibfibfnaa
open Go.RowKit

theorem step_load_agg {P : Program} {ops : Array Oper} {w : World} {o : Oper} {a : Act} {K : Act → World → Prop} {Q : Exit → Act → World → Prop} {E : Prop} (hgd : o.guard = none) (ty : TypeId) (x : Operand) (ho : o.op = .load ty x)
    (ad : Addr) (hx : a.eval x = .pointer (some ad)) (cs : List Value) (d : TypeDesc) (hu : P.underlying ty = some d) (hd : isAggD d = true) (hi : (P.info? ty).map (·.size) = some cs.length) (hc : Cells w ad cs)
    (h : K (a.put o.dst (.agg cs.toArray)) w) : if Region.wanted o (yielded ops a.tmps) = true then Oper.wp P o a w K Q else E := by
  have hw : Region.wanted o (yielded ops a.tmps) = true := by simp [Region.wanted, hgd]
  rw [if_pos hw]
  unfold Oper.wp execOp
  simp only [ho, hx, Instr.loadAt, Instr.sureAddr, Sem.run_bind, Sem.run_pure, Result.andThen_ok, run_load_agg w ty ad cs d hu hd hi hc]
  exact h
theorem blk_there {w : World} {g : Nat} {t : TypeId} {old : List Value} (h : Blk w g t old) {n : Nat} (hn : n = old.length) : w.there g 0 n := by
  subst hn
  intro j hj
  rw [Nat.zero_add, h.cell j, h.free j]
  exact ⟨by simp [hj], rfl⟩
theorem setCells_row {w : World} {g : Nat} {t : TypeId} {old : List Value} (h : Blk w g t old) {cs : List Value} (hl : cs.length = old.length) (hi : (Try.prog.info? 22).map (·.size) = some cs.length) (h1 : ∀ u ∈ cs, u.oneCell' = true) : w.setCells g 0 cs = w.setRow g cs.toArray := by
  have a := run_storeVar_mid (P := Try.prog) w g 0 22 cs.toArray (blk_there h (by simpa using hl)) (by simpa using hi) (by simpa using h1)
  have b : (storeVar 22 ⟨g, 0, none⟩ (.agg cs.toArray)).run Try.prog w = .ok () (w.setRow g cs.toArray) := by
    obtain ⟨i, hi', hs⟩ := Option.map_eq_some_iff.1 hi
    simp only [storeVar, sizeOf, typeInfo, Sem.run_bind, run_program, Result.andThen_ok, hi', Sem.run_pure, hs, Value.cells, List.size_toArray, ne_eq, not_true, if_false, run_store_row w g t old cs h hl h1]
  rw [a] at b
  simpa using b

set_option maxRecDepth 100000 in
set_option maxHeartbeats 1000000 in
theorem Ref_For (Fs R : ByteArray) (d : UInt8) (v : Value) (ps : List (List UInt8)) (w : World) (F : Fp) (hFs : HexTab Fs firstK) (hR : HexTab R stirK) (hp : (Ty.sl (.sl .u8)).holds w F [v] ps) (hF : ∀ b, F b → b < w.heap.size) (hb : (ps.flatMap blob).length < 1099511627000) :
    Calls Try.prog 35 #[.agg #[.string Fs, .string R], .int .u8 d.toNat, v] w fun e w' => e = .returned (.agg (bv (sha (textM d ps))).toArray) ∧ Ext w w' := by
  have hz := b32_zero
  have hzl : (bv (List.replicate 32 0)).length = 32 := by simp
  generalize bv (List.replicate 32 0) = Z at hz hzl
  have hbs : ∀ {n : Nat}, n = 2 → (Try.prog.info? 25).map (·.size) = some n := by rintro _ rfl; kernel_rfl
  have hx0 : Ext w ((w.alloc (.cells #[.string Fs, .string R] 25)).alloc (.cells Z.toArray 22)) := ((Ext.refl w).alloc _).alloc _
  have hbox0 : Blk ((w.alloc (.cells #[.string Fs, .string R] 25)).alloc (.cells Z.toArray 22)) w.heap.size 25 [Value.string Fs, Value.string R] := (Blk.new w 25 [Value.string Fs, Value.string R]).keep ((Ext.refl _).alloc _) (by simp)
  have hres0 : Blk ((w.alloc (.cells #[.string Fs, .string R] 25)).alloc (.cells Z.toArray 22)) (w.heap.size + 1) 22 Z := by have := Blk.new (w.alloc (.cells #[.string Fs, .string R] 25)) 22 Z; simpa using this
  have htl : (textM d ps).length < 1099511627776 := by simp only [textM, List.length_cons]; omega
  have hsl : (bv (sha (textM d ps))).length = 32 := by rw [bv_length, sha_length]
  have HP := Lib.hid hp
  have HZL := Lib.hid hzl
  clear hp hzl
  go_enter Try.func35, Try.ntmps35
  go_wp2_with (first
    | (refine wpList_alloc _ rfl 22 rfl _ hz ?_)
    | fail)
  generalize ((w.alloc (.cells #[.string Fs, .string R] 25)).alloc (.cells Z.toArray 22)) = W0 at *
  have hT : ∀ W', Ext W0 W' → Calls Try.prog 46 #[.int .u8 d.toNat, v] W' fun e w' => ∃ v', e = .returned v' ∧ OwnB w' v' (textM d ps) ∧ Ext W' w' := fun W' hx =>
    (Ref_Text d v ps W' F ((hx0.trans hx).holds hF HP.out) (fun b hb => Nat.lt_of_lt_of_le (hF b hb) (hx0.trans hx).size) (by omega)).mono (by rintro e w' ⟨v', rfl, h1, h2⟩; exact ⟨v', rfl, h1, Fresh.ext h2⟩)
  have HT := Lib.hid hT
  have HBOX := Lib.hid hbox0
  have HRES := Lib.hid hres0
  have HX0 := Lib.hid hx0
  have HSL := Lib.hid hsl
  have hso := bv_one (sha (textM d ps))
  clear hT hbox0 hres0 hx0 hsl hz
  have hS : ∀ w' : World, W0.grownBy w' (some (w.heap.size + 1)) → w'.cell? ⟨w.heap.size, 0, none⟩ = some (Value.string Fs) ∧ w'.cell? ⟨w.heap.size, 1, none⟩ = some (Value.string R) := fun w' h => ⟨(HBOX.out.keep h (by simp)).cell 0, (HBOX.out.keep h (by simp)).cell 1⟩
  have HS := Lib.hid hS
  clear hS
  have hzl2 : (bv (sha (textM d ps))).length = Z.length := by rw [HSL.out, HZL.out]
  have hi32 : (Try.prog.info? 22).map (·.size) = some (bv (sha (textM d ps))).length := b32_size HSL.out
  go_region_held_law (fun w' => w'.cell? ⟨w.heap.size, 0, none⟩ = some (Value.string Fs) ∧ w'.cell? ⟨w.heap.size, 1, none⟩ = some (Value.string R))
    ((refine HS.out _ ?_; first | exact (Ext.drew (Ext.refl _)).any _ | exact (Ext.trans (Ext.drew (Ext.refl _)) (by assumption)).any _ | exact ((Ext.trans (Ext.drew (Ext.refl _)) (by assumption)).trans (by assumption)).any _ | (rw [setCells_row (by assumption) (by assumption) (by assumption) hso]; exact grown_then (Ext.any (by assumption) (some (w.heap.size + 1))) (setRow_only _) (.inl rfl)))) (first
    | (go_at_call 46; refine (HT.out _ (Ext.drew (Ext.refl _))).mono ?_; rintro e W1 ⟨vt, rfl, hot, hxt⟩)
    | (go_at_call 38; refine (Ref_Of Fs R _ (textM d ps) _ _ hFs hR (OwnB.holds (by assumption)) (OwnB.lt (by assumption)) htl).mono ?_; rintro e W2 ⟨rfl, hx2⟩; have hx3 := (Ext.drew (Ext.refl _)).trans (hxt.trans hx2); have hrs2 := HRES.out.keep hx3 (by simp); have hth := blk_there hrs2 (hzl2); have hin := hi32))
  rw [setCells_row (by assumption) (by assumption) (by assumption) hso]
  have hc : Cells (W2.setRow (w.heap.size + 1) (bv (sha (textM d ps))).toArray) ⟨w.heap.size + 1, 0, none⟩ (bv (sha (textM d ps))) := Blk.cells (t := 22) (setRow_at hrs2)
  go_wp2_with fail
  (try simp only [Exit.inBlock, Exit.then])
  refine bodyPost_ret (results_agg rfl _ _ _ _ _ rfl Try.underlying22 rfl hi32 hc) rfl ?_
  exact ⟨rfl, setRow_grown (HX0.out.trans hx3) _ _ (by omega)⟩
end Go.Proofs.Ytfoomnibfibfnaa
