/- The mill's example: the sum of 'abc'. No condition. -/
import Derived.Test.YtklljkfnlakdaaaOf
import Derived.Lib.SlBytesConst
set_option linter.unusedVariables false
set_option linter.unusedSimpArgs false
set_option linter.unnecessarySimpa false
namespace Go.Proofs.Ytklljkfnlakdaaa
open Go.RowKit

def abcK : List UInt8 := [186, 120, 22, 191, 143, 1, 207, 234, 65, 65, 64, 222, 93, 174, 34, 35, 176, 3, 97, 163, 150, 23, 122, 156, 180, 16, 255, 97, 242, 0, 21, 173]
theorem sha_abc : sha [97, 98, 99] = abcK := by decide +kernel
set_option maxHeartbeats 400000 in
theorem awake_true (w : World) : Calls Try.prog 9 #[] w fun e w' => e = .returned (.bool true) ∧ Ext w w' := by
  have hz : (Try.prog.info? 25).bind (fun i => i.zero.map (·.cells)) = some (bv (List.replicate 32 0)).toArray := digest_zero
  have hzl : (bv (List.replicate 32 0)).length = 32 := by simp
  generalize bv (List.replicate 32 0) = Z at hz hzl
  have kc := fun (w : World) (C : Array Value) (n c : Nat) => Lib.run_convert_bytes_const (P := Try.prog) w 22 5 C n c Try.underlying22 Try.underlying5
  go_enter Try.func9, Try.ntmps9
  go_wp2_with fail
  have hb := bytes_new (w := w) (bs := [97, 98, 99]) (T := 5) (fr := (3, 4)) (n := 3) rfl rfl (by simp [maxLen])
  have hv := parts_new (w := w.alloc (.cells (bv [97, 98, 99]).toArray 5 (3, 4))) (G := w.heap.size + 1) (n := 1) (T := 22) (by simp) rfl (by simp [maxLen]) (AllH.one (R := (Ty.sl .u8).holds _ _) hb) (by rintro b rfl; simp)
  refine (Of _ [[97, 98, 99]] _ _ hv (by rintro b (rfl | rfl) <;> simp <;> omega) (by simp)).mono ?_
  rintro e w1 ⟨rfl, hx⟩
  have hx1 : Ext w w1 := (((Ext.refl w).alloc _).alloc _).trans hx
  rw [show [[97, 98, 99]].flatMap id = [97, 98, (99 : UInt8)] from rfl, sha_abc]
  clear hb hv hx
  go_wp2_with (first
    | (refine wpList_alloc _ rfl 25 rfl _ hz ?_)
    | (refine wpList_store_new _ rfl 25 (.tmp 1) (.tmp 5) rfl rfl Z (bv abcK) _ rfl (by kernel_rfl) (by rw [hzl]; rfl) (bv_one _) ?_; unfold bv abcK)
    | fail)
  go_ret
  exact ⟨rfl, hx1.alloc _⟩

/-! ### Sums in whatever world has grown -/
theorem sum_any {w : World} {g : Nat} {B : List UInt8} (hm : MillAt w g B) (hb : B.length < 576460752303423488) : ∀ w', Ext w w' → Calls Try.prog 15 #[.pointer (some ⟨g, 0, none⟩)] w' fun e w'' => e = .returned (.agg (bv (sha B)).toArray) ∧ Ext w' w'' :=
  fun w' hx => Sum g B w' (hm.keep hx (by simp)) hb
theorem of_one {w : World} {v : Value} {bs : List UInt8} (ho : OwnB w v bs) (hb : bs.length < 576460752303423488) : ∀ (G : Nat) (w' w'' : World), Ext w w' → w'.heap.size = G → Ext (w'.alloc (.cells #[v] 22)) w'' →
    Calls Try.prog 10 #[.slice (some ⟨G, 0, none⟩) 1 1] w'' fun e w3 => e = .returned (.agg (bv (sha bs)).toArray) ∧ Ext w'' w3 := by
  intro G w' w'' hx hG hx2
  have h1 := (ho.ext hx).holds
  have hlt := (ho.ext hx).lt
  have h2 := parts_new (w := w') (T := 22) (n := 1) hG rfl (by simp [maxLen]) (AllH.one (R := (Ty.sl .u8).holds _ _) h1) hlt
  have hF : ∀ b, (v.ownBlock = some b ∨ b = G) → b < (w'.alloc (.cells #[v] 22)).heap.size := by
    rintro b (hb | rfl)
    · have := hlt b hb; simp; omega
    · simp; omega
  have h3 := hx2.holds hF h2
  have := Of _ [bs] w'' _ h3 (fun b hb => Nat.lt_of_lt_of_le (hF b hb) hx2.size) (by simpa using hb)
  simpa using this
theorem ne_self {t : TypeId} (hg : Try.prog.eqGuardType Try.prog.depth t = false) (ht : Try.prog.underlying t = some (.array 32 5)) (D : List UInt8) (hD : D.length = 32) :
    (∀ (x y : Operand) (w : World), (eqGuard .neq t x y (.agg (bv D).toArray) (.agg (bv D).toArray)).run Try.prog w = .ok () w) ∧ ∀ w, (binOp .neq t (.agg (bv D).toArray) (.agg (bv D).toArray)).run Try.prog w = .ok (.bool false) w :=
  ⟨fun x y w => run_eqGuard w .neq t x y _ _ (.inr rfl) hg, fun w => by have := run_neD w t 5 32 ht Try.underlying5 (by kernel_rfl) D D hD hD; simpa using this⟩
theorem eq_self {t : TypeId} (hg : Try.prog.eqGuardType Try.prog.depth t = false) (ht : Try.prog.underlying t = some (.array 32 5)) (D : List UInt8) (hD : D.length = 32) :
    (∀ (x y : Operand) (w : World), (eqGuard .eql t x y (.agg (bv D).toArray) (.agg (bv D).toArray)).run Try.prog w = .ok () w) ∧ ∀ w, (binOp .eql t (.agg (bv D).toArray) (.agg (bv D).toArray)).run Try.prog w = .ok (.bool true) w :=
  ⟨fun x y w => run_eqGuard w .eql t x y _ _ (.inl rfl) hg, fun w => by have := run_eqD w t 5 32 ht Try.underlying5 (by kernel_rfl) D D hD hD; simpa using this⟩
end Go.Proofs.Ytklljkfnlakdaaa
