/- The chain's further links: an 'append', and the document's Num. No condition but what each names. -/
import Derived.Test.YtemladlnpaaefaaLat
import Derived.Test.YtemladlnpaaefaaRef1
set_option linter.unusedVariables false
set_option linter.unusedSimpArgs false
set_option linter.unnecessarySimpa false
namespace Go.Proofs.Ytemladlnpaaefaa
open Go.RowKit

section
variable {g : Nat} {w0 w : World} {v0 cur : Value} {bs : List UInt8} {xs : List Item}
theorem CJ.appS (h : CJ g w0 v0 cur bs xs w) {o : Oper} {a : Act} {K : Act → World → Prop} {Q : Exit → Act → World → Prop} (s p : Operand) (t t' : TypeId) (ho : o.op = .call { callee := .builtin .append, args := #[s, p], argTypes := #[t, t'] })
    (ht : Try.prog.underlying t = some (.slice 5)) (ht' : Try.prog.underlying t' = some (.slice 5)) (hs : a.eval s = cur) (A : Option Addr) (m c : Nat) (l : List UInt8) (hp : a.eval p = .slice A m c) (hm : l.length = m) (hsrc : Src w A m (bv l)) (hb : bs.length + m ≤ 140737488355328)
    (hk : ∀ v' W', CJ g w0 v0 v' (bs ++ l) xs W' → KeepB (fun b => b = g) w W' → K (a.put o.dst v') W') : o.wp Try.prog a w K Q := by
  obtain ⟨i0, hi, hz0, hz1, hz2⟩ := info_parts u8_info
  refine wp_app w s p t t' ho 5 5 i0 _ 1 1 ht ht' hi hz0 hz1 hz2 rfl (by decide) cur _ _ hs h.own A m c (bv l) hp (by rw [bv_length, hm]; omega) hsrc (bv_one _) (by unfold maxLen; omega) (by omega) ?_
  intro v' w' ho' hm'
  subst hm
  have h1 := h.call (OwnB.app ho') hm'
  exact hk v' w' h1.1 h1.2
theorem CJ.appI (h : CJ g w0 v0 cur bs xs w) {o : Oper} {a : Act} {K : Act → World → Prop} {Q : Exit → Act → World → Prop} (s p : Operand) (t t' : TypeId) (ho : o.op = .call { callee := .builtin .append, args := #[s, p], argTypes := #[t, t'] })
    (ht : Try.prog.underlying t = some (.slice 5)) (ht' : Try.prog.underlying t' = some (.slice 5)) (hs : a.eval s = cur) {l : List UInt8} {vl : Value} (hx : (⟨.u8, l, vl⟩ : Item) ∈ xs) (hp : a.eval p = vl) (hb : bs.length + l.length ≤ 140737488355328)
    (hk : ∀ v' W', CJ g w0 v0 v' (bs ++ l) xs W' → KeepB (fun b => b = g) w W' → K (a.put o.dst v') W') : o.wp Try.prog a w K Q := by
  have h1 : (Ty.sl .u8).holds w (fun b => vl.ownBlock = some b) [vl] l := (h.it _ hx).1.1
  obtain ⟨A, c, hv⟩ : ∃ A c, vl = .slice A l.length c := by
    obtain ⟨A, c, xs', hv, _⟩ := h1
    exact ⟨A, c, by simpa using hv⟩
  rw [hv] at hp h1
  exact h.appS s p t t' ho ht ht' hs A _ c l hp rfl (src_bytes h1) hb hk
theorem CJ.num (h : CJ g w0 v0 cur bs xs w) (n size : Nat) (hn : n < 18446744073709551616) (hs : size ≤ 8) (hb : bs.length + size ≤ 140737488355328) :
    Calls Try.prog 23 #[cur, .int .u64 (n : Int), .int .i64 (size : Int)] w fun e w' => ∃ v', e = .returned v' ∧ CJ g w0 v0 v' (bs ++ be size n) xs w' ∧ KeepB (fun b => b = g) w w' := by
  refine (Ref_Num cur bs n size w _ (OwnB.holds h.own) (OwnB.lt h.own) hn hs hb).mono ?_
  rintro e w' ⟨v', rfl, ho, hf⟩
  exact ⟨v', rfl, h.call ho (Fresh.moved hf cur)⟩
theorem CJ.num0 (h : CJ g w0 v0 cur [] xs w) (vb : Value) (ds : List UInt8) (F : Fp) (hd : (Ty.sl .u8).holds w F [vb] ds) (hF : ∀ b, F b → b < w.heap.size) (n size : Nat) (hn : n < 18446744073709551616) (hs : size ≤ 8) (hb : ds.length + size ≤ 140737488355328) :
    Calls Try.prog 23 #[vb, .int .u64 (n : Int), .int .i64 (size : Int)] w fun e w' => ∃ v', e = .returned v' ∧ CJ g w0 v0 v' (ds ++ be size n) xs w' ∧ KeepB (fun b => b = g) w w' := by
  refine (Ref_Num vb ds n size w F hd hF hn hs hb).mono ?_
  rintro e w' ⟨v', rfl, ho, hf⟩
  exact ⟨v', rfl, h.call ho (Fresh.moved hf cur)⟩
theorem CJ.blk (h : CJ g w0 v0 cur bs xs w) (hv : ∀ b, v0.ownBlock = some b → b ≠ g) : w.heap[g]? = w0.heap[g]? := h.mv.grown.block g h.lt (fun e => hv _ e.symm rfl)
theorem CJ.ext (h : CJ g w0 (.slice none 0 0) cur bs xs w) : Ext w0 w := h.mv.grown
end
end Go.Proofs.Ytemladlnpaaefaa
