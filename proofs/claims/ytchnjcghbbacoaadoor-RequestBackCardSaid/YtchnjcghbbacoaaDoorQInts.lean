/- Slices of ints, division, and the bits of a list. No condition but what each names. -/
import Derived.Test.YtchnjcghbbacoaaDoorQBits
import Derived.Test.YtchnjcghbbacoaaDoorQFives
import Derived.Test.YtchnjcghbbacoaaDoorQModel
set_option linter.unusedVariables false
set_option linter.unusedSimpArgs false
set_option linter.unnecessarySimpa false
namespace Go.Proofs.YtchnjcghbbacoaaDoor
open Go.RowKit

theorem int_info : (Tryd.prog.info? 3).map (fun i => (i.zero, i.size, i.bytes)) = some (some (.int .i64 0), 1, 8) := by kernel_rfl
def iv (l : List Nat) : List Value := l.map fun (n : Nat) => .int .i64 (n : Int)
@[simp] theorem iv_length (l : List Nat) : (iv l).length = l.length := by simp [iv]
theorem iv_one (l : List Nat) : ∀ u ∈ iv l, u.oneCell' = true := by
  intro u hu
  obtain ⟨n, _, rfl⟩ := List.mem_map.1 hu
  rfl
theorem iv_at {l : List Nat} {k x : Nat} (h : l[k]? = some x) : (iv l)[k]? = some (.int .i64 (x : Int)) := by simp [iv, h]
def OwnI (w : World) (v : Value) (l : List Nat) : Prop := Own w 3 1 v l.length (iv l)
theorem OwnI.nil (w : World) : OwnI w (.slice none 0 0) [] := Own.nil _ _ _
theorem OwnI.put {w : World} {v : Value} {l : List Nat} {n : Nat} (h : Own w 3 1 v (l.length + 1) (iv l ++ [.int .i64 (n : Int)])) : OwnI w v (l ++ [n]) := by
  unfold OwnI
  simpa [iv] using h
theorem OwnI.app {w : World} {v : Value} {a b : List Nat} (h : Own w 3 1 v (a.length + b.length) (iv a ++ iv b)) : OwnI w v (a ++ b) := by
  unfold OwnI
  simpa [iv] using h
theorem OwnI.form {w : World} {v : Value} {l : List Nat} (h : OwnI w v l) : ∃ A c, v = .slice A l.length c := Own.form h
theorem OwnI.src {w : World} {A : Option Addr} {n c : Nat} {l : List Nat} (hn : l.length = n) (h : OwnI w (.slice A n c) l) : Src w A n (iv l) := by
  subst hn
  exact own_src h
theorem OwnI.ext {w w' : World} {v : Value} {l : List Nat} (h : OwnI w v l) (hg : Ext w w') : OwnI w' v l := Own.ext h hg
theorem OwnI.lt {w : World} {v : Value} {l : List Nat} (h : OwnI w v l) : ∀ g, v.ownBlock = some g → g < w.heap.size := fun g hg => (World.ownsRow.lt h g hg).2
theorem Src.ext {w w' : World} {A : Option Addr} {m : Nat} {news : List Value} (h : Src w A m news) (hn : m ≠ 0 → news ≠ []) (hx : Ext w w') : Src w' A m news := fun hm => by
  obtain ⟨ad, e, hc⟩ := h hm
  exact ⟨ad, e, hc.keep (hx.block _ (hc.lt (hn hm)) (by simp))⟩
theorem run_quoN (P : Program) (t : TypeId) (a b : Nat) (hb : 0 < b) (ha : a < 9223372036854775808) (w : World) : (binOp .quo t (.int .i64 (a : Int)) (.int .i64 (b : Int))).run P w = .ok (.int .i64 ((a / b : Nat) : Int)) w := by
  have e : IntKind.i64.wrap ((a : Int).tdiv (b : Int)) = ((a / b : Nat) : Int) := by
    rw [← Int.ofNat_tdiv]
    exact wrap64_nat _ (Nat.lt_of_le_of_lt (Nat.div_le_self _ _) ha)
  show (Op.intDiv .quo .i64 (a : Int) (b : Int)).run P w = _
  have hb0 : ¬ (b : Int) = 0 := by omega
  unfold Op.intDiv
  rw [if_neg hb0]
  simp only [Sem.run_pure, e]
theorem run_remN (P : Program) (t : TypeId) (a b : Nat) (hb : 0 < b) (ha : a < 9223372036854775808) (w : World) : (binOp .rem t (.int .i64 (a : Int)) (.int .i64 (b : Int))).run P w = .ok (.int .i64 ((a % b : Nat) : Int)) w := by
  have e : (a : Int).tmod (b : Int) = ((a % b : Nat) : Int) := (Int.ofNat_tmod a b).symm
  show (Op.intDiv .rem .i64 (a : Int) (b : Int)).run P w = _
  have hb0 : ¬ (b : Int) = 0 := by omega
  unfold Op.intDiv
  rw [if_neg hb0]
  simp only [Sem.run_pure, e]
theorem run_addN (P : Program) (t : TypeId) (a b : Nat) (h : a + b < 9223372036854775808) (w : World) : (binOp .add t (.int .i64 (a : Int)) (.int .i64 (b : Int))).run P w = .ok (.int .i64 ((a + b : Nat) : Int)) w := by
  have e : IntKind.i64.wrap ((a : Int) + (b : Int)) = ((a + b : Nat) : Int) := by
    have := wrap64_nat (a + b) h
    rw [← this]; congr 1
  show (Op.intArith .add .i64 (a : Int) (b : Int)).run P w = _
  simp [Op.intArith, e]
/-- The bit at a place. -/
theorem bitsOf_at : ∀ (k n i : Nat), i < k → (bitsOf k n)[i]? = some (n / 2 ^ (k - 1 - i) % 2)
  | 0, _, _, h => by omega
  | k + 1, n, 0, _ => by simp [bitsOf]
  | k + 1, n, i + 1, h => by
    rw [bitsOf, List.getElem?_cons_succ, bitsOf_at k n i (by omega)]
    congr 3
    congr 1
    omega
theorem bitsOf_take (k n i : Nat) (h : i < k) : (bitsOf k n).take (i + 1) = (bitsOf k n).take i ++ [n / 2 ^ (k - 1 - i) % 2] := by
  rw [List.take_add_one, bitsOf_at k n i h]; rfl
/-- A list of bits, filled up with zeros. -/
def padL (l : List Nat) (m : Nat) : List Nat := (List.range m).map fun k => l.getD k 0
theorem padL_succ (l : List Nat) (m : Nat) : padL l (m + 1) = padL l m ++ [l.getD m 0] := by simp [padL, List.range_succ]
theorem padL_full (l : List Nat) (m : Nat) (h : l.length ≤ m) : padL l m = l ++ List.replicate (m - l.length) 0 := by
  apply List.ext_getElem?
  intro i
  rw [padL, List.getElem?_map]
  by_cases hi : i < m
  · rw [List.getElem?_range hi]
    by_cases hl : i < l.length
    · rw [List.getElem?_append_left hl]; simp [hl]
    · rw [List.getElem?_append_right (by omega), List.getElem?_replicate, if_pos (by omega)]
      simp [hl]
  · rw [List.getElem?_eq_none (by simp; omega), List.getElem?_eq_none (by simp; omega)]; rfl
end Go.Proofs.YtchnjcghbbacoaaDoor
