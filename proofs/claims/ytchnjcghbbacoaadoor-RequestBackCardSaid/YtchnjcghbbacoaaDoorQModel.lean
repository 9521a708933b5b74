/- A request as a value, and what it comes to. No program's walk here. Conditions: none. -/
import Derived.Test.YtchnjcghbbacoaaDoorQPure
import Derived.Test.YtchnjcghbbacoaaDoorByt
set_option linter.unusedVariables false
set_option linter.unusedSimpArgs false
set_option linter.unnecessarySimpa false
namespace Go.Proofs.YtchnjcghbbacoaaDoor

/-- To, Amount, Expiry, Hash, Note. -/
abbrev Rq := UInt8 × Nat × Nat × List UInt8 × ByteArray
def rqTy : Ty := .st (.pair .u8 (.pair (.nat .u64) (.pair (.nat .u64) (.pair (.arr 32 .u8) (.pair .str .unit)))))
def rqC (r : Rq) : List Value := .int .u8 (r.1.toNat : Int) :: .int .u64 (r.2.1 : Int) :: .int .u64 (r.2.2.1 : Int) :: (bv r.2.2.2.1 ++ [.string r.2.2.2.2])
structure RqOk (r : Rq) : Prop where
  am : (Lit.int .u64 (r.2.1 : Int)).wf = true
  ex : (Lit.int .u64 (r.2.2.1 : Int)).wf = true
  hash : r.2.2.2.1.length = 32
  note : r.2.2.2.2.size ≤ maxLen
theorem rq_open {w : World} {F : Fp} {x : rqTy.Data} {cs : List Value} (h : rqTy.holds w F cs x) : ∃ r : Rq, cs = rqC r ∧ RqOk r := by
  obtain ⟨c1, _, rfl, rfl, c2, _, rfl, ⟨rfl, ham⟩, c3, _, rfl, ⟨rfl, hex⟩, c4, _, rfl, ⟨hl, hb⟩, c5, _, rfl, ⟨rfl, hn⟩, rfl⟩ := h
  obtain rfl := AllH.bytes.1 hb
  exact ⟨(x.1, x.2.1, x.2.2.1, x.2.2.2.1, x.2.2.2.2.1), rfl, ham, hex, hl, hn⟩
theorem rqC_length {r : Rq} (h : RqOk r) : (rqC r).length = 36 := by simp [rqC, h.hash]
theorem rqC_note {r : Rq} (h : RqOk r) : (rqC r)[35]? = some (.string r.2.2.2.2) := by
  show (bv r.2.2.2.1 ++ [Value.string r.2.2.2.2])[32]? = _
  rw [List.getElem?_append_right (by rw [bv_length, h.hash]; omega), bv_length, h.hash]
  rfl
theorem rqC_hash {r : Rq} (h : RqOk r) : ((rqC r).drop 3).take 32 = bv r.2.2.2.1 := List.take_left' (by rw [bv_length, h.hash])
def rightR (r : Rq) : Bool := decide (0 < r.2.1) && decide (r.2.2.2.2.size ≤ 100)
def noteL (r : Rq) : List UInt8 := r.2.2.2.2.data.toList
def bytesR (r : Rq) : List UInt8 := r.1 :: (be 8 r.2.1 ++ be 8 r.2.2.1 ++ r.2.2.2.1 ++ blob (noteL r))
theorem noteL_length (r : Rq) : (noteL r).length = r.2.2.2.2.size := by unfold noteL; rw [Array.length_toList]; rfl
theorem bytesR_length {r : Rq} (h : RqOk r) : (bytesR r).length = 53 + r.2.2.2.2.size := by
  simp [bytesR, be_length, h.hash, blob, noteL_length]; omega
theorem sixOf_lt (s : Nat) : ∀ x ∈ sixOf s, x < 32 := fun x hx => by
  obtain ⟨i, _, rfl⟩ := List.mem_map.1 hx
  exact Nat.mod_lt _ (by decide)
theorem wf_ltQ {n : Nat} (h : (Lit.int .u64 (n : Int)).wf = true) : n < 18446744073709551616 := by have := bounds_u64 h; omega
theorem addr_atQ (g n : Nat) : (⟨g, 0, none⟩ : Addr).add n = ⟨g, n, none⟩ := by unfold Addr.add; split <;> simp_all
end Go.Proofs.YtchnjcghbbacoaaDoor
