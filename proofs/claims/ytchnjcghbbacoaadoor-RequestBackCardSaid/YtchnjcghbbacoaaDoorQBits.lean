/- Shifts and masks of small numbers, for the walk. No condition but what each names. -/
import Derived.Test.YtchnjcghbbacoaaDoorByt
import Derived.Test.YtchnjcghbbacoaaDoorDst
set_option linter.unusedVariables false
set_option linter.unusedSimpArgs false
set_option linter.unnecessarySimpa false
namespace Go.Proofs.YtchnjcghbbacoaaDoor
open Go.RowKit

/-- An operation on two values, its run known. -/
theorem wpList_binV {P : Program} {w : World} {ops : Array Oper} {rest : List Oper} {o : Oper} {a : Act} {Q : Exit → Act → World → Prop} (hgd : o.guard = none ∨ Region.wanted o (yielded ops a.tmps) = true) (op : BinOp) (t : TypeId) {t' : TypeId} (x y : Operand) (ho : o.op = .binOp op t x y t') (u v : Value) {r : Value} (hx : a.eval x = u) (hy : a.eval y = v)
    (hg : (eqGuard op t x y u v).run P w = .ok () w) (hb : (binOp op t u v).run P w = .ok r w) (h : wpList P ops Q rest (a.put o.dst r) w) : wpList P ops Q (o :: rest) a w :=
  wpList_want hgd fun K hK => by
    unfold Oper.wp execOp
    simp only [ho, hx, hy, Sem.run_bind, hg, hb, Result.andThen_ok, Sem.run_pure]
    exact hK _ _ h
section
variable (P : Program) (w : World)
theorem run_shrN (t : TypeId) (k yk : IntKind) (x h : Nat) (hh : h ≤ k.bits) : (binOp .shr t (.int k (x : Int)) (.int yk (h : Int))).run P w = .ok (.int k ((x / 2 ^ h : Nat) : Int)) w := by
  show (Op.shift .shr k (x : Int) yk (h : Int)).run P w = _
  unfold Op.shift
  rw [if_neg (by omega)]
  simp only [Int.toNat_natCast, Nat.min_eq_left hh, Sem.run_pure]
  congr 2
  rw [Int.fdiv_eq_ediv_of_nonneg _ (by exact_mod_cast Nat.zero_le (2 ^ h))]
  norm_cast
theorem run_shlN (t : TypeId) (k yk : IntKind) (x h : Nat) (hh : h ≤ k.bits) (hk : k.wrap ((x * 2 ^ h : Nat) : Int) = ((x * 2 ^ h : Nat) : Int)) : (binOp .shl t (.int k (x : Int)) (.int yk (h : Int))).run P w = .ok (.int k ((x * 2 ^ h : Nat) : Int)) w := by
  show (Op.shift .shl k (x : Int) yk (h : Int)).run P w = _
  unfold Op.shift
  rw [if_neg (by omega)]
  simp only [Int.toNat_natCast, Nat.min_eq_left hh, Sem.run_pure]
  congr 2
end
theorem wrap64_nat (n : Nat) (h : n < 9223372036854775808) : IntKind.i64.wrap (n : Int) = (n : Int) := by
  simp [IntKind.wrap, IntKind.bits, IntKind.signed]; omega
theorem wrap32_nat (n : Nat) (h : n < 4294967296) : IntKind.u32.wrap (n : Int) = (n : Int) := by
  simp [IntKind.wrap, IntKind.bits, IntKind.signed]; omega
theorem bv64_nat (a : Nat) (h : a < 18446744073709551616) : (BitVec.ofInt 64 (a : Int)).toNat = a := by
  rw [BitVec.ofInt_natCast, BitVec.toNat_ofNat]; exact Nat.mod_eq_of_lt (by omega)
theorem bv32_nat (a : Nat) (h : a < 4294967296) : (BitVec.ofInt 32 (a : Int)).toNat = a := by
  rw [BitVec.ofInt_natCast, BitVec.toNat_ofNat]; exact Nat.mod_eq_of_lt (by omega)
/-- 'n & (1<<h - 1)'. -/
theorem and_mask (n h : Nat) (hh : h ≤ 62) (hn : n < 9223372036854775808) : bits .and .i64 (n : Int) ((2 ^ h - 1 : Nat) : Int) = ((n % 2 ^ h : Nat) : Int) := by
  have hp : 2 ^ h ≤ 2 ^ 62 := Nat.pow_le_pow_right (by omega) hh
  show IntKind.i64.wrap ((BitVec.ofInt 64 (n : Int) &&& BitVec.ofInt 64 ((2 ^ h - 1 : Nat) : Int)).toNat : Int) = _
  rw [BitVec.toNat_and, bv64_nat n (by omega), bv64_nat _ (by omega), Nat.and_two_pow_sub_one_eq_mod]
  exact wrap64_nat _ (Nat.lt_of_le_of_lt (Nat.mod_le _ _) hn)
/-- 'n<<8 | b'. -/
theorem or_byte (n : Nat) (b : Nat) (hb : b < 256) (hn : n < 9007199254740992) : bits .or .i64 ((n * 2 ^ 8 : Nat) : Int) (b : Int) = ((n * 256 + b : Nat) : Int) := by
  have h := Nat.shiftLeft_add_eq_or_of_lt (i := 8) (b := b) hb n
  rw [Nat.shiftLeft_eq] at h
  show IntKind.i64.wrap ((BitVec.ofInt 64 ((n * 2 ^ 8 : Nat) : Int) ||| BitVec.ofInt 64 (b : Int)).toNat : Int) = _
  rw [BitVec.toNat_or, bv64_nat _ (by omega), bv64_nat _ (by omega), ← h]
  exact wrap64_nat _ (by omega)
theorem and32 (n m : Nat) (hn : n < 4294967296) (hm : m < 4294967296) : bits .and .u32 (n : Int) (m : Int) = ((n &&& m : Nat) : Int) := by
  show IntKind.u32.wrap ((BitVec.ofInt 32 (n : Int) &&& BitVec.ofInt 32 (m : Int)).toNat : Int) = _
  rw [BitVec.toNat_and, bv32_nat n hn, bv32_nat m hm]
  exact wrap32_nat _ (Nat.lt_of_le_of_lt Nat.and_le_left hn)
theorem xor32 (n m : Nat) (hn : n < 4294967296) (hm : m < 4294967296) : bits .xor .u32 (n : Int) (m : Int) = ((n ^^^ m : Nat) : Int) := by
  show IntKind.u32.wrap ((BitVec.ofInt 32 (n : Int) ^^^ BitVec.ofInt 32 (m : Int)).toNat : Int) = _
  rw [BitVec.toNat_xor, bv32_nat n hn, bv32_nat m hm]
  exact wrap32_nat _ (Nat.xor_lt_two_pow (n := 32) hn hm)
theorem xor64 (n m : Nat) (hn : n < 4294967296) (hm : m < 4294967296) : bits .xor .i64 (n : Int) (m : Int) = ((n ^^^ m : Nat) : Int) := by
  have := Nat.xor_lt_two_pow (n := 32) hn hm
  show IntKind.i64.wrap ((BitVec.ofInt 64 (n : Int) ^^^ BitVec.ofInt 64 (m : Int)).toNat : Int) = _
  rw [BitVec.toNat_xor, bv64_nat n (by omega), bv64_nat m (by omega)]
  exact wrap64_nat _ (by omega)
end Go.Proofs.YtchnjcghbbacoaaDoor
