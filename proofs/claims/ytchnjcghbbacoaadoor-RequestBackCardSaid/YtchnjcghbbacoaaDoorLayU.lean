/- Bytes of numbers, sizes of parts: shared by the Lays. No condition. -/
import Derived.Test.YtchnjcghbbacoaaDoorLat
set_option linter.unusedVariables false
set_option linter.unusedSimpArgs false
set_option linter.unnecessarySimpa false
namespace Go.Proofs.YtchnjcghbbacoaaDoor
open Go.RowKit

/-- The byte that is made of a number. -/
def byteOf (n : Int) : UInt8 := UInt8.ofNat (n % 256).toNat
theorem byteOf_eq (n : Int) : ((byteOf n).toNat : Int) = n % 256 := by
  have h1 : 0 ≤ n % 256 := Int.emod_nonneg _ (by decide)
  have h2 : n % 256 < 256 := Int.emod_lt_of_pos _ (by decide)
  simp only [byteOf, UInt8.toNat_ofNat']
  omega
theorem u8_sizeU : (Tryd.prog.info? 5).map (·.size) = some 1 := by kernel_rfl
theorem u8_zeroU : ((Tryd.prog.info? 5).bind (·.zero)).isSome = true := by kernel_rfl
theorem szDg {n : Nat} (h : n = 32) : (Tryd.prog.info? 48).map (·.size) = some n := by subst h; kernel_rfl
theorem zDg : ((Tryd.prog.info? 48).bind (·.zero)).isSome = true := by kernel_rfl
end Go.Proofs.YtchnjcghbbacoaaDoor
