/- A signature and a digest among a law's arguments: their bytes. No condition. -/
import Derived.Test.YtfoomnibfibfnaaOpen
set_option linter.unusedVariables false
set_option linter.unusedSimpArgs false
set_option linter.unnecessarySimpa false
namespace Go.Proofs.Ytfoomnibfibfnaa
open Go.RowKit

def PieceT : Ty := .arr 16 .u8
def SigT : Ty := .st (.pair (.arr 32 PieceT) (.pair (.arr 32 PieceT) .unit))
def DigT4 : Ty := .arr 32 .u8
def zSigC : List Value := bv (List.replicate 1024 0)
def zDigC : List Value := bv (List.replicate 32 0)
theorem agg_cells4 (cs : List Value) : (Value.agg cs.toArray).cells.toList = cs := by simp [Value.cells]
theorem pieces_bytes {w : World} {F : Fp} : ∀ {l : List (List UInt8)} {cs : List Value}, AllH (PieceT.holds w F) cs l → ∃ B : List UInt8, cs = bv B
  | [], _, h => ⟨[], h⟩
  | p :: l, _, h => by
    obtain ⟨c1, c2, rfl, h1, h2⟩ := h
    obtain ⟨B, rfl⟩ := pieces_bytes h2
    exact ⟨p ++ B, by rw [bv_append, AllH.bytes.1 h1.2]⟩
theorem sig_open {w : World} {F : Fp} {cs : List Value} {sg : SigT.Data} (h : SigT.holds w F (Value.agg cs.toArray).cells.toList sg) : ∃ S : List UInt8, cs = bv S ∧ S.length = 1024 := by
  rw [agg_cells4] at h
  have hl := Ty.len SigT h
  obtain ⟨c1, _, rfl, ⟨_, h1⟩, c2, _, rfl, ⟨_, h2⟩, rfl⟩ := h
  obtain ⟨B1, rfl⟩ := pieces_bytes h1
  obtain ⟨B2, rfl⟩ := pieces_bytes h2
  refine ⟨B1 ++ B2, by rw [bv_append, List.append_nil], ?_⟩
  rw [List.append_nil, List.length_append, bv_length, bv_length] at hl
  rw [List.length_append]; exact hl
theorem dig_open {w : World} {F : Fp} {cs : List Value} {d : DigT4.Data} (h : DigT4.holds w F (Value.agg cs.toArray).cells.toList d) : ∃ S : List UInt8, cs = bv S ∧ S.length = 32 := by
  rw [agg_cells4] at h
  exact ⟨d, AllH.bytes.1 h.2, h.1⟩
end Go.Proofs.Ytfoomnibfibfnaa
