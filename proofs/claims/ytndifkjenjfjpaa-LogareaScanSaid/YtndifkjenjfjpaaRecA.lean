/-
  WHAT IS SHOWN: a block is equal to itself. Conditions: none.
-/
import Derived.ChangeKeysEq
import Derived.Test.YtndifkjenjfjpaaRec28
namespace Go.Proofs.Ytndifkjenjfjpaa
set_option linter.unusedVariables false
open Go.RowKit

theorem blk_eq (W : World) (d0 d1 d2 d3 d4 d5 d6 d7 : Int) : (Op.equalIn 9999 75 (.agg #[.int .u8 d0, .int .u8 d1, .int .u8 d2, .int .u8 d3, .int .u8 d4, .int .u8 d5, .int .u8 d6, .int .u8 d7]) (.agg #[.int .u8 d0, .int .u8 d1, .int .u8 d2, .int .u8 d3, .int .u8 d4, .int .u8 d5, .int .u8 d6, .int .u8 d7])).run Try.prog W = .ok true W := by
  obtain ⟨i0, hi, hz0, hz1, hz2⟩ := info_parts info_u8
  have hc : Try.prog.cellsOf 5 = 1 := by kernel_rfl
  have hr : List.range 8 = [0, 1, 2, 3, 4, 5, 6, 7] := rfl
  rw [show (9999 : Nat) = 9998 + 1 from rfl, run_equalIn_array W 9998 _ _ Try.underlying75 hi, hc, hr]
  simp [Op.eqItems, part, go_sem, Try.underlying5]
end Go.Proofs.Ytndifkjenjfjpaa
