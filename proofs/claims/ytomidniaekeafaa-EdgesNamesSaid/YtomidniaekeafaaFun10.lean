/- free, alone. -/
import Derived.Test.YtomidniaekeafaaFun9
namespace Go.Proofs.YtomidniaekeafaaAbs
set_option linter.unusedSimpArgs false
set_option linter.unusedVariables false
open Go Go.RowKit Go.Proofs
set_option maxRecDepth 100000
set_option maxHeartbeats 4000000
theorem free32_raw : CallsOK Try.prog 32 [] (.agg [.row 0 1]) [(66, [.v (.slice none 0 0)])] := by
  refine callsOK mixed Try.call32 Try.func32 rfl (by rw [Try.ntmps32]; simp) ?_ rfl
  rw [Try.ntmps32]
  repeat with_reducible refine aw_assoc ?_
  first | with_reducible refine aw_region0 fun K' hK => ?_ | with_reducible refine aw_toS (aw_region0 fun K' hK => ?_)
  simp []
  refine hK _ _ _ ?_
  clear K' hK
  repeat with_reducible refine aw_assoc ?_
  first | with_reducible refine aw_region0 fun K' hK => ?_ | with_reducible refine aw_toS (aw_region0 fun K' hK => ?_)
  simp [List.range_succ]
  refine hK _ _ _ ?_
  clear K' hK
  repeat with_reducible refine aw_assoc ?_
  first | with_reducible refine aw_ret ?_ | with_reducible refine aw_retL ?_ | with_reducible refine aw_skipL ?_
  simp [blockK, loopK, Post, resA, res1, expT, expA, exp1, expM, expL, okT, okA, ok1, rowOf, Try.f32, getC]
theorem free32_ok : CallsOK Try.prog 32 [] (.agg [.row 0 1]) [(66, flat Alt.cells [[]])] :=
  free32_raw.weakJ (.cons .nil .nil)
def aloneB (n : Int) : Bd := ⟨1, n, 0, 0, ⟨#[]⟩⟩
theorem alone33_ok (n : Int) : CallsOK Try.prog 33 [iV n] (.agg [.row 0 1]) [(66, flat Alt.cells [[aloneB n]])] := by
  refine callsOK mixed Try.call33 Try.func33 rfl (by rw [Try.ntmps33]; simp) ?_ rfl
  rw [Try.ntmps33]
  repeat with_reducible refine aw_assoc ?_
  first | with_reducible refine aw_region0 fun K' hK => ?_ | with_reducible refine aw_toS (aw_region0 fun K' hK => ?_)
  simp []
  refine hK _ _ _ ?_
  clear K' hK
  repeat with_reducible refine aw_assoc ?_
  first | with_reducible refine aw_region0 fun K' hK => ?_ | with_reducible refine aw_toS (aw_region0 fun K' hK => ?_)
  simp [List.range_succ, treeOf_row, frzOf_row]
  refine hK _ _ _ ?_
  clear K' hK
  repeat with_reducible refine aw_assoc ?_
  first | with_reducible refine aw_ret ?_ | with_reducible refine aw_retL ?_ | with_reducible refine aw_skipL ?_
  simp [blockK, loopK, Post, resA, res1, expT, expA, exp1, expM, expL, okT, okA, ok1, rowOf, Try.f33, getC, flat, Alt.cells, rowT, aloneB, Bd.cells]
end Go.Proofs.YtomidniaekeafaaAbs
