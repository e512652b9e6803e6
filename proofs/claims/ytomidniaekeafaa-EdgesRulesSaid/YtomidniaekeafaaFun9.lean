/- large. -/
import Derived.Test.YtomidniaekeafaaFun8
namespace Go.Proofs.YtomidniaekeafaaAbs
set_option linter.unusedSimpArgs false
set_option linter.unusedVariables false
open Go Go.RowKit Go.Proofs
set_option maxRecDepth 100000
set_option maxHeartbeats 4000000
def zM (rules : List Ru) : Man := ⟨⟨#[]⟩, 0, 0, 0, ⟨#[]⟩, [], rules⟩
def zCells (rules : List Ru) : List AV := [sV ⟨#[]⟩, iV 0, iV 0, iV 0, sV ⟨#[]⟩, .v (.slice none 0 0), rowT Ru.cells rules]
theorem big22_z (rules : List Ru) : CallsOK Try.prog 22 [.agg (zCells rules)] (.v (.bool (bigM (zM rules)))) [] :=
  (big22_ok (zM rules)).weak (.cons (.agg (.cons (.refl _) (.cons (.refl _) (.cons (.refl _) (.cons (.refl _) (.cons (.refl _) (.cons .nilRow (.cons (.refl _) .nil)))))))) .nil)
def largeF (m : Man) (rules : List Ru) : Bool := bigM m || bigM (zM rules)
theorem large8_ok (m : Man) (rules : List Ru) : CallsOK Try.prog 8 [.agg m.cells, rowT Ru.cells rules] (.v (.bool (largeF m rules))) [] := by
  refine callsOK mixed Try.call8 Try.func8 rfl (by rw [Try.ntmps8]; simp) ?_ rfl
  rw [Try.ntmps8]
  repeat with_reducible refine aw_assoc ?_
  first | with_reducible refine aw_region0 fun K' hK => ?_ | with_reducible refine aw_toS (aw_region0 fun K' hK => ?_)
  simp []
  refine hK _ _ _ ?_
  clear K' hK
  repeat with_reducible refine aw_assoc ?_
  first | with_reducible refine aw_region0 fun K' hK => ?_ | with_reducible refine aw_toS (aw_region0 fun K' hK => ?_)
  simp [(show ∀ m : Man, getC m.cells 0 7 = some m.cells from fun _ => rfl)]
  refine acall_flat (big22_ok m) rfl (by simp) ?_
  cases hb : bigM m with
  | true =>
    simp
    refine hK _ _ _ ?_
    clear K' hK
    repeat with_reducible refine aw_assoc ?_
    first | with_reducible refine aw_ret ?_ | with_reducible refine aw_retL ?_ | with_reducible refine aw_skipL ?_
    simp [blockK, loopK, Post, resA, res1, expT, expA, exp1, expM, expL, okT, okA, ok1, rowOf, Try.f8, largeF, hb]
  | false =>
    simp
    refine acall_flat (big22_z rules) rfl rfl ?_
    simp
    refine hK _ _ _ ?_
    clear K' hK
    repeat with_reducible refine aw_assoc ?_
    first | with_reducible refine aw_ret ?_ | with_reducible refine aw_retL ?_ | with_reducible refine aw_skipL ?_
    simp [blockK, loopK, Post, resA, res1, expT, expA, exp1, expM, expL, okT, okA, ok1, rowOf, Try.f8, largeF, hb]
end Go.Proofs.YtomidniaekeafaaAbs
