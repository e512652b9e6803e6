/- EdgesTwice. -/
import Derived.Test.YtomidniaekeafaaPl1
namespace Go.Proofs.YtomidniaekeafaaAbs
set_option linter.unusedSimpArgs false
set_option linter.unusedVariables false
open Go Go.RowKit Go.Proofs
set_option maxRecDepth 100000
set_option maxHeartbeats 4000000
theorem large8_z (m : Man) : CallsOK Try.prog 8 [.agg m.cells, .v (.slice none 0 0)] (.v (.bool (largeF m []))) [] :=
  (large8_ok m []).weak (.cons (.refl _) (.cons .nilRow .nil))
theorem of10_n (m : Man) (root : Bool) (hd : Dep.okL m.deps) : CallsOK Try.prog 10 [.agg m.cells, .v (.slice none 0 0), .v (.bool root)] (.row 0 (ofF m.deps [] root).length) [(41, flat Dep.cells (ofF m.deps [] root))] :=
  (of10_ok m [] root hd ⟨by simp, by simp⟩).weak (.cons (.refl _) (.cons .nilRow (.cons (.refl _) .nil)))
@[simp] theorem man_get (m : Man) : getC m.cells 0 7 = some m.cells := rfl
theorem twice7_ok (m : Man) (root : Bool) : CallsOK Try.prog 7 [.agg m.cells, .v (.bool root)] (.v (.bool true)) [] := by
  refine callsOK mixed Try.call7 Try.func7 rfl (by rw [Try.ntmps7]; simp) ?_ rfl
  rw [Try.ntmps7]
  repeat with_reducible refine aw_assoc ?_
  first | with_reducible refine aw_region0 fun K' hK => ?_ | with_reducible refine aw_toS (aw_region0 fun K' hK => ?_)
  simp []
  first | refine hK _ _ _ ?_ | done
  clear K' hK
  repeat with_reducible refine aw_assoc ?_
  first | with_reducible refine aw_region0 fun K' hK => ?_ | with_reducible refine aw_toS (aw_region0 fun K' hK => ?_)
  simp []
  refine acall_flat (large8_z m) rfl (by simp) ?_
  simp
  first | refine hK _ _ _ ?_ | done
  clear K' hK
  repeat with_reducible refine aw_assoc ?_
  first | with_reducible refine aw_condP fun A B hA hB => ?_ | with_reducible refine aw_toS (aw_condP fun A B hA hB => ?_)
  simp []
  refine ⟨fun hl => hA ?_, fun hl => hB ?_⟩ <;> clear hA hB A B <;> (try simp at hl) <;> (try with_reducible refine aw_skip ?_)
  · repeat with_reducible refine aw_assoc ?_
    first | with_reducible refine aw_region0 fun K' hK => ?_ | with_reducible refine aw_toS (aw_region0 fun K' hK => ?_)
    simp []
    first | refine hK _ _ _ ?_ | done
    clear K' hK
    repeat with_reducible refine aw_assoc ?_
    first | with_reducible refine aw_ret ?_ | with_reducible refine aw_retL ?_ | with_reducible refine aw_skipL ?_
    simp [blockK, loopK, Post, resA, res1, expT, expA, exp1, expM, expL, okT, okA, ok1, rowOf, Try.f7]
  · obtain ⟨hd, _, _, _⟩ := large_ok hl
    repeat with_reducible refine aw_assoc ?_
    first | with_reducible refine aw_region0 fun K' hK => ?_ | with_reducible refine aw_toS (aw_region0 fun K' hK => ?_)
    simp []
    refine acall_new (of10_n m root hd) (by simp) ?_
    simp [addJ_one]
    first | refine hK _ _ _ ?_ | done
    clear K' hK
    repeat with_reducible refine aw_assoc ?_
    first | with_reducible refine aw_region0 fun K' hK => ?_ | with_reducible refine aw_toS (aw_region0 fun K' hK => ?_)
    simp []
    refine acall_flat asks19_ok rfl rfl ?_
    simp
    generalize hL : ofF m.deps [] root = L
    have hLo : Dep.okL L := hL ▸ ofF_okL hd
    refine acall_new (of10_z L true hLo) (by simp) ?_
    have hT : ofF L [] true = L := by rw [← hL]; exact ofF_twice _ _
    rw [hT]
    simp [addJ_one]
    refine acall_flat (deps13_ok L L hLo) rfl (by simp) ?_
    simp
    first | refine hK _ _ _ ?_ | done
    clear K' hK
    repeat with_reducible refine aw_assoc ?_
    first | with_reducible refine aw_ret ?_ | with_reducible refine aw_retL ?_ | with_reducible refine aw_skipL ?_
    simp [blockK, loopK, Post, resA, res1, expT, expA, exp1, expM, expL, okT, okA, ok1, rowOf, Try.f7]
end Go.Proofs.YtomidniaekeafaaAbs
