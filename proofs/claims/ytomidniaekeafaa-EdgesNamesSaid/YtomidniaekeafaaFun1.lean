/- Small functions. -/
import Derived.Test.YtomidniaekeafaaSame
namespace Go.Proofs.YtomidniaekeafaaAbs
set_option linter.unusedSimpArgs false
set_option linter.unusedVariables false
open Go Go.RowKit Go.Proofs
set_option maxRecDepth 100000
set_option maxHeartbeats 4000000
theorem needs17_ok (d : Dep) : CallsOK Try.prog 17 [.agg d.cells] (.v (.bool (!decide (d.kind = 3)))) [] := by
  refine callsOK mixed Try.call17 Try.func17 rfl (by rw [Try.ntmps17]; simp) ?_ rfl
  rw [Try.ntmps17]
  repeat with_reducible refine aw_assoc ?_
  first | with_reducible refine aw_region0 fun K' hK => ?_ | with_reducible refine aw_toS (aw_region0 fun K' hK => ?_)
  simp []
  refine hK _ _ _ ?_
  clear K' hK
  repeat with_reducible refine aw_assoc ?_
  first | with_reducible refine aw_region0 fun K' hK => ?_ | with_reducible refine aw_toS (aw_region0 fun K' hK => ?_)
  simp []
  refine hK _ _ _ ?_
  clear K' hK
  repeat with_reducible refine aw_assoc ?_
  first | with_reducible refine aw_ret ?_ | with_reducible refine aw_retL ?_ | with_reducible refine aw_skipL ?_
  simp [blockK, loopK, Post, resA, res1, expT, expA, exp1, expM, expL, okT, okA, ok1, rowOf, Try.f17]
theorem clone40_ok (l : Alt) (hl : l.length < 1000000000000) : CallsOK Try.prog 40 [rowT Bd.cells l] (.row 0 l.length) [(69, flat Bd.cells l)] := by
  refine callsOK mixed Try.call40 Try.func40 rfl (by rw [Try.ntmps40]; simp) ?_ rfl
  rw [Try.ntmps40]
  have h1 : l.length ≤ 9223372036854775807 := by omega
  have h2 : l.length * 48 ≤ 140737488355328 := by omega
  repeat with_reducible refine aw_assoc ?_
  first | with_reducible refine aw_region0 fun K' hK => ?_ | with_reducible refine aw_toS (aw_region0 fun K' hK => ?_)
  simp []
  refine hK _ _ _ ?_
  clear K' hK
  by_cases h : l = []
  · subst h
    repeat with_reducible refine aw_assoc ?_
    first | with_reducible refine aw_region0 fun K' hK => ?_ | with_reducible refine aw_toS (aw_region0 fun K' hK => ?_)
    simp []
    refine hK _ _ _ ?_
    clear K' hK
    repeat with_reducible refine aw_assoc ?_
    refine aw_condP fun A B hA hB => ?_
    simp
    refine ⟨hA ?_, hB (aw_skip ?_)⟩
    · repeat with_reducible refine aw_assoc ?_
      first | with_reducible refine aw_region0 fun K' hK => ?_ | with_reducible refine aw_toS (aw_region0 fun K' hK => ?_)
      simp []
      refine hK _ _ _ ?_
      clear K' hK
      repeat with_reducible refine aw_assoc ?_
      first | with_reducible refine aw_ret ?_ | with_reducible refine aw_retL ?_ | with_reducible refine aw_skipL ?_
      simp [blockK, loopK, Post, resA, res1, expT, expA, exp1, expM, expL, okT, okA, ok1, rowOf, Try.f40]
    · repeat with_reducible refine aw_assoc ?_
      first | with_reducible refine aw_region0 fun K' hK => ?_ | with_reducible refine aw_toS (aw_region0 fun K' hK => ?_)
      simp []
      refine hK _ _ _ ?_
      clear K' hK
      repeat with_reducible refine aw_assoc ?_
      first | with_reducible refine aw_ret ?_ | with_reducible refine aw_retL ?_ | with_reducible refine aw_skipL ?_
      simp [blockK, loopK, Post, resA, res1, expT, expA, exp1, expM, expL, okT, okA, ok1, rowOf, Try.f40]
  · repeat with_reducible refine aw_assoc ?_
    first | with_reducible refine aw_region0 fun K' hK => ?_ | with_reducible refine aw_toS (aw_region0 fun K' hK => ?_)
    simp [h]
    refine hK _ _ _ ?_
    clear K' hK
    repeat with_reducible refine aw_assoc ?_
    first | with_reducible refine aw_condP fun A B hA hB => ?_ | with_reducible refine aw_toS (aw_condP fun A B hA hB => ?_)
    simp []
    refine ⟨fun hc => hA ?_, fun hc => hB ?_⟩ <;> clear hA hB A B <;> (try (simp at hc; done)) <;> (try (exfalso; simp at hc; omega)) <;> clear hc <;> (try with_reducible refine aw_skip ?_)
    repeat with_reducible refine aw_assoc ?_
    first | with_reducible refine aw_region0 fun K' hK => ?_ | with_reducible refine aw_toS (aw_region0 fun K' hK => ?_)
    simp [h1, h2]
    refine hK _ _ _ ?_
    clear K' hK
    repeat with_reducible refine aw_assoc ?_
    first | with_reducible refine aw_ret ?_ | with_reducible refine aw_retL ?_ | with_reducible refine aw_skipL ?_
    simp [blockK, loopK, Post, resA, res1, expT, expA, exp1, expM, expL, okT, okA, ok1, rowOf, Try.f40]
theorem clone39_ok (l : Rg) (hl : l.length < 1000000000000) : CallsOK Try.prog 39 [rowT Alt.cells l] (.row 0 l.length) [(66, flat Alt.cells l)] := by
  refine callsOK mixed Try.call39 Try.func39 rfl (by rw [Try.ntmps39]; simp) ?_ rfl
  rw [Try.ntmps39]
  have h1 : l.length ≤ 9223372036854775807 := by omega
  have h2 : l.length * 24 ≤ 140737488355328 := by omega
  repeat with_reducible refine aw_assoc ?_
  first | with_reducible refine aw_region0 fun K' hK => ?_ | with_reducible refine aw_toS (aw_region0 fun K' hK => ?_)
  simp []
  refine hK _ _ _ ?_
  clear K' hK
  by_cases h : l = []
  · subst h
    repeat with_reducible refine aw_assoc ?_
    first | with_reducible refine aw_region0 fun K' hK => ?_ | with_reducible refine aw_toS (aw_region0 fun K' hK => ?_)
    simp []
    refine hK _ _ _ ?_
    clear K' hK
    repeat with_reducible refine aw_assoc ?_
    refine aw_condP fun A B hA hB => ?_
    simp
    refine ⟨hA ?_, hB (aw_skip ?_)⟩
    · repeat with_reducible refine aw_assoc ?_
      first | with_reducible refine aw_region0 fun K' hK => ?_ | with_reducible refine aw_toS (aw_region0 fun K' hK => ?_)
      simp []
      refine hK _ _ _ ?_
      clear K' hK
      repeat with_reducible refine aw_assoc ?_
      first | with_reducible refine aw_ret ?_ | with_reducible refine aw_retL ?_ | with_reducible refine aw_skipL ?_
      simp [blockK, loopK, Post, resA, res1, expT, expA, exp1, expM, expL, okT, okA, ok1, rowOf, Try.f39]
    · repeat with_reducible refine aw_assoc ?_
      first | with_reducible refine aw_region0 fun K' hK => ?_ | with_reducible refine aw_toS (aw_region0 fun K' hK => ?_)
      simp []
      refine hK _ _ _ ?_
      clear K' hK
      repeat with_reducible refine aw_assoc ?_
      first | with_reducible refine aw_ret ?_ | with_reducible refine aw_retL ?_ | with_reducible refine aw_skipL ?_
      simp [blockK, loopK, Post, resA, res1, expT, expA, exp1, expM, expL, okT, okA, ok1, rowOf, Try.f39]
  · repeat with_reducible refine aw_assoc ?_
    first | with_reducible refine aw_region0 fun K' hK => ?_ | with_reducible refine aw_toS (aw_region0 fun K' hK => ?_)
    simp [h]
    refine hK _ _ _ ?_
    clear K' hK
    repeat with_reducible refine aw_assoc ?_
    first | with_reducible refine aw_condP fun A B hA hB => ?_ | with_reducible refine aw_toS (aw_condP fun A B hA hB => ?_)
    simp []
    refine ⟨fun hc => hA ?_, fun hc => hB ?_⟩ <;> clear hA hB A B <;> (try (simp at hc; done)) <;> (try (exfalso; simp at hc; omega)) <;> clear hc <;> (try with_reducible refine aw_skip ?_)
    repeat with_reducible refine aw_assoc ?_
    first | with_reducible refine aw_region0 fun K' hK => ?_ | with_reducible refine aw_toS (aw_region0 fun K' hK => ?_)
    simp [h1, h2]
    refine hK _ _ _ ?_
    clear K' hK
    repeat with_reducible refine aw_assoc ?_
    first | with_reducible refine aw_ret ?_ | with_reducible refine aw_retL ?_ | with_reducible refine aw_skipL ?_
    simp [blockK, loopK, Post, resA, res1, expT, expA, exp1, expM, expL, okT, okA, ok1, rowOf, Try.f39]
def countsF (d : Dep) (root : Bool) : Bool := decide (d.kind = 1) || decide (d.kind = 3) || decide (d.kind = 4) || (decide (d.kind = 2) && root)
theorem counts24_ok (d : Dep) (root : Bool) : CallsOK Try.prog 24 [.agg d.cells, .v (.bool root)] (.v (.bool (countsF d root))) [] := by
  refine callsOK mixed Try.call24 Try.func24 rfl (by rw [Try.ntmps24]; simp) ?_ rfl
  rw [Try.ntmps24]
  repeat with_reducible refine aw_assoc ?_
  first | with_reducible refine aw_region0 fun K' hK => ?_ | with_reducible refine aw_toS (aw_region0 fun K' hK => ?_)
  simp []
  refine hK _ _ _ ?_
  clear K' hK
  repeat with_reducible refine aw_assoc ?_
  first | with_reducible refine aw_region0 fun K' hK => ?_ | with_reducible refine aw_toS (aw_region0 fun K' hK => ?_)
  simp []
  refine hK _ _ _ ?_
  clear K' hK
  repeat with_reducible refine aw_assoc ?_
  first | with_reducible refine aw_block ?_ | with_reducible refine aw_toS (aw_block ?_)
  repeat with_reducible refine aw_assoc ?_
  first | with_reducible refine aw_block ?_ | with_reducible refine aw_toS (aw_block ?_)
  repeat with_reducible refine aw_assoc ?_
  first | with_reducible refine aw_block ?_ | with_reducible refine aw_toS (aw_block ?_)
  by_cases h2 : d.kind = 2
  · repeat with_reducible refine aw_assoc ?_
    first | with_reducible refine aw_region0 fun K' hK => ?_ | with_reducible refine aw_toS (aw_region0 fun K' hK => ?_)
    simp [h2]
    refine hK _ _ _ ?_
    clear K' hK
    repeat with_reducible refine aw_assoc ?_
    first | with_reducible refine aw_condP fun A B hA hB => ?_ | with_reducible refine aw_toS (aw_condP fun A B hA hB => ?_)
    simp [h2]
    refine ⟨fun hc => hA ?_, fun hc => hB ?_⟩ <;> clear hA hB A B <;> (try (simp at hc; done)) <;> (try (exfalso; simp at hc; omega)) <;> clear hc <;> (try with_reducible refine aw_skip ?_)
    repeat with_reducible refine aw_assoc ?_
    first | with_reducible refine aw_exit ?_ | with_reducible refine aw_exitL ?_
    repeat first | with_reducible refine blockK_exit ?_ | with_reducible refine blockK_pass (by decide) ?_
    repeat with_reducible refine aw_assoc ?_
    first | with_reducible refine aw_region0 fun K' hK => ?_ | with_reducible refine aw_toS (aw_region0 fun K' hK => ?_)
    simp []
    refine hK _ _ _ ?_
    clear K' hK
    cases root
    · repeat with_reducible refine aw_assoc ?_
      first | with_reducible refine aw_condP fun A B hA hB => ?_ | with_reducible refine aw_toS (aw_condP fun A B hA hB => ?_)
      simp []
      refine ⟨fun hc => hA ?_, fun hc => hB ?_⟩ <;> clear hA hB A B <;> (try (simp at hc; done)) <;> (try (exfalso; simp at hc; omega)) <;> clear hc <;> (try with_reducible refine aw_skip ?_)
      repeat with_reducible refine aw_assoc ?_
      first | with_reducible refine aw_region0 fun K' hK => ?_ | with_reducible refine aw_toS (aw_region0 fun K' hK => ?_)
      simp []
      refine hK _ _ _ ?_
      clear K' hK
      repeat with_reducible refine aw_assoc ?_
      first | with_reducible refine aw_ret ?_ | with_reducible refine aw_retL ?_ | with_reducible refine aw_skipL ?_
      simp [blockK, loopK, Post, resA, res1, expT, expA, exp1, expM, expL, okT, okA, ok1, rowOf, Try.f24, countsF, h2]
    · repeat with_reducible refine aw_assoc ?_
      first | with_reducible refine aw_condP fun A B hA hB => ?_ | with_reducible refine aw_toS (aw_condP fun A B hA hB => ?_)
      simp []
      refine ⟨fun hc => hA ?_, fun hc => hB ?_⟩ <;> clear hA hB A B <;> (try (simp at hc; done)) <;> (try (exfalso; simp at hc; omega)) <;> clear hc <;> (try with_reducible refine aw_skip ?_)
      first | with_reducible refine aw_skipL ?_ | skip
      refine blockK_normal ?_
      repeat with_reducible refine aw_assoc ?_
      first | with_reducible refine aw_region0 fun K' hK => ?_ | with_reducible refine aw_toS (aw_region0 fun K' hK => ?_)
      simp []
      refine hK _ _ _ ?_
      clear K' hK
      repeat with_reducible refine aw_assoc ?_
      first | with_reducible refine aw_ret ?_ | with_reducible refine aw_retL ?_ | with_reducible refine aw_skipL ?_
      simp [blockK, loopK, Post, resA, res1, expT, expA, exp1, expM, expL, okT, okA, ok1, rowOf, Try.f24, countsF, h2]
  · repeat with_reducible refine aw_assoc ?_
    first | with_reducible refine aw_region0 fun K' hK => ?_ | with_reducible refine aw_toS (aw_region0 fun K' hK => ?_)
    simp [h2]
    refine hK _ _ _ ?_
    clear K' hK
    repeat with_reducible refine aw_assoc ?_
    first | with_reducible refine aw_condP fun A B hA hB => ?_ | with_reducible refine aw_toS (aw_condP fun A B hA hB => ?_)
    simp [h2]
    refine ⟨fun hc => hA ?_, fun hc => hB ?_⟩ <;> clear hA hB A B <;> (try (simp at hc; done)) <;> (try (exfalso; simp at hc; omega)) <;> clear hc <;> (try with_reducible refine aw_skip ?_)
    repeat with_reducible refine aw_assoc ?_
    first | with_reducible refine aw_region0 fun K' hK => ?_ | with_reducible refine aw_toS (aw_region0 fun K' hK => ?_)
    simp []
    refine hK _ _ _ ?_
    clear K' hK
    by_cases h1 : d.kind = 1
    · repeat with_reducible refine aw_assoc ?_
      first | with_reducible refine aw_condP fun A B hA hB => ?_ | with_reducible refine aw_toS (aw_condP fun A B hA hB => ?_)
      simp [h1]
      refine ⟨fun hc => hA ?_, fun hc => hB ?_⟩ <;> clear hA hB A B <;> (try (simp at hc; done)) <;> (try (exfalso; simp at hc; omega)) <;> clear hc <;> (try with_reducible refine aw_skip ?_)
      repeat with_reducible refine aw_assoc ?_
      first | with_reducible refine aw_condP fun A B hA hB => ?_ | with_reducible refine aw_toS (aw_condP fun A B hA hB => ?_)
      simp [h1]
      refine ⟨fun hc => hA ?_, fun hc => hB ?_⟩ <;> clear hA hB A B <;> (try (simp at hc; done)) <;> (try (exfalso; simp at hc; omega)) <;> clear hc <;> (try with_reducible refine aw_skip ?_)
      repeat with_reducible refine aw_assoc ?_
      first | with_reducible refine aw_exit ?_ | with_reducible refine aw_exitL ?_
      repeat first | with_reducible refine blockK_exit ?_ | with_reducible refine blockK_pass (by decide) ?_
      repeat with_reducible refine aw_assoc ?_
      first | with_reducible refine aw_region0 fun K' hK => ?_ | with_reducible refine aw_toS (aw_region0 fun K' hK => ?_)
      simp []
      refine hK _ _ _ ?_
      clear K' hK
      repeat with_reducible refine aw_assoc ?_
      first | with_reducible refine aw_ret ?_ | with_reducible refine aw_retL ?_ | with_reducible refine aw_skipL ?_
      simp [blockK, loopK, Post, resA, res1, expT, expA, exp1, expM, expL, okT, okA, ok1, rowOf, Try.f24, countsF, h1]
    · repeat with_reducible refine aw_assoc ?_
      first | with_reducible refine aw_condP fun A B hA hB => ?_ | with_reducible refine aw_toS (aw_condP fun A B hA hB => ?_)
      simp [h1]
      refine ⟨fun hc => hA ?_, fun hc => hB ?_⟩ <;> clear hA hB A B <;> (try (simp at hc; done)) <;> (try (exfalso; simp at hc; omega)) <;> clear hc <;> (try with_reducible refine aw_skip ?_)
      repeat with_reducible refine aw_assoc ?_
      first | with_reducible refine aw_region0 fun K' hK => ?_ | with_reducible refine aw_toS (aw_region0 fun K' hK => ?_)
      simp []
      refine hK _ _ _ ?_
      clear K' hK
      by_cases h3 : d.kind = 3
      · repeat with_reducible refine aw_assoc ?_
        first | with_reducible refine aw_condP fun A B hA hB => ?_ | with_reducible refine aw_toS (aw_condP fun A B hA hB => ?_)
        simp [h3]
        refine ⟨fun hc => hA ?_, fun hc => hB ?_⟩ <;> clear hA hB A B <;> (try (simp at hc; done)) <;> (try (exfalso; simp at hc; omega)) <;> clear hc <;> (try with_reducible refine aw_skip ?_)
        repeat with_reducible refine aw_assoc ?_
        first | with_reducible refine aw_condP fun A B hA hB => ?_ | with_reducible refine aw_toS (aw_condP fun A B hA hB => ?_)
        simp [h3]
        refine ⟨fun hc => hA ?_, fun hc => hB ?_⟩ <;> clear hA hB A B <;> (try (simp at hc; done)) <;> (try (exfalso; simp at hc; omega)) <;> clear hc <;> (try with_reducible refine aw_skip ?_)
        repeat with_reducible refine aw_assoc ?_
        first | with_reducible refine aw_exit ?_ | with_reducible refine aw_exitL ?_
        repeat first | with_reducible refine blockK_exit ?_ | with_reducible refine blockK_pass (by decide) ?_
        repeat with_reducible refine aw_assoc ?_
        first | with_reducible refine aw_region0 fun K' hK => ?_ | with_reducible refine aw_toS (aw_region0 fun K' hK => ?_)
        simp []
        refine hK _ _ _ ?_
        clear K' hK
        repeat with_reducible refine aw_assoc ?_
        first | with_reducible refine aw_ret ?_ | with_reducible refine aw_retL ?_ | with_reducible refine aw_skipL ?_
        simp [blockK, loopK, Post, resA, res1, expT, expA, exp1, expM, expL, okT, okA, ok1, rowOf, Try.f24, countsF, h3]
      · repeat with_reducible refine aw_assoc ?_
        first | with_reducible refine aw_condP fun A B hA hB => ?_ | with_reducible refine aw_toS (aw_condP fun A B hA hB => ?_)
        simp [h3]
        refine ⟨fun hc => hA ?_, fun hc => hB ?_⟩ <;> clear hA hB A B <;> (try (simp at hc; done)) <;> (try (exfalso; simp at hc; omega)) <;> clear hc <;> (try with_reducible refine aw_skip ?_)
        repeat with_reducible refine aw_assoc ?_
        first | with_reducible refine aw_region0 fun K' hK => ?_ | with_reducible refine aw_toS (aw_region0 fun K' hK => ?_)
        simp []
        refine hK _ _ _ ?_
        clear K' hK
        by_cases h4 : d.kind = 4
        · repeat with_reducible refine aw_assoc ?_
          first | with_reducible refine aw_condP fun A B hA hB => ?_ | with_reducible refine aw_toS (aw_condP fun A B hA hB => ?_)
          simp [h4]
          refine ⟨fun hc => hA ?_, fun hc => hB ?_⟩ <;> clear hA hB A B <;> (try (simp at hc; done)) <;> (try (exfalso; simp at hc; omega)) <;> clear hc <;> (try with_reducible refine aw_skip ?_)
          repeat with_reducible refine aw_assoc ?_
          first | with_reducible refine aw_exit ?_ | with_reducible refine aw_exitL ?_
          repeat first | with_reducible refine blockK_exit ?_ | with_reducible refine blockK_pass (by decide) ?_
          repeat with_reducible refine aw_assoc ?_
          first | with_reducible refine aw_region0 fun K' hK => ?_ | with_reducible refine aw_toS (aw_region0 fun K' hK => ?_)
          simp []
          refine hK _ _ _ ?_
          clear K' hK
          repeat with_reducible refine aw_assoc ?_
          first | with_reducible refine aw_ret ?_ | with_reducible refine aw_retL ?_ | with_reducible refine aw_skipL ?_
          simp [blockK, loopK, Post, resA, res1, expT, expA, exp1, expM, expL, okT, okA, ok1, rowOf, Try.f24, countsF, h4]
        · repeat with_reducible refine aw_assoc ?_
          first | with_reducible refine aw_condP fun A B hA hB => ?_ | with_reducible refine aw_toS (aw_condP fun A B hA hB => ?_)
          simp [h4]
          refine ⟨fun hc => hA ?_, fun hc => hB ?_⟩ <;> clear hA hB A B <;> (try (simp at hc; done)) <;> (try (exfalso; simp at hc; omega)) <;> clear hc <;> (try with_reducible refine aw_skip ?_)
          repeat with_reducible refine aw_assoc ?_
          first | with_reducible refine aw_exit ?_ | with_reducible refine aw_exitL ?_
          repeat first | with_reducible refine blockK_exit ?_ | with_reducible refine blockK_pass (by decide) ?_
          repeat with_reducible refine aw_assoc ?_
          first | with_reducible refine aw_region0 fun K' hK => ?_ | with_reducible refine aw_toS (aw_region0 fun K' hK => ?_)
          simp []
          refine hK _ _ _ ?_
          clear K' hK
          repeat with_reducible refine aw_assoc ?_
          first | with_reducible refine aw_ret ?_ | with_reducible refine aw_retL ?_ | with_reducible refine aw_skipL ?_
          simp [blockK, loopK, Post, resA, res1, expT, expA, exp1, expM, expL, okT, okA, ok1, rowOf, Try.f24, countsF, h1, h2, h3, h4]
theorem own27_ok (r : Rg) (hr : r.length < 1000000000000 ∧ ∀ l ∈ r, l.length < 1000000000000) : CallsOK Try.prog 27 [.agg r.cells] (.agg [.row 0 r.length]) [(66, flat Alt.cells r)] := by
  refine callsOK mixed Try.call27 Try.func27 rfl (by rw [Try.ntmps27]; simp) ?_ rfl
  rw [Try.ntmps27]
  repeat with_reducible refine aw_assoc ?_
  first | with_reducible refine aw_region0 fun K' hK => ?_ | with_reducible refine aw_toS (aw_region0 fun K' hK => ?_)
  simp [Rg.cells]
  refine hK _ _ _ ?_
  clear K' hK
  repeat with_reducible refine aw_assoc ?_
  first | with_reducible refine aw_region0 fun K' hK => ?_ | with_reducible refine aw_toS (aw_region0 fun K' hK => ?_)
  simp []
  refine acall_new (clone39_ok r hr.1) (by simp) ?_
  simp [addJ_one]
  refine hK _ _ _ ?_
  clear K' hK
  repeat with_reducible refine aw_assoc ?_
  first | with_reducible refine aw_region0 fun K' hK => ?_ | with_reducible refine aw_toS (aw_region0 fun K' hK => ?_)
  simp []
  refine hK _ _ _ ?_
  clear K' hK
  repeat with_reducible refine aw_assoc ?_
  first | with_reducible refine aw_block ?_ | with_reducible refine aw_toS (aw_block ?_)
  refine aw_loop (fun s G nx => G 0 = some (.var 33 [.row 2 r.length]) ∧ G 1 = some (.var 33 [.v (.slice none 0 0)]) ∧ G 2 = some (.row 66 (flat Alt.cells r)) ∧ s 1 = .ptr 0 0 ∧ s 2 = .ptr 1 0 ∧ s 10 = .row 2 r.length ∧ s 11 = iV r.length ∧ ∃ i : Nat, s 12 = iV i ∧ i ≤ r.length) (fun s _ _ => match s 12 with | .v (.int _ n) => r.length - n.toNat | _ => 0) ?_ ?_
  · simp
    exact ⟨0, by simp⟩
  · rintro s G nx hf ⟨g0, g1, g2, s1, s2, s10, s11, i, s12, hi⟩
    have hnx := fresh_lt hf g2
    have n0 : ¬ 0 = nx := by omega
    have n1 : ¬ 1 = nx := by omega
    have n2 : ¬ 2 = nx := by omega
    have hw : IntKind.i64.wrap (↑i + 1) = ((i + 1 : Nat) : Int) := wrapS (by have := hr.1; omega)
    repeat with_reducible refine aw_assoc ?_
    first | with_reducible refine aw_region0 fun K' hK => ?_ | with_reducible refine aw_toS (aw_region0 fun K' hK => ?_)
    simp [s11, s12]
    refine hK _ _ _ ?_
    clear K' hK
    repeat with_reducible refine aw_assoc ?_
    first | with_reducible refine aw_condP fun A B hA hB => ?_ | with_reducible refine aw_toS (aw_condP fun A B hA hB => ?_)
    simp []
    refine ⟨fun hi2 => hA ?_, fun hi2 => hB ?_⟩ <;> clear hA hB A B <;> (try simp at hi2) <;> (try with_reducible refine aw_skip ?_)
    · repeat with_reducible refine aw_assoc ?_
      first | with_reducible refine aw_block ?_ | with_reducible refine aw_toS (aw_block ?_)
      repeat with_reducible refine aw_assoc ?_
      first | with_reducible refine aw_region0 fun K' hK => ?_ | with_reducible refine aw_toS (aw_region0 fun K' hK => ?_)
      simp [s10, s12, hi2, g2]
      refine hK _ _ _ ?_
      clear K' hK
      repeat with_reducible refine aw_assoc ?_
      first | with_reducible refine aw_region1 (by decide +kernel) fun K' hK => ?_ | with_reducible refine aw_toS (aw_region1 (by decide +kernel) fun K' hK => ?_)
      simp [s1, g0]
      refine acall_new (clone40_ok (nth r i) (hr.2 _ (nth_mem hi2))) (by simp) ?_
      have hp : putO (flat Alt.cells r) 1 i 0 [rowT Bd.cells (nth r i)] = flat Alt.cells r := putO_same hi2
      simp [addJ_one, s10, n2, g2, hi2, hp]
      refine hK _ _ _ ?_
      clear K' hK
      first | with_reducible refine aw_skipL ?_ | skip
      refine blockK_normal ?_
      repeat with_reducible refine aw_assoc ?_
      first | with_reducible refine aw_region0 fun K' hK => ?_ | with_reducible refine aw_toS (aw_region0 fun K' hK => ?_)
      simp [s12, hw]
      refine hK _ _ _ ?_
      clear K' hK
      refine aw_skipL (loopK_normal ?_ ?_)
      · simp [n0, n1, n2, g0, g1, s1, s2, s10, s11, hw]
        exact ⟨i + 1, by simp, by omega⟩
      · simp [s12, hw]; omega
    · repeat with_reducible refine aw_assoc ?_
      first | with_reducible refine aw_exit ?_ | with_reducible refine aw_exitL ?_
      refine loopK_exit (blockK_exit ?_)
      repeat with_reducible refine aw_assoc ?_
      first | with_reducible refine aw_region0 fun K' hK => ?_ | with_reducible refine aw_toS (aw_region0 fun K' hK => ?_)
      simp [s1, s2, g0, g1]
      refine hK _ _ _ ?_
      clear K' hK
      repeat with_reducible refine aw_assoc ?_
      first | with_reducible refine aw_ret ?_ | with_reducible refine aw_retL ?_ | with_reducible refine aw_skipL ?_
      simp [blockK, loopK, Post, resA, res1, expT, expA, exp1, expM, expL, okT, okA, ok1, rowOf, Try.f27, s2, g2]
end Go.Proofs.YtomidniaekeafaaAbs
