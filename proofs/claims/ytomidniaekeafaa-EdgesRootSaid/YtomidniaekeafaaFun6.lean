/- hoggetref07.Deps. -/
import Derived.Test.YtomidniaekeafaaFun5
namespace Go.Proofs.YtomidniaekeafaaAbs
set_option linter.unusedSimpArgs false
set_option linter.unusedVariables false
open Go Go.RowKit Go.Proofs
set_option maxRecDepth 100000
set_option maxHeartbeats 4000000
theorem Dep.ext' {a b : Dep} (h1 : a.kind = b.kind) (h2 : a.name = b.name) (h3 : a.range = b.range) : a = b := by
  cases a; cases b; simp_all
theorem Dep.okR {ds : List Dep} (h : Dep.okL ds) {d : Dep} (hd : d ∈ ds) : d.range.ok :=
  ⟨by have := (h.2 d hd).2.1; omega, fun l hl => by have := (h.2 d hd).2.2 l hl; omega⟩
theorem deps13_ok (a b : List Dep) (ha : Dep.okL a) : CallsOK Try.prog 13 [rowT Dep.cells a, rowT Dep.cells b] (.v (.bool (decide (a = b)))) [] := by
  refine callsOK mixed Try.call13 Try.func13 rfl (by rw [Try.ntmps13]; simp) ?_ rfl
  rw [Try.ntmps13]
  repeat with_reducible refine aw_assoc ?_
  first | with_reducible refine aw_region0 fun K' hK => ?_ | with_reducible refine aw_toS (aw_region0 fun K' hK => ?_)
  simp []
  refine hK _ _ _ ?_
  clear K' hK
  repeat with_reducible refine aw_assoc ?_
  first | with_reducible refine aw_region0 fun K' hK => ?_ | with_reducible refine aw_toS (aw_region0 fun K' hK => ?_)
  simp []
  refine hK _ _ _ ?_
  clear K' hK
  repeat with_reducible refine aw_assoc ?_
  first | with_reducible refine aw_condP fun A B hA hB => ?_ | with_reducible refine aw_toS (aw_condP fun A B hA hB => ?_)
  simp []
  refine ⟨fun hl => hA ?_, fun hl => hB ?_⟩ <;> clear hA hB A B <;> (try simp at hl) <;> (try with_reducible refine aw_skip ?_)
  · repeat with_reducible refine aw_assoc ?_
    first | with_reducible refine aw_region0 fun K' hK => ?_ | with_reducible refine aw_toS (aw_region0 fun K' hK => ?_)
    simp []
    refine hK _ _ _ ?_
    clear K' hK
    repeat with_reducible refine aw_assoc ?_
    first | with_reducible refine aw_ret ?_ | with_reducible refine aw_retL ?_ | with_reducible refine aw_skipL ?_
    simp [blockK, loopK, Post, resA, res1, expT, expA, exp1, expM, expL, okT, okA, ok1, rowOf, Try.f13]
    intro e; exact hl (by rw [e])
  · repeat with_reducible refine aw_assoc ?_
    first | with_reducible refine aw_region0 fun K' hK => ?_ | with_reducible refine aw_toS (aw_region0 fun K' hK => ?_)
    simp []
    refine hK _ _ _ ?_
    clear K' hK
    repeat with_reducible refine aw_assoc ?_
    first | with_reducible refine aw_block ?_ | with_reducible refine aw_toS (aw_block ?_)
    refine aw_loop (fun s G nx => s 0 = rowT Dep.cells a ∧ s 1 = rowT Dep.cells b ∧ ∃ i : Nat, s 5 = iV i ∧ i ≤ a.length ∧ a.take i = b.take i) (fun s _ _ => match s 5 with | .v (.int _ n) => a.length - n.toNat | _ => 0) ?_ ?_
    · exact ⟨by simp, by simp, 0, by simp, by omega, by simp⟩
    · rintro s G nx - ⟨s0, s1, i, s5, hi, ht⟩
      have hw : IntKind.i64.wrap (↑i + 1) = ((i + 1 : Nat) : Int) := wrapS (by have := ha.1; omega)
      repeat with_reducible refine aw_assoc ?_
      first | with_reducible refine aw_region0 fun K' hK => ?_ | with_reducible refine aw_toS (aw_region0 fun K' hK => ?_)
      simp [s0, s5]
      refine hK _ _ _ ?_
      clear K' hK
      repeat with_reducible refine aw_assoc ?_
      first | with_reducible refine aw_condP fun A B hA hB => ?_ | with_reducible refine aw_toS (aw_condP fun A B hA hB => ?_)
      simp []
      refine ⟨fun hi2 => hA ?_, fun hi2 => hB ?_⟩ <;> clear hA hB A B <;> (try simp at hi2) <;> (try with_reducible refine aw_skip ?_)
      · have hi3 : i < b.length := by omega
        repeat with_reducible refine aw_assoc ?_
        first | with_reducible refine aw_block ?_ | with_reducible refine aw_toS (aw_block ?_)
        by_cases h1 : (nth a i).kind = (nth b i).kind
        · by_cases h2 : (nth a i).name = (nth b i).name
          · repeat with_reducible refine aw_assoc ?_
            first | with_reducible refine aw_region1 (by decide +kernel) fun K' hK => ?_ | with_reducible refine aw_toS (aw_region1 (by decide +kernel) fun K' hK => ?_)
            simp [s0, s1, s5, hi2, hi3, h1, h2]
            refine acall_flat (same05_ok (nth a i).range (nth b i).range (Dep.okR ha (nth_mem hi2))) rfl (by simp [Rg.cells]) ?_
            simp
            refine hK _ _ _ ?_
            clear K' hK
            repeat with_reducible refine aw_assoc ?_
            first | with_reducible refine aw_condP fun A B hA hB => ?_ | with_reducible refine aw_toS (aw_condP fun A B hA hB => ?_)
            simp []
            refine ⟨fun hne => hA ?_, fun hne => hB ?_⟩ <;> clear hA hB A B <;> (try simp at hne) <;> (try with_reducible refine aw_skip ?_)
            · repeat with_reducible refine aw_assoc ?_
              first | with_reducible refine aw_region0 fun K' hK => ?_ | with_reducible refine aw_toS (aw_region0 fun K' hK => ?_)
              simp []
              refine hK _ _ _ ?_
              clear K' hK
              repeat with_reducible refine aw_assoc ?_
              first | with_reducible refine aw_ret ?_ | with_reducible refine aw_retL ?_ | with_reducible refine aw_skipL ?_
              simp [blockK, loopK, Post, resA, res1, expT, expA, exp1, expM, expL, okT, okA, ok1, rowOf, Try.f13]
              exact ne_nth (i := i) fun e => hne (by rw [e])
            · first | with_reducible refine aw_skipL ?_ | skip
              refine blockK_normal ?_
              repeat with_reducible refine aw_assoc ?_
              first | with_reducible refine aw_region0 fun K' hK => ?_ | with_reducible refine aw_toS (aw_region0 fun K' hK => ?_)
              simp [s5, hw]
              refine hK _ _ _ ?_
              clear K' hK
              refine aw_skipL (loopK_normal ?_ ?_)
              · exact ⟨by simp [s0], by simp [s1], i + 1, by simp [hw], by omega, take_nth hi2 hi3 ht (Dep.ext' h1 h2 hne)⟩
              · simp [s5, hw]; omega
          · repeat with_reducible refine aw_assoc ?_
            first | with_reducible refine aw_region1 (by decide +kernel) fun K' hK => ?_ | with_reducible refine aw_toS (aw_region1 (by decide +kernel) fun K' hK => ?_)
            simp [s0, s1, s5, hi2, hi3, h1, h2]
            refine hK _ _ _ ?_
            clear K' hK
            repeat with_reducible refine aw_assoc ?_
            first | with_reducible refine aw_condP fun A B hA hB => ?_ | with_reducible refine aw_toS (aw_condP fun A B hA hB => ?_)
            simp []
            refine ⟨fun hc => hA ?_, fun hc => hB ?_⟩ <;> clear hA hB A B <;> (try (simp at hc; done)) <;> (try (exfalso; simp at hc; omega)) <;> clear hc <;> (try with_reducible refine aw_skip ?_)
            repeat with_reducible refine aw_assoc ?_
            first | with_reducible refine aw_region0 fun K' hK => ?_ | with_reducible refine aw_toS (aw_region0 fun K' hK => ?_)
            simp []
            refine hK _ _ _ ?_
            clear K' hK
            repeat with_reducible refine aw_assoc ?_
            first | with_reducible refine aw_ret ?_ | with_reducible refine aw_retL ?_ | with_reducible refine aw_skipL ?_
            simp [blockK, loopK, Post, resA, res1, expT, expA, exp1, expM, expL, okT, okA, ok1, rowOf, Try.f13]
            exact ne_nth (i := i) fun e => h2 (by rw [e])
        · repeat with_reducible refine aw_assoc ?_
          first | with_reducible refine aw_region1 (by decide +kernel) fun K' hK => ?_ | with_reducible refine aw_toS (aw_region1 (by decide +kernel) fun K' hK => ?_)
          simp [s0, s1, s5, hi2, hi3, h1]
          refine hK _ _ _ ?_
          clear K' hK
          repeat with_reducible refine aw_assoc ?_
          first | with_reducible refine aw_condP fun A B hA hB => ?_ | with_reducible refine aw_toS (aw_condP fun A B hA hB => ?_)
          simp []
          refine ⟨fun hc => hA ?_, fun hc => hB ?_⟩ <;> clear hA hB A B <;> (try (simp at hc; done)) <;> (try (exfalso; simp at hc; omega)) <;> clear hc <;> (try with_reducible refine aw_skip ?_)
          repeat with_reducible refine aw_assoc ?_
          first | with_reducible refine aw_region0 fun K' hK => ?_ | with_reducible refine aw_toS (aw_region0 fun K' hK => ?_)
          simp []
          refine hK _ _ _ ?_
          clear K' hK
          repeat with_reducible refine aw_assoc ?_
          first | with_reducible refine aw_ret ?_ | with_reducible refine aw_retL ?_ | with_reducible refine aw_skipL ?_
          simp [blockK, loopK, Post, resA, res1, expT, expA, exp1, expM, expL, okT, okA, ok1, rowOf, Try.f13]
          exact ne_nth (i := i) fun e => h1 (by rw [e])
      · repeat with_reducible refine aw_assoc ?_
        first | with_reducible refine aw_exit ?_ | with_reducible refine aw_exitL ?_
        refine loopK_exit (blockK_exit ?_)
        repeat with_reducible refine aw_assoc ?_
        first | with_reducible refine aw_region0 fun K' hK => ?_ | with_reducible refine aw_toS (aw_region0 fun K' hK => ?_)
        simp []
        refine hK _ _ _ ?_
        clear K' hK
        repeat with_reducible refine aw_assoc ?_
        first | with_reducible refine aw_ret ?_ | with_reducible refine aw_retL ?_ | with_reducible refine aw_skipL ?_
        simp [blockK, loopK, Post, resA, res1, expT, expA, exp1, expM, expL, okT, okA, ok1, rowOf, Try.f13]
        exact eq_of_take (by omega) (by omega) ht
end Go.Proofs.YtomidniaekeafaaAbs
