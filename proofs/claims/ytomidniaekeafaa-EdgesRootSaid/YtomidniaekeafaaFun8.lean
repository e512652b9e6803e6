/- hoggetref07.Big, large. -/
import Derived.Test.YtomidniaekeafaaFun7
import Derived.Test.YtomidniaekeafaaD6
namespace Go.Proofs.YtomidniaekeafaaAbs
set_option linter.unusedSimpArgs false
set_option linter.unusedVariables false
open Go Go.RowKit Go.Proofs
set_option maxRecDepth 100000
set_option maxHeartbeats 4000000
def bigD (d : Dep) : Bool := decide (300 < d.name.size) || bigR d.range
def bigU (d : Ru) : Bool := decide (300 < d.name.size) || bigR d.range
def bigM (m : Man) : Bool := decide (300 < m.name.size) || decide (300 < m.pre.size) || decide (40 < m.deps.length) || decide (40 < m.rules.length) || m.deps.any bigD || m.rules.any bigU
theorem big22_ok (m : Man) : CallsOK Try.prog 22 [.agg m.cells] (.v (.bool (bigM m))) [] := by
  refine callsOK mixed Try.call22 Try.func22 rfl (by rw [Try.ntmps22]; simp) ?_ rfl
  rw [Try.ntmps22]
  repeat with_reducible refine aw_assoc ?_
  first | with_reducible refine aw_region0 fun K' hK => ?_ | with_reducible refine aw_toS (aw_region0 fun K' hK => ?_)
  simp []
  refine hK _ _ _ ?_
  clear K' hK
  by_cases c1 : (300 : Int) < (m.name.size : Int)
  · repeat with_reducible refine aw_assoc ?_
    first | with_reducible refine aw_region0 fun K' hK => ?_ | with_reducible refine aw_toS (aw_region0 fun K' hK => ?_)
    simp [c1]
    refine hK _ _ _ ?_
    clear K' hK
    repeat with_reducible refine aw_assoc ?_
    first | with_reducible refine aw_condP fun A B hA hB => ?_ | with_reducible refine aw_toS (aw_condP fun A B hA hB => ?_)
    simp []
    refine ⟨fun hc => hA ?_, fun hc => hB ?_⟩ <;> clear hA hB A B <;> (try (simp at hc; done)) <;> (try (exfalso; simp at hc; omega)) <;> clear hc <;> (try with_reducible refine aw_skip ?_)
    repeat with_reducible refine aw_assoc ?_
    first | with_reducible refine aw_region0 fun K' hK => ?_ | with_reducible refine aw_toS (aw_region0 fun K' hK => ?_)
    simp []
    refine hK _ _ _ ?_
    clear K' hK
    repeat with_reducible refine aw_assoc ?_
    first | with_reducible refine aw_ret ?_ | with_reducible refine aw_retL ?_ | with_reducible refine aw_skipL ?_
    simp [blockK, loopK, Post, resA, res1, expT, expA, exp1, expM, expL, okT, okA, ok1, rowOf, Try.f22]
    simp [bigM]; omega
  · repeat with_reducible refine aw_assoc ?_
    first | with_reducible refine aw_region0 fun K' hK => ?_ | with_reducible refine aw_toS (aw_region0 fun K' hK => ?_)
    simp [c1]
    refine acall_flat (big34_ok m.maj m.min m.pat m.pre) rfl (by simp) ?_
    by_cases c2 : 300 < m.pre.size
    · simp [c2]
      refine hK _ _ _ ?_
      clear K' hK
      repeat with_reducible refine aw_assoc ?_
      first | with_reducible refine aw_condP fun A B hA hB => ?_ | with_reducible refine aw_toS (aw_condP fun A B hA hB => ?_)
      simp []
      refine ⟨fun hc => hA ?_, fun hc => hB ?_⟩ <;> clear hA hB A B <;> (try (simp at hc; done)) <;> (try (exfalso; simp at hc; omega)) <;> clear hc <;> (try with_reducible refine aw_skip ?_)
      repeat with_reducible refine aw_assoc ?_
      first | with_reducible refine aw_region0 fun K' hK => ?_ | with_reducible refine aw_toS (aw_region0 fun K' hK => ?_)
      simp []
      refine hK _ _ _ ?_
      clear K' hK
      repeat with_reducible refine aw_assoc ?_
      first | with_reducible refine aw_ret ?_ | with_reducible refine aw_retL ?_ | with_reducible refine aw_skipL ?_
      simp [blockK, loopK, Post, resA, res1, expT, expA, exp1, expM, expL, okT, okA, ok1, rowOf, Try.f22]
      simp [bigM, c2]
    · by_cases c3 : (40 : Int) < (m.deps.length : Int)
      · simp [c2, c3]
        refine hK _ _ _ ?_
        clear K' hK
        repeat with_reducible refine aw_assoc ?_
        first | with_reducible refine aw_condP fun A B hA hB => ?_ | with_reducible refine aw_toS (aw_condP fun A B hA hB => ?_)
        simp []
        refine ⟨fun hc => hA ?_, fun hc => hB ?_⟩ <;> clear hA hB A B <;> (try (simp at hc; done)) <;> (try (exfalso; simp at hc; omega)) <;> clear hc <;> (try with_reducible refine aw_skip ?_)
        repeat with_reducible refine aw_assoc ?_
        first | with_reducible refine aw_region0 fun K' hK => ?_ | with_reducible refine aw_toS (aw_region0 fun K' hK => ?_)
        simp []
        refine hK _ _ _ ?_
        clear K' hK
        repeat with_reducible refine aw_assoc ?_
        first | with_reducible refine aw_ret ?_ | with_reducible refine aw_retL ?_ | with_reducible refine aw_skipL ?_
        simp [blockK, loopK, Post, resA, res1, expT, expA, exp1, expM, expL, okT, okA, ok1, rowOf, Try.f22]
        simp [bigM]; omega
      · by_cases c4 : (40 : Int) < (m.rules.length : Int)
        · simp [c2, c3, c4]
          refine hK _ _ _ ?_
          clear K' hK
          repeat with_reducible refine aw_assoc ?_
          first | with_reducible refine aw_condP fun A B hA hB => ?_ | with_reducible refine aw_toS (aw_condP fun A B hA hB => ?_)
          simp []
          refine ⟨fun hc => hA ?_, fun hc => hB ?_⟩ <;> clear hA hB A B <;> (try (simp at hc; done)) <;> (try (exfalso; simp at hc; omega)) <;> clear hc <;> (try with_reducible refine aw_skip ?_)
          repeat with_reducible refine aw_assoc ?_
          first | with_reducible refine aw_region0 fun K' hK => ?_ | with_reducible refine aw_toS (aw_region0 fun K' hK => ?_)
          simp []
          refine hK _ _ _ ?_
          clear K' hK
          repeat with_reducible refine aw_assoc ?_
          first | with_reducible refine aw_ret ?_ | with_reducible refine aw_retL ?_ | with_reducible refine aw_skipL ?_
          simp [blockK, loopK, Post, resA, res1, expT, expA, exp1, expM, expL, okT, okA, ok1, rowOf, Try.f22]
          simp [bigM]; omega
        · simp [c2, c3, c4]
          refine hK _ _ _ ?_
          clear K' hK
          repeat with_reducible refine aw_assoc ?_
          first | with_reducible refine aw_condP fun A B hA hB => ?_ | with_reducible refine aw_toS (aw_condP fun A B hA hB => ?_)
          simp []
          refine ⟨fun hc => hA ?_, fun hc => hB ?_⟩ <;> clear hA hB A B <;> (try (simp at hc; done)) <;> (try (exfalso; simp at hc; omega)) <;> clear hc <;> (try with_reducible refine aw_skip ?_)
          repeat with_reducible refine aw_assoc ?_
          first | with_reducible refine aw_region0 fun K' hK => ?_ | with_reducible refine aw_toS (aw_region0 fun K' hK => ?_)
          simp []
          refine hK _ _ _ ?_
          clear K' hK
          repeat with_reducible refine aw_assoc ?_
          first | with_reducible refine aw_block ?_ | with_reducible refine aw_toS (aw_block ?_)
          refine aw_loop (fun s G nx => G 0 = some (.var 27 m.cells) ∧ s 1 = .ptr 0 0 ∧ ∃ i : Nat, s 3 = iV i ∧ i ≤ m.deps.length ∧ (m.deps.take i).any bigD = false) (fun s _ _ => match s 3 with | .v (.int _ n) => m.deps.length - n.toNat | _ => 0) ?_ ?_
          · exact ⟨by simp, by simp, 0, by simp, by omega, by simp⟩
          · rintro s G nx - ⟨g0, s1, i, s3, hi, ht⟩
            have hw : IntKind.i64.wrap (↑i + 1) = ((i + 1 : Nat) : Int) := wrapS (by omega)
            repeat with_reducible refine aw_assoc ?_
            first | with_reducible refine aw_region0 fun K' hK => ?_ | with_reducible refine aw_toS (aw_region0 fun K' hK => ?_)
            simp [g0, s1, s3]
            refine hK _ _ _ ?_
            clear K' hK
            repeat with_reducible refine aw_assoc ?_
            first | with_reducible refine aw_condP fun A B hA hB => ?_ | with_reducible refine aw_toS (aw_condP fun A B hA hB => ?_)
            simp []
            refine ⟨fun hi2 => hA ?_, fun hi2 => hB ?_⟩ <;> clear hA hB A B <;> (try simp at hi2) <;> (try with_reducible refine aw_skip ?_)
            · repeat with_reducible refine aw_assoc ?_
              first | with_reducible refine aw_block ?_ | with_reducible refine aw_toS (aw_block ?_)
              by_cases d1 : (300 : Int) < ((nth m.deps i).name.size : Int)
              · repeat with_reducible refine aw_assoc ?_
                first | with_reducible refine aw_region0 fun K' hK => ?_ | with_reducible refine aw_toS (aw_region0 fun K' hK => ?_)
                simp [g0, s1, s3, hi2, d1]
                refine hK _ _ _ ?_
                clear K' hK
                repeat with_reducible refine aw_assoc ?_
                first | with_reducible refine aw_condP fun A B hA hB => ?_ | with_reducible refine aw_toS (aw_condP fun A B hA hB => ?_)
                simp []
                refine ⟨fun hc => hA ?_, fun hc => hB ?_⟩ <;> clear hA hB A B <;> (try (simp at hc; done)) <;> (try (exfalso; simp at hc; omega)) <;> clear hc <;> (try with_reducible refine aw_skip ?_)
                repeat with_reducible refine aw_assoc ?_
                first | with_reducible refine aw_region0 fun K' hK => ?_ | with_reducible refine aw_toS (aw_region0 fun K' hK => ?_)
                simp []
                refine hK _ _ _ ?_
                clear K' hK
                repeat with_reducible refine aw_assoc ?_
                first | with_reducible refine aw_ret ?_ | with_reducible refine aw_retL ?_ | with_reducible refine aw_skipL ?_
                simp [blockK, loopK, Post, resA, res1, expT, expA, exp1, expM, expL, okT, okA, ok1, rowOf, Try.f22]
                have h1 : bigD (nth m.deps i) = true := by simp [bigD]; left; omega
                simp only [bigM, Bool.or_eq_true, List.any_eq_true]
                exact .inl (.inr ⟨_, nth_mem hi2, h1⟩)
              · repeat with_reducible refine aw_assoc ?_
                first | with_reducible refine aw_region0 fun K' hK => ?_ | with_reducible refine aw_toS (aw_region0 fun K' hK => ?_)
                simp [g0, s1, s3, hi2, d1]
                refine acall_flat (big35_ok (nth m.deps i).range) rfl (by simp [Rg.cells]) ?_
                simp
                refine hK _ _ _ ?_
                clear K' hK
                repeat with_reducible refine aw_assoc ?_
                first | with_reducible refine aw_condP fun A B hA hB => ?_ | with_reducible refine aw_toS (aw_condP fun A B hA hB => ?_)
                simp []
                refine ⟨fun d2 => hA ?_, fun d2 => hB ?_⟩ <;> clear hA hB A B <;> (try simp at d2) <;> (try with_reducible refine aw_skip ?_)
                · repeat with_reducible refine aw_assoc ?_
                  first | with_reducible refine aw_region0 fun K' hK => ?_ | with_reducible refine aw_toS (aw_region0 fun K' hK => ?_)
                  simp []
                  refine hK _ _ _ ?_
                  clear K' hK
                  repeat with_reducible refine aw_assoc ?_
                  first | with_reducible refine aw_ret ?_ | with_reducible refine aw_retL ?_ | with_reducible refine aw_skipL ?_
                  simp [blockK, loopK, Post, resA, res1, expT, expA, exp1, expM, expL, okT, okA, ok1, rowOf, Try.f22]
                  have h1 : bigD (nth m.deps i) = true := by simp [bigD, d2]
                  simp only [bigM, Bool.or_eq_true, List.any_eq_true]
                  exact .inl (.inr ⟨_, nth_mem hi2, h1⟩)
                · first | with_reducible refine aw_skipL ?_ | skip
                  refine blockK_normal ?_
                  repeat with_reducible refine aw_assoc ?_
                  first | with_reducible refine aw_region0 fun K' hK => ?_ | with_reducible refine aw_toS (aw_region0 fun K' hK => ?_)
                  simp [s3, hw]
                  refine hK _ _ _ ?_
                  clear K' hK
                  refine aw_skipL (loopK_normal ?_ ?_)
                  · exact ⟨by simp [g0], by simp [s1], i + 1, by simp [hw], by omega, any_take hi2 ht (by simp only [bigD, d2, Bool.or_false, decide_eq_false_iff_not]; omega)⟩
                  · simp [s3, hw]; omega
            · repeat with_reducible refine aw_assoc ?_
              first | with_reducible refine aw_exit ?_ | with_reducible refine aw_exitL ?_
              refine loopK_exit (blockK_exit ?_)
              have hD : m.deps.any bigD = false := by rw [List.take_of_length_le (by omega)] at ht; exact ht
              repeat with_reducible refine aw_assoc ?_
              first | with_reducible refine aw_region0 fun K' hK => ?_ | with_reducible refine aw_toS (aw_region0 fun K' hK => ?_)
              simp []
              refine hK _ _ _ ?_
              clear K' hK
              repeat with_reducible refine aw_assoc ?_
              first | with_reducible refine aw_block ?_ | with_reducible refine aw_toS (aw_block ?_)
              refine aw_loop (fun s G nx => G 0 = some (.var 27 m.cells) ∧ s 1 = .ptr 0 0 ∧ ∃ i : Nat, s 4 = iV i ∧ i ≤ m.rules.length ∧ (m.rules.take i).any bigU = false) (fun s _ _ => match s 4 with | .v (.int _ n) => m.rules.length - n.toNat | _ => 0) ?_ ?_
              · exact ⟨by simp [g0], by simp [s1], 0, by simp, by omega, by simp⟩
              · rintro s' G' nx' - ⟨g0', s1', j, s4', hj, htj⟩
                have hwj : IntKind.i64.wrap (↑j + 1) = ((j + 1 : Nat) : Int) := wrapS (by omega)
                repeat with_reducible refine aw_assoc ?_
                first | with_reducible refine aw_region0 fun K' hK => ?_ | with_reducible refine aw_toS (aw_region0 fun K' hK => ?_)
                simp [g0', s1', s4']
                refine hK _ _ _ ?_
                clear K' hK
                repeat with_reducible refine aw_assoc ?_
                first | with_reducible refine aw_condP fun A B hA hB => ?_ | with_reducible refine aw_toS (aw_condP fun A B hA hB => ?_)
                simp []
                refine ⟨fun hj2 => hA ?_, fun hj2 => hB ?_⟩ <;> clear hA hB A B <;> (try simp at hj2) <;> (try with_reducible refine aw_skip ?_)
                · repeat with_reducible refine aw_assoc ?_
                  first | with_reducible refine aw_block ?_ | with_reducible refine aw_toS (aw_block ?_)
                  by_cases d1 : (300 : Int) < ((nth m.rules j).name.size : Int)
                  · repeat with_reducible refine aw_assoc ?_
                    first | with_reducible refine aw_region0 fun K' hK => ?_ | with_reducible refine aw_toS (aw_region0 fun K' hK => ?_)
                    simp [g0', s1', s4', hj2, d1]
                    refine hK _ _ _ ?_
                    clear K' hK
                    repeat with_reducible refine aw_assoc ?_
                    first | with_reducible refine aw_condP fun A B hA hB => ?_ | with_reducible refine aw_toS (aw_condP fun A B hA hB => ?_)
                    simp []
                    refine ⟨fun hc => hA ?_, fun hc => hB ?_⟩ <;> clear hA hB A B <;> (try (simp at hc; done)) <;> (try (exfalso; simp at hc; omega)) <;> clear hc <;> (try with_reducible refine aw_skip ?_)
                    repeat with_reducible refine aw_assoc ?_
                    first | with_reducible refine aw_region0 fun K' hK => ?_ | with_reducible refine aw_toS (aw_region0 fun K' hK => ?_)
                    simp []
                    refine hK _ _ _ ?_
                    clear K' hK
                    repeat with_reducible refine aw_assoc ?_
                    first | with_reducible refine aw_ret ?_ | with_reducible refine aw_retL ?_ | with_reducible refine aw_skipL ?_
                    simp [blockK, loopK, Post, resA, res1, expT, expA, exp1, expM, expL, okT, okA, ok1, rowOf, Try.f22]
                    have h1 : bigU (nth m.rules j) = true := by simp [bigU]; left; omega
                    simp only [bigM, Bool.or_eq_true, List.any_eq_true]
                    exact .inr ⟨_, nth_mem hj2, h1⟩
                  · repeat with_reducible refine aw_assoc ?_
                    first | with_reducible refine aw_region0 fun K' hK => ?_ | with_reducible refine aw_toS (aw_region0 fun K' hK => ?_)
                    simp [g0', s1', s4', hj2, d1]
                    refine acall_flat (big35_ok (nth m.rules j).range) rfl (by simp [Rg.cells]) ?_
                    simp
                    refine hK _ _ _ ?_
                    clear K' hK
                    repeat with_reducible refine aw_assoc ?_
                    first | with_reducible refine aw_condP fun A B hA hB => ?_ | with_reducible refine aw_toS (aw_condP fun A B hA hB => ?_)
                    simp []
                    refine ⟨fun d2 => hA ?_, fun d2 => hB ?_⟩ <;> clear hA hB A B <;> (try simp at d2) <;> (try with_reducible refine aw_skip ?_)
                    · repeat with_reducible refine aw_assoc ?_
                      first | with_reducible refine aw_region0 fun K' hK => ?_ | with_reducible refine aw_toS (aw_region0 fun K' hK => ?_)
                      simp []
                      refine hK _ _ _ ?_
                      clear K' hK
                      repeat with_reducible refine aw_assoc ?_
                      first | with_reducible refine aw_ret ?_ | with_reducible refine aw_retL ?_ | with_reducible refine aw_skipL ?_
                      simp [blockK, loopK, Post, resA, res1, expT, expA, exp1, expM, expL, okT, okA, ok1, rowOf, Try.f22]
                      have h1 : bigU (nth m.rules j) = true := by simp [bigU, d2]
                      simp only [bigM, Bool.or_eq_true, List.any_eq_true]
                      exact .inr ⟨_, nth_mem hj2, h1⟩
                    · first | with_reducible refine aw_skipL ?_ | skip
                      refine blockK_normal ?_
                      repeat with_reducible refine aw_assoc ?_
                      first | with_reducible refine aw_region0 fun K' hK => ?_ | with_reducible refine aw_toS (aw_region0 fun K' hK => ?_)
                      simp [s4', hwj]
                      refine hK _ _ _ ?_
                      clear K' hK
                      refine aw_skipL (loopK_normal ?_ ?_)
                      · exact ⟨by simp [g0'], by simp [s1'], j + 1, by simp [hwj], by omega, any_take hj2 htj (by simp only [bigU, d2, Bool.or_false, decide_eq_false_iff_not]; omega)⟩
                      · simp [s4', hwj]; omega
                · repeat with_reducible refine aw_assoc ?_
                  first | with_reducible refine aw_exit ?_ | with_reducible refine aw_exitL ?_
                  refine loopK_exit (blockK_exit ?_)
                  have hU : m.rules.any bigU = false := by rw [List.take_of_length_le (by omega)] at htj; exact htj
                  repeat with_reducible refine aw_assoc ?_
                  first | with_reducible refine aw_region0 fun K' hK => ?_ | with_reducible refine aw_toS (aw_region0 fun K' hK => ?_)
                  simp []
                  refine hK _ _ _ ?_
                  clear K' hK
                  repeat with_reducible refine aw_assoc ?_
                  first | with_reducible refine aw_ret ?_ | with_reducible refine aw_retL ?_ | with_reducible refine aw_skipL ?_
                  simp [blockK, loopK, Post, resA, res1, expT, expA, exp1, expM, expL, okT, okA, ok1, rowOf, Try.f22]
                  simp [bigM, hD, hU]; omega
end Go.Proofs.YtomidniaekeafaaAbs
