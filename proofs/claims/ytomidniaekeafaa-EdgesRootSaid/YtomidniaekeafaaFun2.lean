/- edges.Rule. -/
import Derived.Test.YtomidniaekeafaaFun1
namespace Go.Proofs.YtomidniaekeafaaAbs
set_option linter.unusedSimpArgs false
set_option linter.unusedVariables false
open Go Go.RowKit Go.Proofs
set_option maxRecDepth 100000
set_option maxHeartbeats 4000000
theorem rule1_ok (d : Ru) (name : Bs) : CallsOK Try.prog 29 [.agg d.cells, .cp [sV name] 0] (.v (.bool (decide (d.name = name)))) [] := by
  refine callsOK mixed Try.call29 Try.func29 rfl (by rw [Try.ntmps29]; simp) ?_ rfl
  rw [Try.ntmps29]
  repeat with_reducible refine aw_assoc ?_
  first | with_reducible refine aw_region0 fun K' hK => ?_ | with_reducible refine aw_toS (aw_region0 fun K' hK => ?_)
  simp []
  refine hK _ _ _ ?_
  clear K' hK
  repeat with_reducible refine aw_assoc ?_
  first | with_reducible refine aw_region0 fun K' hK => ?_ | with_reducible refine aw_toS (aw_region0 fun K' hK => ?_)
  simp [getC]
  refine hK _ _ _ ?_
  clear K' hK
  repeat with_reducible refine aw_assoc ?_
  first | with_reducible refine aw_ret ?_ | with_reducible refine aw_retL ?_ | with_reducible refine aw_skipL ?_
  simp [blockK, loopK, Post, resA, res1, expT, expA, exp1, expM, expL, okT, okA, ok1, rowOf, Try.f29]
  try exact beq_toList _ _
def atF (rules : List Ru) (name : Bs) : Option Nat := rules.findIdx? fun d => decide (d.name = name)
def atI : Option Nat → Int
  | some i => i
  | none => -1
theorem index_ok (rules : List Ru) (name : Bs) (hl : rules.length < 4611686018427387904) : CallsOK Try.prog 28 [rowT Ru.cells rules, .fn 29 [.cp [sV name] 0]] (iV (atI (atF rules name))) [] := by
  refine callsOK mixed Try.call28 Try.func28 rfl (by rw [Try.ntmps28]; simp) ?_ rfl
  rw [Try.ntmps28]
  repeat with_reducible refine aw_assoc ?_
  first | with_reducible refine aw_region0 fun K' hK => ?_ | with_reducible refine aw_toS (aw_region0 fun K' hK => ?_)
  simp []
  refine hK _ _ _ ?_
  clear K' hK
  repeat with_reducible refine aw_assoc ?_
  first | with_reducible refine aw_region0 fun K' hK => ?_ | with_reducible refine aw_toS (aw_region0 fun K' hK => ?_)
  simp []
  refine hK _ _ _ ?_
  clear K' hK
  repeat with_reducible refine aw_assoc ?_
  first | with_reducible refine aw_block ?_ | with_reducible refine aw_toS (aw_block ?_)
  refine aw_loop (fun s G nx => s 0 = rowT Ru.cells rules ∧ s 1 = .fn 29 [.cp [sV name] 0] ∧ s 7 = iV rules.length ∧ ∃ i : Nat, s 8 = iV i ∧ i ≤ rules.length ∧ ∀ j, j < i → ¬ (nth rules j).name = name) (fun s _ _ => match s 8 with | .v (.int _ n) => rules.length - n.toNat | _ => 0) ?_ ?_
  · simp
    exact ⟨0, by simp⟩
  · rintro s G nx - ⟨s0, s1, s7, i, s8, hi, hno⟩
    have hw : IntKind.i64.wrap (↑i + 1) = ((i + 1 : Nat) : Int) := wrapS (by omega)
    repeat with_reducible refine aw_assoc ?_
    first | with_reducible refine aw_region0 fun K' hK => ?_ | with_reducible refine aw_toS (aw_region0 fun K' hK => ?_)
    simp [s7, s8]
    refine hK _ _ _ ?_
    clear K' hK
    repeat with_reducible refine aw_assoc ?_
    first | with_reducible refine aw_condP fun A B hA hB => ?_ | with_reducible refine aw_toS (aw_condP fun A B hA hB => ?_)
    simp []
    refine ⟨fun hi2 => hA ?_, fun hi2 => hB ?_⟩ <;> clear hA hB A B <;> (try simp at hi2) <;> (try with_reducible refine aw_skip ?_)
    · repeat with_reducible refine aw_assoc ?_
      first | with_reducible refine aw_block ?_ | with_reducible refine aw_toS (aw_block ?_)
      repeat with_reducible refine aw_assoc ?_
      first | with_reducible refine aw_region0 fun K' hK => ?_ | with_reducible refine aw_toS (aw_region0 fun K' hK => ?_)
      simp [s8]
      refine hK _ _ _ ?_
      clear K' hK
      repeat with_reducible refine aw_assoc ?_
      first | with_reducible refine aw_region0 fun K' hK => ?_ | with_reducible refine aw_toS (aw_region0 fun K' hK => ?_)
      simp [s0, s1, hi2]
      refine acall_flat (rule1_ok (nth rules i) name) rfl (by simp) ?_
      simp
      refine hK _ _ _ ?_
      clear K' hK
      repeat with_reducible refine aw_assoc ?_
      first | with_reducible refine aw_condP fun A B hA hB => ?_ | with_reducible refine aw_toS (aw_condP fun A B hA hB => ?_)
      simp []
      refine ⟨fun hc => hA ?_, fun hc => hB ?_⟩ <;> clear hA hB A B <;> (try simp at hc) <;> (try with_reducible refine aw_skip ?_)
      · repeat with_reducible refine aw_assoc ?_
        first | with_reducible refine aw_region0 fun K' hK => ?_ | with_reducible refine aw_toS (aw_region0 fun K' hK => ?_)
        simp []
        refine hK _ _ _ ?_
        clear K' hK
        repeat with_reducible refine aw_assoc ?_
        first | with_reducible refine aw_ret ?_ | with_reducible refine aw_retL ?_ | with_reducible refine aw_skipL ?_
        simp [blockK, loopK, Post, resA, res1, expT, expA, exp1, expM, expL, okT, okA, ok1, rowOf, Try.f28]
        have : atF rules name = some i := by
          unfold atF
          rw [List.findIdx?_eq_some_iff_getElem]
          refine ⟨hi2, by rw [← nth_eq hi2]; simpa using hc, fun j hj => ?_⟩
          rw [← nth_eq (by omega)]; simpa using hno j hj
        simp [this, atI]
      · first | with_reducible refine aw_skipL ?_ | skip
        refine blockK_normal ?_
        repeat with_reducible refine aw_assoc ?_
        first | with_reducible refine aw_region0 fun K' hK => ?_ | with_reducible refine aw_toS (aw_region0 fun K' hK => ?_)
        simp [s8, hw]
        refine hK _ _ _ ?_
        clear K' hK
        refine aw_skipL (loopK_normal ?_ ?_)
        · simp [s0, s1, s7, hw]
          refine ⟨i + 1, by simp, by omega, fun j hj => ?_⟩
          rcases Nat.lt_or_ge j i with h1 | h1
          · exact hno j h1
          · have : j = i := by omega
            subst this; exact hc
        · simp [s8, hw]; omega
    · repeat with_reducible refine aw_assoc ?_
      first | with_reducible refine aw_exit ?_ | with_reducible refine aw_exitL ?_
      refine loopK_exit (blockK_exit ?_)
      repeat with_reducible refine aw_assoc ?_
      first | with_reducible refine aw_region0 fun K' hK => ?_ | with_reducible refine aw_toS (aw_region0 fun K' hK => ?_)
      simp []
      refine hK _ _ _ ?_
      clear K' hK
      repeat with_reducible refine aw_assoc ?_
      first | with_reducible refine aw_ret ?_ | with_reducible refine aw_retL ?_ | with_reducible refine aw_skipL ?_
      simp [blockK, loopK, Post, resA, res1, expT, expA, exp1, expM, expL, okT, okA, ok1, rowOf, Try.f28]
      have : atF rules name = none := by
        unfold atF
        rw [List.findIdx?_eq_none_iff]
        intro d hd
        obtain ⟨j, hj, rfl⟩ := List.mem_iff_getElem.1 hd
        rw [← nth_eq hj]; simpa using hno j (by omega)
      simp [this, atI]
def ruleF (rules : List Ru) (name : Bs) : Rg := match atF rules name with
  | some i => (nth rules i).range
  | none => []
def Ru.okL (rules : List Ru) : Prop := rules.length < 1000000000000 ∧ ∀ d ∈ rules, d.range.length < 1000000000000 ∧ ∀ l ∈ d.range, l.length < 1000000000000
theorem rule11_some (rules : List Ru) (name : Bs) (hl : Ru.okL rules) {i : Nat} (hi : atF rules name = some i) : CallsOK Try.prog 11 [rowT Ru.cells rules, sV name] (.tup [.agg [.row 0 (nth rules i).range.length], .v (.bool true)]) [(66, flat Alt.cells (nth rules i).range)] := by
  have hlt : i < rules.length := by
    unfold atF at hi
    rw [List.findIdx?_eq_some_iff_getElem] at hi
    exact hi.1
  refine callsOK mixed Try.call11 Try.func11 rfl (by rw [Try.ntmps11]; simp) ?_ rfl
  rw [Try.ntmps11]
  repeat with_reducible refine aw_assoc ?_
  first | with_reducible refine aw_region0 fun K' hK => ?_ | with_reducible refine aw_toS (aw_region0 fun K' hK => ?_)
  simp []
  refine hK _ _ _ ?_
  clear K' hK
  repeat with_reducible refine aw_assoc ?_
  first | with_reducible refine aw_region0 fun K' hK => ?_ | with_reducible refine aw_toS (aw_region0 fun K' hK => ?_)
  simp []
  refine acall_flat (index_ok rules name (by have := hl.1; omega)) rfl (by simp) ?_
  simp [hi, atI]
  refine hK _ _ _ ?_
  clear K' hK
  repeat with_reducible refine aw_assoc ?_
  first | with_reducible refine aw_region0 fun K' hK => ?_ | with_reducible refine aw_toS (aw_region0 fun K' hK => ?_)
  simp []
  refine hK _ _ _ ?_
  clear K' hK
  repeat with_reducible refine aw_assoc ?_
  first | with_reducible refine aw_condP fun A B hA hB => ?_ | with_reducible refine aw_toS (aw_condP fun A B hA hB => ?_)
  simp []
  refine ⟨fun hc => hA ?_, fun hc => hB ?_⟩ <;> clear hA hB A B <;> (try (simp at hc; done)) <;> (try (exfalso; simp at hc; omega)) <;> clear hc <;> (try with_reducible refine aw_skip ?_)
  repeat with_reducible refine aw_assoc ?_
  first | with_reducible refine aw_region0 fun K' hK => ?_ | with_reducible refine aw_toS (aw_region0 fun K' hK => ?_)
  simp [hlt]
  refine acall_new (own27_ok (nth rules i).range (hl.2 _ (nth_mem hlt))) (by simp [Rg.cells]) ?_
  simp [addJ_one, Rg.cells]
  refine hK _ _ _ ?_
  clear K' hK
  repeat with_reducible refine aw_assoc ?_
  first | with_reducible refine aw_ret ?_ | with_reducible refine aw_retL ?_ | with_reducible refine aw_skipL ?_
  simp [blockK, loopK, Post, resA, res1, expT, expA, exp1, expM, expL, okT, okA, ok1, rowOf, Try.f11]
theorem rule11_none (rules : List Ru) (name : Bs) (hl : Ru.okL rules) (hi : atF rules name = none) : CallsOK Try.prog 11 [rowT Ru.cells rules, sV name] (.tup [.agg [.v (.slice none 0 0)], .v (.bool false)]) [] := by
  refine callsOK mixed Try.call11 Try.func11 rfl (by rw [Try.ntmps11]; simp) ?_ rfl
  rw [Try.ntmps11]
  repeat with_reducible refine aw_assoc ?_
  first | with_reducible refine aw_region0 fun K' hK => ?_ | with_reducible refine aw_toS (aw_region0 fun K' hK => ?_)
  simp []
  refine hK _ _ _ ?_
  clear K' hK
  repeat with_reducible refine aw_assoc ?_
  first | with_reducible refine aw_region0 fun K' hK => ?_ | with_reducible refine aw_toS (aw_region0 fun K' hK => ?_)
  simp []
  refine acall_flat (index_ok rules name (by have := hl.1; omega)) rfl (by simp) ?_
  simp [hi, atI]
  refine hK _ _ _ ?_
  clear K' hK
  repeat with_reducible refine aw_assoc ?_
  first | with_reducible refine aw_region0 fun K' hK => ?_ | with_reducible refine aw_toS (aw_region0 fun K' hK => ?_)
  simp []
  refine hK _ _ _ ?_
  clear K' hK
  repeat with_reducible refine aw_assoc ?_
  first | with_reducible refine aw_condP fun A B hA hB => ?_ | with_reducible refine aw_toS (aw_condP fun A B hA hB => ?_)
  simp []
  refine ⟨fun hc => hA ?_, fun hc => hB ?_⟩ <;> clear hA hB A B <;> (try (simp at hc; done)) <;> (try (exfalso; simp at hc; omega)) <;> clear hc <;> (try with_reducible refine aw_skip ?_)
  repeat with_reducible refine aw_assoc ?_
  first | with_reducible refine aw_region0 fun K' hK => ?_ | with_reducible refine aw_toS (aw_region0 fun K' hK => ?_)
  simp []
  refine hK _ _ _ ?_
  clear K' hK
  repeat with_reducible refine aw_assoc ?_
  first | with_reducible refine aw_ret ?_ | with_reducible refine aw_retL ?_ | with_reducible refine aw_skipL ?_
  simp [blockK, loopK, Post, resA, res1, expT, expA, exp1, expM, expL, okT, okA, ok1, rowOf, Try.f11]
end Go.Proofs.YtomidniaekeafaaAbs
