/- Big. -/
import Derived.Test.YtomidniaekeafaaFun6
namespace Go.Proofs.YtomidniaekeafaaAbs
set_option linter.unusedSimpArgs false
set_option linter.unusedVariables false
open Go Go.RowKit Go.Proofs
set_option maxRecDepth 100000
set_option maxHeartbeats 4000000
theorem big34_ok (a b c : Int) (p : Bs) : CallsOK Try.prog 34 [.agg [iV a, iV b, iV c, sV p]] (.v (.bool (decide (300 < p.size)))) [] := by
  refine callsOK mixed Try.call34 Try.func34 rfl (by rw [Try.ntmps34]; simp) ?_ rfl
  rw [Try.ntmps34]
  repeat with_reducible refine aw_assoc ?_
  first | with_reducible refine aw_region0 fun K' hK => ?_ | with_reducible refine aw_toS (aw_region0 fun K' hK => ?_)
  simp []
  refine hK _ _ _ ?_
  clear K' hK
  repeat with_reducible refine aw_assoc ?_
  first | with_reducible refine aw_region0 fun K' hK => ?_ | with_reducible refine aw_toS (aw_region0 fun K' hK => ?_)
  simp [getC]
  refine hK _ _ _ ?_
  clear K' hK
  repeat with_reducible refine aw_assoc ?_
  first | with_reducible refine aw_ret ?_ | with_reducible refine aw_retL ?_ | with_reducible refine aw_skipL ?_
  simp [blockK, loopK, Post, resA, res1, expT, expA, exp1, expM, expL, okT, okA, ok1, rowOf, Try.f34]
  omega
theorem any_take {α : Type} [Inhabited α] {p : α → Bool} {l : List α} {i : Nat} (hi : i < l.length) (h : (l.take i).any p = false) (hn : p (nth l i) = false) : (l.take (i + 1)).any p = false := by
  rw [List.take_add_one, List.getElem?_eq_getElem hi, List.any_append, h, ← nth_eq hi]
  simp [hn]
def bigB (b : Bd) : Bool := decide (300 < b.pre.size)
def bigA (l : Alt) : Bool := decide (20 < l.length) || l.any bigB
def bigR (r : Rg) : Bool := decide (20 < r.length) || r.any bigA
theorem big35_ok (r : Rg) : CallsOK Try.prog 35 [.agg r.cells] (.v (.bool (bigR r))) [] := by
  refine callsOK mixed Try.call35 Try.func35 rfl (by rw [Try.ntmps35]; simp) ?_ rfl
  rw [Try.ntmps35]
  repeat with_reducible refine aw_assoc ?_
  first | with_reducible refine aw_region0 fun K' hK => ?_ | with_reducible refine aw_toS (aw_region0 fun K' hK => ?_)
  simp [Rg.cells]
  refine hK _ _ _ ?_
  clear K' hK
  repeat with_reducible refine aw_assoc ?_
  first | with_reducible refine aw_region0 fun K' hK => ?_ | with_reducible refine aw_toS (aw_region0 fun K' hK => ?_)
  simp []
  refine hK _ _ _ ?_
  clear K' hK
  repeat with_reducible refine aw_assoc ?_
  first | with_reducible refine aw_condP fun A B hA hB => ?_ | with_reducible refine aw_toS (aw_condP fun A B hA hB => ?_)
  simp []
  refine ⟨fun hl => hA ?_, fun hl => hB ?_⟩ <;> clear hA hB A B <;> (try simp at hl) <;> (try with_reducible refine aw_skip ?_)
  · repeat with_reducible refine aw_assoc ?_
    first | with_reducible refine aw_region0 fun K' hK => ?_ | with_reducible refine aw_toS (aw_region0 fun K' hK => ?_)
    simp []
    refine hK _ _ _ ?_
    clear K' hK
    repeat with_reducible refine aw_assoc ?_
    first | with_reducible refine aw_ret ?_ | with_reducible refine aw_retL ?_ | with_reducible refine aw_skipL ?_
    simp [blockK, loopK, Post, resA, res1, expT, expA, exp1, expM, expL, okT, okA, ok1, rowOf, Try.f35]
    simp [bigR]; omega
  · repeat with_reducible refine aw_assoc ?_
    first | with_reducible refine aw_region0 fun K' hK => ?_ | with_reducible refine aw_toS (aw_region0 fun K' hK => ?_)
    simp []
    refine hK _ _ _ ?_
    clear K' hK
    repeat with_reducible refine aw_assoc ?_
    first | with_reducible refine aw_block ?_ | with_reducible refine aw_toS (aw_block ?_)
    refine aw_loop (fun s G nx => G 0 = some (.var 33 [rowT Alt.cells r]) ∧ s 1 = .ptr 0 0 ∧ ∃ i : Nat, s 3 = iV i ∧ i ≤ r.length ∧ (r.take i).any bigA = false) (fun s _ _ => match s 3 with | .v (.int _ n) => r.length - n.toNat | _ => 0) ?_ ?_
    · exact ⟨by simp, by simp, 0, by simp, by omega, by simp⟩
    · rintro s G nx - ⟨g0, s1, i, s3, hi, ht⟩
      have hw : IntKind.i64.wrap (↑i + 1) = ((i + 1 : Nat) : Int) := wrapS (by omega)
      repeat with_reducible refine aw_assoc ?_
      first | with_reducible refine aw_region0 fun K' hK => ?_ | with_reducible refine aw_toS (aw_region0 fun K' hK => ?_)
      simp [g0, s1, s3]
      refine hK _ _ _ ?_
      clear K' hK
      repeat with_reducible refine aw_assoc ?_
      first | with_reducible refine aw_condP fun A B hA hB => ?_ | with_reducible refine aw_toS (aw_condP fun A B hA hB => ?_)
      simp []
      refine ⟨fun hi2 => hA ?_, fun hi2 => hB ?_⟩ <;> clear hA hB A B <;> (try simp at hi2) <;> (try with_reducible refine aw_skip ?_)
      · repeat with_reducible refine aw_assoc ?_
        first | with_reducible refine aw_block ?_ | with_reducible refine aw_toS (aw_block ?_)
        repeat with_reducible refine aw_assoc ?_
        first | with_reducible refine aw_region0 fun K' hK => ?_ | with_reducible refine aw_toS (aw_region0 fun K' hK => ?_)
        simp [g0, s1, s3, hi2]
        refine hK _ _ _ ?_
        clear K' hK
        repeat with_reducible refine aw_assoc ?_
        first | with_reducible refine aw_condP fun A B hA hB => ?_ | with_reducible refine aw_toS (aw_condP fun A B hA hB => ?_)
        simp []
        refine ⟨fun hl2 => hA ?_, fun hl2 => hB ?_⟩ <;> clear hA hB A B <;> (try simp at hl2) <;> (try with_reducible refine aw_skip ?_)
        · repeat with_reducible refine aw_assoc ?_
          first | with_reducible refine aw_region0 fun K' hK => ?_ | with_reducible refine aw_toS (aw_region0 fun K' hK => ?_)
          simp []
          refine hK _ _ _ ?_
          clear K' hK
          repeat with_reducible refine aw_assoc ?_
          first | with_reducible refine aw_ret ?_ | with_reducible refine aw_retL ?_ | with_reducible refine aw_skipL ?_
          simp [blockK, loopK, Post, resA, res1, expT, expA, exp1, expM, expL, okT, okA, ok1, rowOf, Try.f35]
          have : bigA (nth r i) = true := by simp [bigA]; left; omega
          simp only [bigR, Bool.or_eq_true, List.any_eq_true]
          exact .inr ⟨_, nth_mem hi2, this⟩
        · repeat with_reducible refine aw_assoc ?_
          first | with_reducible refine aw_region0 fun K' hK => ?_ | with_reducible refine aw_toS (aw_region0 fun K' hK => ?_)
          simp []
          refine hK _ _ _ ?_
          clear K' hK
          repeat with_reducible refine aw_assoc ?_
          first | with_reducible refine aw_block ?_ | with_reducible refine aw_toS (aw_block ?_)
          refine aw_loop (fun s G nx => G 0 = some (.var 33 [rowT Alt.cells r]) ∧ s 1 = .ptr 0 0 ∧ s 3 = iV i ∧ ∃ j : Nat, s 4 = iV j ∧ j ≤ (nth r i).length ∧ ((nth r i).take j).any bigB = false) (fun s _ _ => match s 4 with | .v (.int _ n) => (nth r i).length - n.toNat | _ => 0) ?_ ?_
          · exact ⟨by simp [g0], by simp [s1], by simp [s3], 0, by simp, by omega, by simp⟩
          · rintro s' G' nx' - ⟨g0', s1', s3', j, s4', hj, htj⟩
            have hwj : IntKind.i64.wrap (↑j + 1) = ((j + 1 : Nat) : Int) := wrapS (by omega)
            repeat with_reducible refine aw_assoc ?_
            first | with_reducible refine aw_region0 fun K' hK => ?_ | with_reducible refine aw_toS (aw_region0 fun K' hK => ?_)
            simp [g0', s1', s3', s4', hi2]
            refine hK _ _ _ ?_
            clear K' hK
            repeat with_reducible refine aw_assoc ?_
            first | with_reducible refine aw_condP fun A B hA hB => ?_ | with_reducible refine aw_toS (aw_condP fun A B hA hB => ?_)
            simp []
            refine ⟨fun hj2 => hA ?_, fun hj2 => hB ?_⟩ <;> clear hA hB A B <;> (try simp at hj2) <;> (try with_reducible refine aw_skip ?_)
            · repeat with_reducible refine aw_assoc ?_
              first | with_reducible refine aw_block ?_ | with_reducible refine aw_toS (aw_block ?_)
              repeat with_reducible refine aw_assoc ?_
              first | with_reducible refine aw_region0 fun K' hK => ?_ | with_reducible refine aw_toS (aw_region0 fun K' hK => ?_)
              simp [g0', s1', s3', s4', hi2, hj2]
              refine acall_flat (big34_ok (nth (nth r i) j).maj (nth (nth r i) j).min (nth (nth r i) j).pat (nth (nth r i) j).pre) rfl (by simp) ?_
              simp
              refine hK _ _ _ ?_
              clear K' hK
              repeat with_reducible refine aw_assoc ?_
              first | with_reducible refine aw_condP fun A B hA hB => ?_ | with_reducible refine aw_toS (aw_condP fun A B hA hB => ?_)
              simp []
              refine ⟨fun hb => hA ?_, fun hb => hB ?_⟩ <;> clear hA hB A B <;> (try simp at hb) <;> (try with_reducible refine aw_skip ?_)
              · repeat with_reducible refine aw_assoc ?_
                first | with_reducible refine aw_region0 fun K' hK => ?_ | with_reducible refine aw_toS (aw_region0 fun K' hK => ?_)
                simp []
                refine hK _ _ _ ?_
                clear K' hK
                repeat with_reducible refine aw_assoc ?_
                first | with_reducible refine aw_ret ?_ | with_reducible refine aw_retL ?_ | with_reducible refine aw_skipL ?_
                simp [blockK, loopK, Post, resA, res1, expT, expA, exp1, expM, expL, okT, okA, ok1, rowOf, Try.f35]
                have h1 : bigB (nth (nth r i) j) = true := by simp [bigB]; omega
                have h2 : bigA (nth r i) = true := by
                  simp only [bigA, Bool.or_eq_true, List.any_eq_true]
                  exact .inr ⟨_, nth_mem hj2, h1⟩
                simp only [bigR, Bool.or_eq_true, List.any_eq_true]
                exact .inr ⟨_, nth_mem hi2, h2⟩
              · first | with_reducible refine aw_skipL ?_ | skip
                refine blockK_normal ?_
                repeat with_reducible refine aw_assoc ?_
                first | with_reducible refine aw_region0 fun K' hK => ?_ | with_reducible refine aw_toS (aw_region0 fun K' hK => ?_)
                simp [s4', hwj]
                refine hK _ _ _ ?_
                clear K' hK
                refine aw_skipL (loopK_normal ?_ ?_)
                · exact ⟨by simp [g0'], by simp [s1'], by simp [s3'], j + 1, by simp [hwj], by omega, any_take hj2 htj (by simp [bigB]; omega)⟩
                · simp [s4', hwj]; omega
            · repeat with_reducible refine aw_assoc ?_
              first | with_reducible refine aw_exit ?_ | with_reducible refine aw_exitL ?_
              refine loopK_exit (blockK_exit ?_)
              first | with_reducible refine aw_skipL ?_ | skip
              refine blockK_normal ?_
              repeat with_reducible refine aw_assoc ?_
              first | with_reducible refine aw_region0 fun K' hK => ?_ | with_reducible refine aw_toS (aw_region0 fun K' hK => ?_)
              simp [s3', hw]
              refine hK _ _ _ ?_
              clear K' hK
              have hA : bigA (nth r i) = false := by
                rw [List.take_of_length_le (by omega)] at htj
                simp only [bigA, htj, Bool.or_false, decide_eq_false_iff_not]; omega
              refine aw_skipL (loopK_normal ?_ ?_)
              · exact ⟨by simp [g0'], by simp [s1'], i + 1, by simp [hw], by omega, any_take hi2 ht hA⟩
              · simp [s3, s3', hw]; omega
      · repeat with_reducible refine aw_assoc ?_
        first | with_reducible refine aw_exit ?_ | with_reducible refine aw_exitL ?_
        refine loopK_exit (blockK_exit ?_)
        repeat with_reducible refine aw_assoc ?_
        first | with_reducible refine aw_region0 fun K' hK => ?_ | with_reducible refine aw_toS (aw_region0 fun K' hK => ?_)
        simp []
        refine hK _ _ _ ?_
        clear K' hK
        repeat with_reducible refine aw_assoc ?_
        first | with_reducible refine aw_ret ?_ | with_reducible refine aw_retL ?_ | with_reducible refine aw_skipL ?_
        simp [blockK, loopK, Post, resA, res1, expT, expA, exp1, expM, expL, okT, okA, ok1, rowOf, Try.f35]
        rw [List.take_of_length_le (by omega)] at ht
        simp only [bigR, ht, Bool.or_false, decide_eq_false_iff_not]; omega
end Go.Proofs.YtomidniaekeafaaAbs
