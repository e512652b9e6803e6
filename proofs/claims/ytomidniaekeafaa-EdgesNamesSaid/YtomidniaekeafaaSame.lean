/- hoggetref05.Same. -/
import Derived.Test.YtomidniaekeafaaDat
namespace Go.Proofs.YtomidniaekeafaaAbs
set_option linter.unusedSimpArgs false
set_option linter.unusedVariables false
open Go Go.RowKit Go.Proofs
set_option maxRecDepth 100000
set_option maxHeartbeats 4000000
def Rg.ok (r : Rg) : Prop := r.length < 4611686018427387904 ∧ ∀ l ∈ r, l.length < 4611686018427387904
abbrev H2 (a b : List AV) : Hp := (Hp.upd (fun _ => none) 0 (.var 33 a)).upd 1 (.var 33 b)
theorem same05_ok (x y : Rg) (hx : x.ok) : CallsOK Try.prog 15 [.agg x.cells, .agg y.cells] (.v (.bool (decide (x = y)))) [] := by
  refine callsOK mixed Try.call15 Try.func15 rfl (by rw [Try.ntmps15]; simp) ?_ rfl
  rw [Try.ntmps15]
  repeat with_reducible refine aw_assoc ?_
  first | with_reducible refine aw_region0 fun K' hK => ?_ | with_reducible refine aw_toS (aw_region0 fun K' hK => ?_)
  simp [Rg.cells]
  refine hK _ _ _ ?_
  clear K' hK
  repeat with_reducible refine aw_assoc ?_
  first | with_reducible refine aw_region0 fun K' hK => ?_ | with_reducible refine aw_toS (aw_region0 fun K' hK => ?_)
  simp []
  refine hK _ _ _ ?_
  clear K' hK
  repeat with_reducible refine aw_assoc ?_
  first | with_reducible refine aw_condP fun A B hA hB => ?_ | with_reducible refine aw_toS (aw_condP fun A B hA hB => ?_)
  simp []
  refine ⟨fun hl => hA ?_, fun hl => hB ?_⟩ <;> clear hA hB A B <;> (try simp at hl) <;> (try with_reducible refine aw_skip ?_)
  · repeat with_reducible refine aw_assoc ?_
    first | with_reducible refine aw_region0 fun K' hK => ?_ | with_reducible refine aw_toS (aw_region0 fun K' hK => ?_)
    simp []
    refine hK _ _ _ ?_
    clear K' hK
    repeat with_reducible refine aw_assoc ?_
    first | with_reducible refine aw_ret ?_ | with_reducible refine aw_retL ?_ | with_reducible refine aw_skipL ?_
    simp [blockK, loopK, Post, resA, res1, expT, expA, exp1, expM, expL, okT, okA, ok1, rowOf, Try.f15]
    intro e; exact hl (by rw [e])
  · repeat with_reducible refine aw_assoc ?_
    first | with_reducible refine aw_region0 fun K' hK => ?_ | with_reducible refine aw_toS (aw_region0 fun K' hK => ?_)
    simp []
    refine hK _ _ _ ?_
    clear K' hK
    repeat with_reducible refine aw_assoc ?_
    first | with_reducible refine aw_block ?_ | with_reducible refine aw_toS (aw_block ?_)
    refine aw_loop (fun s G nx => G = H2 x.cells y.cells ∧ nx = 2 ∧ s 2 = .ptr 0 0 ∧ s 3 = .ptr 1 0 ∧ ∃ i : Nat, s 5 = iV i ∧ i ≤ x.length ∧ x.take i = y.take i) (fun s _ _ => match s 5 with | .v (.int _ n) => x.length - n.toNat | _ => 0) ?_ ?_
    · simp
      exact ⟨rfl, 0, by simp⟩
    · rintro s G nx - ⟨rfl, rfl, h2, h3, i, h5, hi, ht⟩
      repeat with_reducible refine aw_assoc ?_
      first | with_reducible refine aw_region0 fun K' hK => ?_ | with_reducible refine aw_toS (aw_region0 fun K' hK => ?_)
      simp [h2, h3, h5, Rg.cells]
      refine hK _ _ _ ?_
      clear K' hK
      repeat with_reducible refine aw_assoc ?_
      first | with_reducible refine aw_condP fun A B hA hB => ?_ | with_reducible refine aw_toS (aw_condP fun A B hA hB => ?_)
      simp []
      refine ⟨fun hi2 => hA ?_, fun hi2 => hB ?_⟩ <;> clear hA hB A B <;> (try simp at hi2) <;> (try with_reducible refine aw_skip ?_)
      · have hi3 : i < y.length := by omega
        repeat with_reducible refine aw_assoc ?_
        first | with_reducible refine aw_block ?_ | with_reducible refine aw_toS (aw_block ?_)
        repeat with_reducible refine aw_assoc ?_
        first | with_reducible refine aw_region1 (by decide +kernel) fun K' hK => ?_ | with_reducible refine aw_toS (aw_region1 (by decide +kernel) fun K' hK => ?_)
        simp [h2, h3, h5, hi2, hi3]
        refine hK _ _ _ ?_
        clear K' hK
        repeat with_reducible refine aw_assoc ?_
        first | with_reducible refine aw_condP fun A B hA hB => ?_ | with_reducible refine aw_toS (aw_condP fun A B hA hB => ?_)
        simp []
        refine ⟨fun hl2 => hA ?_, fun hl2 => hB ?_⟩ <;> clear hA hB A B <;> (try simp at hl2) <;> (try with_reducible refine aw_skip ?_)
        · repeat with_reducible refine aw_assoc ?_
          first | with_reducible refine aw_region0 fun K' hK => ?_ | with_reducible refine aw_toS (aw_region0 fun K' hK => ?_)
          simp []
          refine hK _ _ _ ?_
          clear K' hK
          repeat with_reducible refine aw_assoc ?_
          first | with_reducible refine aw_ret ?_ | with_reducible refine aw_retL ?_ | with_reducible refine aw_skipL ?_
          simp [blockK, loopK, Post, resA, res1, expT, expA, exp1, expM, expL, okT, okA, ok1, rowOf, Try.f15]
          exact ne_nth (i := i) fun e => hl2 (by rw [e])
        · repeat with_reducible refine aw_assoc ?_
          first | with_reducible refine aw_region0 fun K' hK => ?_ | with_reducible refine aw_toS (aw_region0 fun K' hK => ?_)
          simp []
          refine hK _ _ _ ?_
          clear K' hK
          repeat with_reducible refine aw_assoc ?_
          first | with_reducible refine aw_block ?_ | with_reducible refine aw_toS (aw_block ?_)
          refine aw_loop (fun s G nx => G = H2 x.cells y.cells ∧ nx = 2 ∧ s 2 = .ptr 0 0 ∧ s 3 = .ptr 1 0 ∧ s 5 = iV i ∧ ∃ j : Nat, s 6 = iV j ∧ j ≤ (nth x i).length ∧ (nth x i).take j = (nth y i).take j) (fun s _ _ => match s 6 with | .v (.int _ n) => (nth x i).length - n.toNat | _ => 0) ?_ ?_
          · simp [h2, h3, h5]
            exact ⟨rfl, 0, by simp⟩
          · rintro s' G' nx' - ⟨rfl, rfl, h2', h3', h5', j, h6, hj, htj⟩
            repeat with_reducible refine aw_assoc ?_
            first | with_reducible refine aw_region0 fun K' hK => ?_ | with_reducible refine aw_toS (aw_region0 fun K' hK => ?_)
            simp [h2', h3', h5', h6, hi2, hi3, Rg.cells]
            refine hK _ _ _ ?_
            clear K' hK
            repeat with_reducible refine aw_assoc ?_
            first | with_reducible refine aw_condP fun A B hA hB => ?_ | with_reducible refine aw_toS (aw_condP fun A B hA hB => ?_)
            simp []
            refine ⟨fun hj2 => hA ?_, fun hj2 => hB ?_⟩ <;> clear hA hB A B <;> (try simp at hj2) <;> (try with_reducible refine aw_skip ?_)
            · have hj3 : j < (nth y i).length := by omega
              have hw : IntKind.i64.wrap (↑j + 1) = ((j + 1 : Nat) : Int) := wrapS (by have := hx.2 _ (nth_mem hi2); omega)
              repeat with_reducible refine aw_assoc ?_
              first | with_reducible refine aw_block ?_ | with_reducible refine aw_toS (aw_block ?_)
              repeat with_reducible refine aw_assoc ?_
              first | with_reducible refine aw_region1 (by decide +kernel) fun K' hK => ?_ | with_reducible refine aw_toS (aw_region1 (by decide +kernel) fun K' hK => ?_)
              simp [h2', h3', h5', h6, hi2, hi3, hj2, hj3]
              refine hK _ _ _ ?_
              clear K' hK
              repeat with_reducible refine aw_assoc ?_
              first | with_reducible refine aw_condP fun A B hA hB => ?_ | with_reducible refine aw_toS (aw_condP fun A B hA hB => ?_)
              simp []
              refine ⟨fun hne => hA ?_, fun hne => hB ?_⟩ <;> clear hA hB A B <;> (try simp at hne) <;> (try with_reducible refine aw_skip ?_)
              · repeat with_reducible refine aw_assoc ?_
                first | with_reducible refine aw_region0 fun K' hK => ?_ | with_reducible refine aw_toS (aw_region0 fun K' hK => ?_)
                simp []
                refine hK _ _ _ ?_
                clear K' hK
                repeat with_reducible refine aw_assoc ?_
                first | with_reducible refine aw_ret ?_ | with_reducible refine aw_retL ?_ | with_reducible refine aw_skipL ?_
                simp [blockK, loopK, Post, resA, res1, expT, expA, exp1, expM, expL, okT, okA, ok1, rowOf, Try.f15]
                exact ne_nth (i := i) (ne_nth (i := j) hne)
              · first | with_reducible refine aw_skipL ?_ | skip
                refine blockK_normal ?_
                repeat with_reducible refine aw_assoc ?_
                first | with_reducible refine aw_region0 fun K' hK => ?_ | with_reducible refine aw_toS (aw_region0 fun K' hK => ?_)
                simp [h2', h3', h5', h6, hw]
                refine hK _ _ _ ?_
                clear K' hK
                refine aw_skipL (loopK_normal ?_ ?_)
                · simp [h2', h3', h5', hw]
                  exact ⟨rfl, j + 1, by simp, by omega, take_nth hj2 hj3 htj hne⟩
                · simp [h6, hw]; omega
            · repeat with_reducible refine aw_assoc ?_
              first | with_reducible refine aw_exit ?_ | with_reducible refine aw_exitL ?_
              refine loopK_exit (blockK_exit ?_)
              first | with_reducible refine aw_skipL ?_ | skip
              refine blockK_normal ?_
              have he : nth x i = nth y i := eq_of_take (by omega) (by omega) htj
              have hw : IntKind.i64.wrap (↑i + 1) = ((i + 1 : Nat) : Int) := wrapS (by have := hx.1; omega)
              repeat with_reducible refine aw_assoc ?_
              first | with_reducible refine aw_region0 fun K' hK => ?_ | with_reducible refine aw_toS (aw_region0 fun K' hK => ?_)
              simp [h2', h3', h5', h6, hw]
              refine hK _ _ _ ?_
              clear K' hK
              refine aw_skipL (loopK_normal ?_ ?_)
              · simp [h2', h3', h5', hw]
                exact ⟨rfl, i + 1, by simp, by omega, take_nth hi2 hi3 ht he⟩
              · simp [h5, h5', hw]; omega
      · repeat with_reducible refine aw_assoc ?_
        first | with_reducible refine aw_exit ?_ | with_reducible refine aw_exitL ?_
        refine loopK_exit (blockK_exit ?_)
        repeat with_reducible refine aw_assoc ?_
        first | with_reducible refine aw_region0 fun K' hK => ?_ | with_reducible refine aw_toS (aw_region0 fun K' hK => ?_)
        simp []
        refine hK _ _ _ ?_
        clear K' hK
        repeat with_reducible refine aw_assoc ?_
        first | with_reducible refine aw_ret ?_ | with_reducible refine aw_retL ?_ | with_reducible refine aw_skipL ?_
        simp [blockK, loopK, Post, resA, res1, expT, expA, exp1, expM, expL, okT, okA, ok1, rowOf, Try.f15]
        exact eq_of_take (by omega) (by omega) ht
end Go.Proofs.YtomidniaekeafaaAbs
