/- EdgesRules. -/
import Derived.Test.YtomidniaekeafaaRoot
namespace Go.Proofs.YtomidniaekeafaaAbs
set_option linter.unusedSimpArgs false
set_option linter.unusedVariables false
open Go Go.RowKit Go.Proofs
set_option maxRecDepth 100000
set_option maxHeartbeats 8000000
theorem ru_rgok {rules : List Ru} (h : Ru.okL rules) {i : Nat} (hi : i < rules.length) : (nth rules i).range.ok := by
  have := h.2 _ (nth_mem hi)
  exact ⟨by omega, fun l hl => by have := this.2 l hl; omega⟩
theorem atF_lt {rules : List Ru} {n : Bs} {i : Nat} (h : atF rules n = some i) : i < rules.length := by
  unfold atF at h
  rw [List.findIdx?_eq_some_iff_getElem] at h
  exact h.1
theorem rules5_ok (m : Man) (rules : List Ru) (root : Bool) : CallsOK Try.prog 5 [.agg m.cells, rowT Ru.cells rules, .v (.bool root)] (.v (.bool true)) [] := by
  refine callsOK mixed Try.call5 Try.func5 rfl (by rw [Try.ntmps5]; simp) ?_ rfl
  rw [Try.ntmps5]
  repeat with_reducible refine aw_assoc ?_
  first | with_reducible refine aw_region0 fun K' hK => ?_ | with_reducible refine aw_toS (aw_region0 fun K' hK => ?_)
  simp []
  first | refine hK _ _ _ ?_ | done
  clear K' hK
  repeat with_reducible refine aw_assoc ?_
  first | with_reducible refine aw_region0 fun K' hK => ?_ | with_reducible refine aw_toS (aw_region0 fun K' hK => ?_)
  simp []
  refine acall_flat (large8_ok m rules) rfl (by simp) ?_
  simp
  first | refine hK _ _ _ ?_ | done
  clear K' hK
  repeat with_reducible refine aw_assoc ?_
  first | with_reducible refine aw_condP fun A B hA hB => ?_ | with_reducible refine aw_toS (aw_condP fun A B hA hB => ?_)
  simp []
  refine ⟨fun hl => hA ?_, fun hl => hB ?_⟩ <;> clear hA hB A B <;> (try simp at hl) <;> (try with_reducible refine aw_skip ?_)
  · repeat with_reducible refine aw_assoc ?_
    first | with_reducible refine aw_region0 fun K' hK => ?_ | with_reducible refine aw_toS (aw_region0 fun K' hK => ?_)
    simp []
    first | refine hK _ _ _ ?_ | done
    clear K' hK
    repeat with_reducible refine aw_assoc ?_
    first | with_reducible refine aw_ret ?_ | with_reducible refine aw_retL ?_ | with_reducible refine aw_skipL ?_
    simp [blockK, loopK, Post, resA, res1, expT, expA, exp1, expM, expL, okT, okA, ok1, rowOf, Try.f5]
  · obtain ⟨hd, _, hru, h40⟩ := large_ok hl
    have hA := ofF_okL (root := root) hd
    have hB : ofF m.deps rules root = (ofF m.deps [] root).map (edgeOf rules) := ofF_rules _ _ _
    have hAl : (ofF m.deps [] root).length ≤ 40 := by rw [ofF_len]; have := byM_len root m.deps; omega
    have c1 := of10_n m root hd
    have c2 := of10_ok m rules root hd hru
    generalize ofF m.deps [] root = L at *
    generalize hBB : ofF m.deps rules root = B at *
    have hBl : B.length = L.length := by rw [hB]; simp
    repeat with_reducible refine aw_assoc ?_
    first | with_reducible refine aw_region0 fun K' hK => ?_ | with_reducible refine aw_toS (aw_region0 fun K' hK => ?_)
    simp []
    refine acall_new c1 (by simp) ?_
    simp [addJ_one]
    first | refine hK _ _ _ ?_ | done
    clear K' hK
    repeat with_reducible refine aw_assoc ?_
    first | with_reducible refine aw_region0 fun K' hK => ?_ | with_reducible refine aw_toS (aw_region0 fun K' hK => ?_)
    simp []
    refine acall_new c2 (by simp) ?_
    simp [addJ_one]
    first | refine hK _ _ _ ?_ | done
    clear K' hK
    repeat with_reducible refine aw_assoc ?_
    first | with_reducible refine aw_region0 fun K' hK => ?_ | with_reducible refine aw_toS (aw_region0 fun K' hK => ?_)
    simp []
    first | refine hK _ _ _ ?_ | done
    clear K' hK
    repeat with_reducible refine aw_assoc ?_
    first | with_reducible refine aw_condP fun A B hA hB => ?_ | with_reducible refine aw_toS (aw_condP fun A B hA hB => ?_)
    simp [hBl]
    refine ⟨fun hc => hA ?_, fun hc => hB ?_⟩ <;> clear hA hB A B <;> (try (simp at hc; done)) <;> (try (exfalso; simp at hc; omega)) <;> clear hc <;> (try with_reducible refine aw_skip ?_)
    repeat with_reducible refine aw_assoc ?_
    first | with_reducible refine aw_region0 fun K' hK => ?_ | with_reducible refine aw_toS (aw_region0 fun K' hK => ?_)
    simp []
    first | refine hK _ _ _ ?_ | done
    clear K' hK
    repeat with_reducible refine aw_assoc ?_
    first | with_reducible refine aw_block ?_ | with_reducible refine aw_toS (aw_block ?_)
    refine aw_loop (fun s G nx => s 1 = rowT Ru.cells rules ∧ s 7 = .row 1 L.length ∧ s 8 = .row 2 B.length ∧ G 1 = some (.row 41 (flat Dep.cells L)) ∧ G 2 = some (.row 41 (flat Dep.cells B)) ∧ ∃ (i : Nat), s 9 = iV i ∧ i ≤ L.length) (fun s _ _ => match s 9 with | .v (.int _ n) => L.length - n.toNat | _ => 0) ?_ ?_
    · exact ⟨by simp, by simp, by simp, by simp, by simp, 0, by simp, by omega⟩
    · rintro s G nx hf ⟨s1, s7, s8, g1, g2, i, s9, hi⟩
      have hw : IntKind.i64.wrap (↑i + 1) = ((i + 1 : Nat) : Int) := wrapS (by omega)
      have n1 : ¬ 1 = nx + 1 := by have := fresh_lt hf g1; omega
      have n2 : ¬ 2 = nx + 1 := by have := fresh_lt hf g2; omega
      have n3 : ¬ nx = 0 := by have := fresh_lt hf g2; omega
      have n1' : ¬ 1 = nx := by have := fresh_lt hf g1; omega
      have n2' : ¬ 2 = nx := by have := fresh_lt hf g2; omega
      repeat with_reducible refine aw_assoc ?_
      first | with_reducible refine aw_region0 fun K' hK => ?_ | with_reducible refine aw_toS (aw_region0 fun K' hK => ?_)
      simp [s7, s9, g1]
      first | refine hK _ _ _ ?_ | done
      clear K' hK
      repeat with_reducible refine aw_assoc ?_
      first | with_reducible refine aw_condP fun A B hA hB => ?_ | with_reducible refine aw_toS (aw_condP fun A B hA hB => ?_)
      simp []
      refine ⟨fun hi2 => hA ?_, fun hi2 => hB ?_⟩ <;> clear hA hB A B <;> (try simp at hi2) <;> (try with_reducible refine aw_skip ?_)
      · have hib : i < B.length := by omega
        have hbi : nth B i = edgeOf rules (nth L i) := by rw [nth_eq hib, nth_eq hi2]; simp [hB]
        have hk : (nth B i).kind = (nth L i).kind := by rw [hbi]; rfl
        have hnm : (nth B i).name = (nth L i).name := by rw [hbi]; rfl
        repeat with_reducible refine aw_assoc ?_
        first | with_reducible refine aw_block ?_ | with_reducible refine aw_toS (aw_block ?_)
        cases hat : atF rules (nth L i).name with
        | none =>
          have hr : (nth B i).range = (nth L i).range := by rw [hbi]; simp [edgeOf, hat]
          repeat with_reducible refine aw_assoc ?_
          first | with_reducible refine aw_region0 fun K' hK => ?_ | with_reducible refine aw_toS (aw_region0 fun K' hK => ?_)
          simp [s1, s7, s9, g1, hi2]
          refine acall_new (rule11_none rules (nth L i).name hru hat) (by simp) ?_
          simp [addJ_nil]
          first | refine hK _ _ _ ?_ | done
          clear K' hK
          repeat with_reducible refine aw_assoc ?_
          first | with_reducible refine aw_region1 (by decide +kernel) fun K' hK => ?_ | with_reducible refine aw_toS (aw_region1 (by decide +kernel) fun K' hK => ?_)
          simp [s7, s8, s9, g1, g2, hi2, hib, hk, hnm, n1, n2, n3, n1', n2']
          have hLr : (nth L i).range.ok := Dep.okR hA (nth_mem hi2)
          rw [hr]
          refine acall_flat (same05_ok (nth L i).range (nth L i).range hLr) rfl (by simp [Rg.cells]) ?_
          simp
          first | refine hK _ _ _ ?_ | done
          clear K' hK
          repeat with_reducible refine aw_assoc ?_
          first | with_reducible refine aw_condP fun A B hA hB => ?_ | with_reducible refine aw_toS (aw_condP fun A B hA hB => ?_)
          simp []
          refine ⟨fun hc => hA ?_, fun hc => hB ?_⟩ <;> clear hA hB A B <;> (try (simp at hc; done)) <;> (try (exfalso; simp at hc; omega)) <;> clear hc <;> (try with_reducible refine aw_skip ?_)
          first | with_reducible refine aw_skipL ?_ | skip
          refine blockK_normal ?_
          repeat with_reducible refine aw_assoc ?_
          first | with_reducible refine aw_region0 fun K' hK => ?_ | with_reducible refine aw_toS (aw_region0 fun K' hK => ?_)
          simp [s9, hw]
          first | refine hK _ _ _ ?_ | done
          clear K' hK
          refine aw_skipL (loopK_normal ?_ ?_)
          · exact ⟨by simp [s1], by simp [s7], by simp [s8], by simp [g1, n1, n1', n3], by simp [g2, n2, n2', n3], i + 1, by simp [hw], by omega⟩
          · simp [s9, hw]; omega
        | some q =>
          have hr : (nth B i).range = (nth rules q).range := by rw [hbi]; simp [edgeOf, hat]
          repeat with_reducible refine aw_assoc ?_
          first | with_reducible refine aw_region0 fun K' hK => ?_ | with_reducible refine aw_toS (aw_region0 fun K' hK => ?_)
          simp [s1, s7, s9, g1, hi2]
          refine acall_new (rule11_some rules (nth L i).name hru hat) (by simp) ?_
          simp [addJ_one]
          first | refine hK _ _ _ ?_ | done
          clear K' hK
          repeat with_reducible refine aw_assoc ?_
          first | with_reducible refine aw_region1 (by decide +kernel) fun K' hK => ?_ | with_reducible refine aw_toS (aw_region1 (by decide +kernel) fun K' hK => ?_)
          simp [s7, s8, s9, g1, g2, hi2, hib, hk, hnm, n1, n2, n3, n1', n2']
          have hLr : (nth rules q).range.ok := ru_rgok hru (atF_lt hat)
          rw [hr]
          refine acall_flat (same05_ok (nth rules q).range (nth rules q).range hLr) rfl (by simp [Rg.cells]) ?_
          simp
          first | refine hK _ _ _ ?_ | done
          clear K' hK
          repeat with_reducible refine aw_assoc ?_
          first | with_reducible refine aw_condP fun A B hA hB => ?_ | with_reducible refine aw_toS (aw_condP fun A B hA hB => ?_)
          simp []
          refine ⟨fun hc => hA ?_, fun hc => hB ?_⟩ <;> clear hA hB A B <;> (try (simp at hc; done)) <;> (try (exfalso; simp at hc; omega)) <;> clear hc <;> (try with_reducible refine aw_skip ?_)
          first | with_reducible refine aw_skipL ?_ | skip
          refine blockK_normal ?_
          repeat with_reducible refine aw_assoc ?_
          first | with_reducible refine aw_region0 fun K' hK => ?_ | with_reducible refine aw_toS (aw_region0 fun K' hK => ?_)
          simp [s9, hw]
          first | refine hK _ _ _ ?_ | done
          clear K' hK
          refine aw_skipL (loopK_normal ?_ ?_)
          · exact ⟨by simp [s1], by simp [s7], by simp [s8], by simp [g1, n1, n1', n3], by simp [g2, n2, n2', n3], i + 1, by simp [hw], by omega⟩
          · simp [s9, hw]; omega
      · repeat with_reducible refine aw_assoc ?_
        first | with_reducible refine aw_exit ?_ | with_reducible refine aw_exitL ?_
        refine loopK_exit (blockK_exit ?_)
        repeat with_reducible refine aw_assoc ?_
        first | with_reducible refine aw_region0 fun K' hK => ?_ | with_reducible refine aw_toS (aw_region0 fun K' hK => ?_)
        simp []
        refine acall_flat asks19_ok rfl rfl ?_
        simp
        first | refine hK _ _ _ ?_ | done
        clear K' hK
        repeat with_reducible refine aw_assoc ?_
        first | with_reducible refine aw_ret ?_ | with_reducible refine aw_retL ?_ | with_reducible refine aw_skipL ?_
        simp [blockK, loopK, Post, resA, res1, expT, expA, exp1, expM, expL, okT, okA, ok1, rowOf, Try.f5]
end Go.Proofs.YtomidniaekeafaaAbs
