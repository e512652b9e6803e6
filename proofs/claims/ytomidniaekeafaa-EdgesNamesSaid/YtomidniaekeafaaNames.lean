/- EdgesNames. -/
import Derived.Test.YtomidniaekeafaaRules
namespace Go.Proofs.YtomidniaekeafaaAbs
set_option linter.unusedSimpArgs false
set_option linter.unusedVariables false
open Go Go.RowKit Go.Proofs
set_option maxRecDepth 100000
set_option maxHeartbeats 8000000
theorem any_take1 {α : Type} [Inhabited α] {p : α → Bool} {l : List α} {i : Nat} (hi : i < l.length) : (l.take (i + 1)).any p = ((l.take i).any p || p (nth l i)) := by
  rw [List.take_add_one, List.getElem?_eq_getElem hi, List.any_append, ← nth_eq hi]
  simp
theorem names4_ok (m : Man) (root : Bool) : CallsOK Try.prog 4 [.agg m.cells, .v (.bool root)] (.v (.bool true)) [] := by
  refine callsOK mixed Try.call4 Try.func4 rfl (by rw [Try.ntmps4]; simp) ?_ rfl
  rw [Try.ntmps4]
  repeat with_reducible refine aw_assoc ?_
  first | with_reducible refine aw_region0 fun K' hK => ?_ | with_reducible refine aw_toS (aw_region0 fun K' hK => ?_)
  simp []
  first | refine hK _ _ _ ?_ | done
  clear K' hK
  repeat with_reducible refine aw_assoc ?_
  first | with_reducible refine aw_region0 fun K' hK => ?_ | with_reducible refine aw_toS (aw_region0 fun K' hK => ?_)
  simp []
  refine acall_flat (large8_z m) rfl (by simp) ?_
  simp
  first | refine hK _ _ _ ?_ | done
  clear K' hK
  repeat with_reducible refine aw_assoc ?_
  first | with_reducible refine aw_condP fun A B hA hB => ?_ | with_reducible refine aw_toS (aw_condP fun A B hA hB => ?_)
  simp []
  refine ⟨fun hl => hA ?_, fun hl => hB ?_⟩ <;> clear hA hB A B <;> (try simp at hl) <;> (try with_reducible refine aw_skip ?_)
  · repeat with_reducible refine aw_assoc ?_
    first | with_reducible refine aw_region0 fun K' hK => ?_ | with_reducible refine aw_toS (aw_region0 fun K' hK => ?_)
    simp []
    first | refine hK _ _ _ ?_ | done
    clear K' hK
    repeat with_reducible refine aw_assoc ?_
    first | with_reducible refine aw_ret ?_ | with_reducible refine aw_retL ?_ | with_reducible refine aw_skipL ?_
    simp [blockK, loopK, Post, resA, res1, expT, expA, exp1, expM, expL, okT, okA, ok1, rowOf, Try.f4]
  · obtain ⟨hd, _, _, h40⟩ := large_ok hl
    have hA := ofF_okL (root := root) hd
    have hfrom : ∀ d ∈ ofF m.deps [] root, d ∈ m.deps := fun d h => ofF_from h
    have hrise : ∀ i, i + 1 < (ofF m.deps [] root).length → ltB (nth (ofF m.deps [] root) i).name (nth (ofF m.deps [] root) (i + 1)).name = true := fun i h => ofF_rise h
    have hle : ∀ d ∈ m.deps, countsF d root = true → ∃ x ∈ ofF m.deps [] root, x.name = d.name ∧ x.kind ≤ d.kind := fun d h1 h2 => ofF_le h1 h2
    have hAl : (ofF m.deps [] root).length ≤ 40 := by rw [ofF_len]; have := byM_len root m.deps; omega
    have c1 := of10_n m root hd
    generalize ofF m.deps [] root = L at *
    repeat with_reducible refine aw_assoc ?_
    first | with_reducible refine aw_region0 fun K' hK => ?_ | with_reducible refine aw_toS (aw_region0 fun K' hK => ?_)
    simp []
    refine acall_new c1 (by simp) ?_
    simp [addJ_one]
    first | refine hK _ _ _ ?_ | done
    clear K' hK
    repeat with_reducible refine aw_assoc ?_
    first | with_reducible refine aw_region0 fun K' hK => ?_ | with_reducible refine aw_toS (aw_region0 fun K' hK => ?_)
    simp []
    first | refine hK _ _ _ ?_ | done
    clear K' hK
    repeat with_reducible refine aw_assoc ?_
    first | with_reducible refine aw_block ?_ | with_reducible refine aw_toS (aw_block ?_)
    refine aw_loop (fun s G nx => s 1 = .v (.bool root) ∧ s 2 = .ptr 0 0 ∧ s 5 = .row 1 L.length ∧ G 0 = some (.var 27 m.cells) ∧ G 1 = some (.row 41 (flat Dep.cells L)) ∧ ∃ (i : Nat), s 6 = iV i ∧ i ≤ L.length) (fun s _ _ => match s 6 with | .v (.int _ n) => L.length - n.toNat | _ => 0) ?_ ?_
    · exact ⟨by simp, by simp, by simp, by simp, by simp, 0, by simp, by omega⟩
    · rintro s G nx hf ⟨s1, s2, s5, g0, g1, i, s6, hi⟩
      have hw : IntKind.i64.wrap (↑i + 1) = ((i + 1 : Nat) : Int) := wrapS (by omega)
      repeat with_reducible refine aw_assoc ?_
      first | with_reducible refine aw_region0 fun K' hK => ?_ | with_reducible refine aw_toS (aw_region0 fun K' hK => ?_)
      simp [s5, s6, g1]
      first | refine hK _ _ _ ?_ | done
      clear K' hK
      repeat with_reducible refine aw_assoc ?_
      first | with_reducible refine aw_condP fun A B hA hB => ?_ | with_reducible refine aw_toS (aw_condP fun A B hA hB => ?_)
      simp []
      refine ⟨fun hi2 => hA ?_, fun hi2 => hB ?_⟩ <;> clear hA hB A B <;> (try simp at hi2) <;> (try with_reducible refine aw_skip ?_)
      · repeat with_reducible refine aw_assoc ?_
        first | with_reducible refine aw_block ?_ | with_reducible refine aw_toS (aw_block ?_)
        repeat with_reducible refine aw_assoc ?_
        first | with_reducible refine aw_region0 fun K' hK => ?_ | with_reducible refine aw_toS (aw_region0 fun K' hK => ?_)
        simp []
        first | refine hK _ _ _ ?_ | done
        clear K' hK
        repeat with_reducible refine aw_assoc ?_
        first | with_reducible refine aw_region0 fun K' hK => ?_ | with_reducible refine aw_toS (aw_region0 fun K' hK => ?_)
        simp []
        first | refine hK _ _ _ ?_ | done
        clear K' hK
        repeat with_reducible refine aw_assoc ?_
        first | with_reducible refine aw_block ?_ | with_reducible refine aw_toS (aw_block ?_)
        refine aw_loop (fun s G nx => s 1 = .v (.bool root) ∧ s 2 = .ptr 0 0 ∧ s 5 = .row 1 L.length ∧ G 0 = some (.var 27 m.cells) ∧ G 1 = some (.row 41 (flat Dep.cells L)) ∧ s 6 = iV i ∧ ∃ (k : Nat), s 8 = iV k ∧ k ≤ m.deps.length ∧ s 7 = .v (.bool ((m.deps.take k).any fun d => decide (d = nth L i)))) (fun s _ _ => match s 8 with | .v (.int _ n) => m.deps.length - n.toNat | _ => 0) ?_ ?_
        · exact ⟨by simp [s1], by simp [s2], by simp [s5], by simp [g0], by simp [g1], by simp [s6], 0, by simp, by omega, by simp⟩
        · rintro s' G' nx' hf' ⟨t1, t2, t5, e0, e1, t6, k, t8, hk, t7⟩
          have hwk : IntKind.i64.wrap (↑k + 1) = ((k + 1 : Nat) : Int) := wrapS (by omega)
          repeat with_reducible refine aw_assoc ?_
          first | with_reducible refine aw_region0 fun K' hK => ?_ | with_reducible refine aw_toS (aw_region0 fun K' hK => ?_)
          simp [t2, t8, e0]
          first | refine hK _ _ _ ?_ | done
          clear K' hK
          repeat with_reducible refine aw_assoc ?_
          first | with_reducible refine aw_condP fun A B hA hB => ?_ | with_reducible refine aw_toS (aw_condP fun A B hA hB => ?_)
          simp []
          refine ⟨fun hk2 => hA ?_, fun hk2 => hB ?_⟩ <;> clear hA hB A B <;> (try simp at hk2) <;> (try with_reducible refine aw_skip ?_)
          · have hstep := any_take1 (p := fun d => decide (d = nth L i)) hk2
            repeat with_reducible refine aw_assoc ?_
            first | with_reducible refine aw_block ?_ | with_reducible refine aw_toS (aw_block ?_)
            cases hin : (m.deps.take k).any fun d => decide (d = nth L i) with
            | true =>
              rw [hin] at t7
              repeat with_reducible refine aw_assoc ?_
              first | with_reducible refine aw_region1 (by decide +kernel) fun K' hK => ?_ | with_reducible refine aw_toS (aw_region1 (by decide +kernel) fun K' hK => ?_)
              simp [t7]
              first | refine hK _ _ _ ?_ | done
              clear K' hK
              first | with_reducible refine aw_skipL ?_ | skip
              refine blockK_normal ?_
              repeat with_reducible refine aw_assoc ?_
              first | with_reducible refine aw_region0 fun K' hK => ?_ | with_reducible refine aw_toS (aw_region0 fun K' hK => ?_)
              simp [t8, hwk]
              first | refine hK _ _ _ ?_ | done
              clear K' hK
              refine aw_skipL (loopK_normal ?_ ?_)
              · exact ⟨by simp [t1], by simp [t2], by simp [t5], by simp [e0], by simp [e1], by simp [t6], k + 1, by simp [hwk], by omega, by simp [hstep, hin]⟩
              · simp [t8, hwk]; omega
            | false =>
              rw [hin] at t7
              by_cases h1 : (nth m.deps k).kind = (nth L i).kind
              · by_cases h2 : (nth m.deps k).name = (nth L i).name
                · repeat with_reducible refine aw_assoc ?_
                  first | with_reducible refine aw_region1 (by decide +kernel) fun K' hK => ?_ | with_reducible refine aw_toS (aw_region1 (by decide +kernel) fun K' hK => ?_)
                  simp [t2, t5, t6, t7, t8, e0, e1, hk2, hi2, h1, h2]
                  refine acall_flat (same05_ok (nth m.deps k).range (nth L i).range (Dep.okR hd (nth_mem hk2))) rfl (by simp [Rg.cells]) ?_
                  simp
                  first | refine hK _ _ _ ?_ | done
                  clear K' hK
                  first | with_reducible refine aw_skipL ?_ | skip
                  refine blockK_normal ?_
                  repeat with_reducible refine aw_assoc ?_
                  first | with_reducible refine aw_region0 fun K' hK => ?_ | with_reducible refine aw_toS (aw_region0 fun K' hK => ?_)
                  simp [t8, hwk]
                  first | refine hK _ _ _ ?_ | done
                  clear K' hK
                  refine aw_skipL (loopK_normal ?_ ?_)
                  · refine ⟨by simp [t1], by simp [t2], by simp [t5], by simp [e0], by simp [e1], by simp [t6], k + 1, by simp [hwk], by omega, ?_⟩
                    rw [hstep, hin]
                    have : (decide (nth m.deps k = nth L i)) = decide ((nth m.deps k).range = (nth L i).range) := by
                      rw [Bool.eq_iff_iff, decide_eq_true_eq, decide_eq_true_eq]
                      exact ⟨fun h => by rw [h], fun h => Dep.ext' h1 h2 h⟩
                    simp [this]
                  · simp [t8, hwk]; omega
                · repeat with_reducible refine aw_assoc ?_
                  first | with_reducible refine aw_region1 (by decide +kernel) fun K' hK => ?_ | with_reducible refine aw_toS (aw_region1 (by decide +kernel) fun K' hK => ?_)
                  simp [t2, t5, t6, t7, t8, e0, e1, hk2, hi2, h1, h2]
                  first | refine hK _ _ _ ?_ | done
                  clear K' hK
                  first | with_reducible refine aw_skipL ?_ | skip
                  refine blockK_normal ?_
                  repeat with_reducible refine aw_assoc ?_
                  first | with_reducible refine aw_region0 fun K' hK => ?_ | with_reducible refine aw_toS (aw_region0 fun K' hK => ?_)
                  simp [t8, hwk]
                  first | refine hK _ _ _ ?_ | done
                  clear K' hK
                  refine aw_skipL (loopK_normal ?_ ?_)
                  · refine ⟨by simp [t1], by simp [t2], by simp [t5], by simp [e0], by simp [e1], by simp [t6], k + 1, by simp [hwk], by omega, ?_⟩
                    rw [hstep, hin]
                    have : ¬ nth m.deps k = nth L i := fun e => h2 (by rw [e])
                    simp [this]
                  · simp [t8, hwk]; omega
              · repeat with_reducible refine aw_assoc ?_
                first | with_reducible refine aw_region1 (by decide +kernel) fun K' hK => ?_ | with_reducible refine aw_toS (aw_region1 (by decide +kernel) fun K' hK => ?_)
                simp [t2, t5, t6, t7, t8, e0, e1, hk2, hi2, h1]
                first | refine hK _ _ _ ?_ | done
                clear K' hK
                first | with_reducible refine aw_skipL ?_ | skip
                refine blockK_normal ?_
                repeat with_reducible refine aw_assoc ?_
                first | with_reducible refine aw_region0 fun K' hK => ?_ | with_reducible refine aw_toS (aw_region0 fun K' hK => ?_)
                simp [t8, hwk]
                first | refine hK _ _ _ ?_ | done
                clear K' hK
                refine aw_skipL (loopK_normal ?_ ?_)
                · refine ⟨by simp [t1], by simp [t2], by simp [t5], by simp [e0], by simp [e1], by simp [t6], k + 1, by simp [hwk], by omega, ?_⟩
                  rw [hstep, hin]
                  have : ¬ nth m.deps k = nth L i := fun e => h1 (by rw [e])
                  simp [this]
                · simp [t8, hwk]; omega
          · repeat with_reducible refine aw_assoc ?_
            first | with_reducible refine aw_exit ?_ | with_reducible refine aw_exitL ?_
            refine loopK_exit (blockK_exit ?_)
            have hin : ((m.deps.take k).any fun d => decide (d = nth L i)) = true := by
              rw [List.take_of_length_le (by omega), List.any_eq_true]
              exact ⟨nth L i, hfrom _ (nth_mem hi2), by simp⟩
            rw [hin] at t7
            cases i with
            | zero =>
              repeat with_reducible refine aw_assoc ?_
              first | with_reducible refine aw_region1 (by decide +kernel) fun K' hK => ?_ | with_reducible refine aw_toS (aw_region1 (by decide +kernel) fun K' hK => ?_)
              simp [t7, t6]
              first | refine hK _ _ _ ?_ | done
              clear K' hK
              repeat with_reducible refine aw_assoc ?_
              first | with_reducible refine aw_condP fun A B hA hB => ?_ | with_reducible refine aw_toS (aw_condP fun A B hA hB => ?_)
              simp []
              refine ⟨fun hc => hA ?_, fun hc => hB ?_⟩ <;> clear hA hB A B <;> (try (simp at hc; done)) <;> (try (exfalso; simp at hc; omega)) <;> clear hc <;> (try with_reducible refine aw_skip ?_)
              first | with_reducible refine aw_skipL ?_ | skip
              refine blockK_normal ?_
              have hw0 : IntKind.i64.wrap 1 = 1 := by decide
              repeat with_reducible refine aw_assoc ?_
              first | with_reducible refine aw_region0 fun K' hK => ?_ | with_reducible refine aw_toS (aw_region0 fun K' hK => ?_)
              simp [t6, hw]
              first | refine hK _ _ _ ?_ | done
              clear K' hK
              refine aw_skipL (loopK_normal ?_ ?_)
              · exact ⟨by simp [t1], by simp [t2], by simp [t5], by simp [e0], by simp [e1], 1, by simp [hw0], by omega⟩
              · simp [s6, t6, hw0]; omega
            | succ j =>
              have hr := hrise j hi2
              have hj : j < L.length := by omega
              have hwj : IntKind.i64.wrap (j : Int) = (j : Int) := wrap64 (by omega) (by omega)
              have hj1 : (0 : Int) ≤ (j : Int) + 1 := by omega
              have hj2 : ((j : Int) + 1) < (L.length : Int) := by omega
              have hj3 : ((j : Int) + 1).toNat = j + 1 := by omega
              have hj4 : (0 : Int) < (j : Int) + 1 := by omega
              repeat with_reducible refine aw_assoc ?_
              first | with_reducible refine aw_region1 (by decide +kernel) fun K' hK => ?_ | with_reducible refine aw_toS (aw_region1 (by decide +kernel) fun K' hK => ?_)
              simp [t7, t6, t5, e1, hi2, hj, hr, hwj, hj1, hj2, hj3, hj4]
              first | refine hK _ _ _ ?_ | done
              clear K' hK
              repeat with_reducible refine aw_assoc ?_
              first | with_reducible refine aw_condP fun A B hA hB => ?_ | with_reducible refine aw_toS (aw_condP fun A B hA hB => ?_)
              simp []
              refine ⟨fun hc => hA ?_, fun hc => hB ?_⟩ <;> clear hA hB A B <;> (try (simp at hc; done)) <;> (try (exfalso; simp at hc; omega)) <;> clear hc <;> (try with_reducible refine aw_skip ?_)
              first | with_reducible refine aw_skipL ?_ | skip
              refine blockK_normal ?_
              have hw0 : IntKind.i64.wrap ((j : Int) + 1 + 1) = (j : Int) + 1 + 1 := wrap64 (by omega) (by omega)
              repeat with_reducible refine aw_assoc ?_
              first | with_reducible refine aw_region0 fun K' hK => ?_ | with_reducible refine aw_toS (aw_region0 fun K' hK => ?_)
              simp [t6, hw]
              first | refine hK _ _ _ ?_ | done
              clear K' hK
              refine aw_skipL (loopK_normal ?_ ?_)
              · exact ⟨by simp [t1], by simp [t2], by simp [t5], by simp [e0], by simp [e1], j + 1 + 1, by simp [hw0], by omega⟩
              · simp [s6, t6, hw0]; omega
      · repeat with_reducible refine aw_assoc ?_
        first | with_reducible refine aw_exit ?_ | with_reducible refine aw_exitL ?_
        refine loopK_exit (blockK_exit ?_)
        repeat with_reducible refine aw_assoc ?_
        first | with_reducible refine aw_region0 fun K' hK => ?_ | with_reducible refine aw_toS (aw_region0 fun K' hK => ?_)
        simp []
        first | refine hK _ _ _ ?_ | done
        clear K' hK
        repeat with_reducible refine aw_assoc ?_
        first | with_reducible refine aw_block ?_ | with_reducible refine aw_toS (aw_block ?_)
        refine aw_loop (fun s G nx => s 1 = .v (.bool root) ∧ s 2 = .ptr 0 0 ∧ s 5 = .row 1 L.length ∧ G 0 = some (.var 27 m.cells) ∧ G 1 = some (.row 41 (flat Dep.cells L)) ∧ ∃ (i : Nat), s 9 = iV i ∧ i ≤ m.deps.length) (fun s _ _ => match s 9 with | .v (.int _ n) => m.deps.length - n.toNat | _ => 0) ?_ ?_
        · exact ⟨by simp [s1], by simp [s2], by simp [s5], by simp [g0], by simp [g1], 0, by simp, by omega⟩
        · clear s1 s2 s5 g0 g1 s6 hi hi2 hw hf s G nx i
          rintro s G nx hf ⟨s1, s2, s5, g0, g1, i, s9, hi⟩
          have hw : IntKind.i64.wrap (↑i + 1) = ((i + 1 : Nat) : Int) := wrapS (by omega)
          repeat with_reducible refine aw_assoc ?_
          first | with_reducible refine aw_region0 fun K' hK => ?_ | with_reducible refine aw_toS (aw_region0 fun K' hK => ?_)
          simp [s2, s9, g0]
          first | refine hK _ _ _ ?_ | done
          clear K' hK
          repeat with_reducible refine aw_assoc ?_
          first | with_reducible refine aw_condP fun A B hA hB => ?_ | with_reducible refine aw_toS (aw_condP fun A B hA hB => ?_)
          simp []
          refine ⟨fun hi2 => hA ?_, fun hi2 => hB ?_⟩ <;> clear hA hB A B <;> (try simp at hi2) <;> (try with_reducible refine aw_skip ?_)
          · have n0 : ¬ 0 = nx := by have := fresh_lt hf g0; omega
            have n1 : ¬ 1 = nx := by have := fresh_lt hf g1; omega
            have hlei := hle _ (nth_mem hi2)
            generalize hD : nth m.deps i = d at *
            have hsp : splice [iV 0, sV ⟨#[]⟩, .v (.slice none 0 0)] 0 d.cells = d.cells := rfl
            repeat with_reducible refine aw_assoc ?_
            first | with_reducible refine aw_block ?_ | with_reducible refine aw_toS (aw_block ?_)
            repeat with_reducible refine aw_assoc ?_
            first | with_reducible refine aw_region0 fun K' hK => ?_ | with_reducible refine aw_toS (aw_region0 fun K' hK => ?_)
            simp [s2, s9, g0, hi2, hD, hsp]
            first | refine hK _ _ _ ?_ | done
            clear K' hK
            repeat with_reducible refine aw_assoc ?_
            first | with_reducible refine aw_region0 fun K' hK => ?_ | with_reducible refine aw_toS (aw_region0 fun K' hK => ?_)
            simp []
            first | refine hK _ _ _ ?_ | done
            clear K' hK
            repeat with_reducible refine aw_assoc ?_
            first | with_reducible refine aw_region0 fun K' hK => ?_ | with_reducible refine aw_toS (aw_region0 fun K' hK => ?_)
            simp []
            first | refine hK _ _ _ ?_ | done
            clear K' hK
            repeat with_reducible refine aw_assoc ?_
            first | with_reducible refine aw_block ?_ | with_reducible refine aw_toS (aw_block ?_)
            refine aw_loop (fun s G nx' => s 1 = .v (.bool root) ∧ s 2 = .ptr 0 0 ∧ s 5 = .row 1 L.length ∧ s 10 = .ptr nx 0 ∧ G 0 = some (.var 27 m.cells) ∧ G 1 = some (.row 41 (flat Dep.cells L)) ∧ G nx = some (.var 41 d.cells) ∧ s 9 = iV i ∧ ∃ (k : Nat), s 12 = iV k ∧ k ≤ L.length ∧ s 11 = .v (.bool ((L.take k).any fun e => decide (e.name = d.name ∧ e.kind ≤ d.kind)))) (fun s _ _ => match s 12 with | .v (.int _ n) => L.length - n.toNat | _ => 0) ?_ ?_
            · exact ⟨by simp [s1], by simp [s2], by simp [s5], by simp, by simp [g0, n0], by simp [g1, n1], by simp, by simp [s9], 0, by simp, by omega, by simp⟩
            · rintro s' G' nx' hf' ⟨t1, t2, t5, t10, e0, e1, en, t9, k, t12, hk, t11⟩
              have hwk : IntKind.i64.wrap (↑k + 1) = ((k + 1 : Nat) : Int) := wrapS (by omega)
              repeat with_reducible refine aw_assoc ?_
              first | with_reducible refine aw_region0 fun K' hK => ?_ | with_reducible refine aw_toS (aw_region0 fun K' hK => ?_)
              simp [t5, t12, e1]
              first | refine hK _ _ _ ?_ | done
              clear K' hK
              repeat with_reducible refine aw_assoc ?_
              first | with_reducible refine aw_condP fun A B hA hB => ?_ | with_reducible refine aw_toS (aw_condP fun A B hA hB => ?_)
              simp []
              refine ⟨fun hk2 => hA ?_, fun hk2 => hB ?_⟩ <;> clear hA hB A B <;> (try simp at hk2) <;> (try with_reducible refine aw_skip ?_)
              · have hstep := any_take1 (p := fun e : Dep => decide (e.name = d.name ∧ e.kind ≤ d.kind)) hk2
                repeat with_reducible refine aw_assoc ?_
                first | with_reducible refine aw_block ?_ | with_reducible refine aw_toS (aw_block ?_)
                cases hin : (L.take k).any fun e => decide (e.name = d.name ∧ e.kind ≤ d.kind) with
                | true =>
                  rw [hin] at t11
                  repeat with_reducible refine aw_assoc ?_
                  first | with_reducible refine aw_region1 (by decide +kernel) fun K' hK => ?_ | with_reducible refine aw_toS (aw_region1 (by decide +kernel) fun K' hK => ?_)
                  simp [t11]
                  first | refine hK _ _ _ ?_ | done
                  clear K' hK
                  first | with_reducible refine aw_skipL ?_ | skip
                  refine blockK_normal ?_
                  repeat with_reducible refine aw_assoc ?_
                  first | with_reducible refine aw_region0 fun K' hK => ?_ | with_reducible refine aw_toS (aw_region0 fun K' hK => ?_)
                  simp [t12, hwk]
                  first | refine hK _ _ _ ?_ | done
                  clear K' hK
                  refine aw_skipL (loopK_normal ?_ ?_)
                  · refine ⟨by simp [t1], by simp [t2], by simp [t5], by simp [t10], by simp [e0], by simp [e1], by simp [en], by simp [t9], k + 1, by simp [hwk], by omega, ?_⟩
                    rw [hstep, hin]
                    simp [t11]
                  · simp [t12, hwk]; omega
                | false =>
                  rw [hin] at t11
                  by_cases h1 : (nth L k).name = d.name
                  · repeat with_reducible refine aw_assoc ?_
                    first | with_reducible refine aw_region1 (by decide +kernel) fun K' hK => ?_ | with_reducible refine aw_toS (aw_region1 (by decide +kernel) fun K' hK => ?_)
                    simp [t11, t12, t5, t10, e1, en, hk2, h1]
                    first | refine hK _ _ _ ?_ | done
                    clear K' hK
                    first | with_reducible refine aw_skipL ?_ | skip
                    refine blockK_normal ?_
                    repeat with_reducible refine aw_assoc ?_
                    first | with_reducible refine aw_region0 fun K' hK => ?_ | with_reducible refine aw_toS (aw_region0 fun K' hK => ?_)
                    simp [t12, hwk]
                    first | refine hK _ _ _ ?_ | done
                    clear K' hK
                    refine aw_skipL (loopK_normal ?_ ?_)
                    · refine ⟨by simp [t1], by simp [t2], by simp [t5], by simp [t10], by simp [e0], by simp [e1], by simp [en], by simp [t9], k + 1, by simp [hwk], by omega, ?_⟩
                      rw [hstep, hin]
                      simp [t11, h1]
                    · simp [t12, hwk]; omega
                  · repeat with_reducible refine aw_assoc ?_
                    first | with_reducible refine aw_region1 (by decide +kernel) fun K' hK => ?_ | with_reducible refine aw_toS (aw_region1 (by decide +kernel) fun K' hK => ?_)
                    simp [t11, t12, t5, t10, e1, en, hk2, h1]
                    first | refine hK _ _ _ ?_ | done
                    clear K' hK
                    first | with_reducible refine aw_skipL ?_ | skip
                    refine blockK_normal ?_
                    repeat with_reducible refine aw_assoc ?_
                    first | with_reducible refine aw_region0 fun K' hK => ?_ | with_reducible refine aw_toS (aw_region0 fun K' hK => ?_)
                    simp [t12, hwk]
                    first | refine hK _ _ _ ?_ | done
                    clear K' hK
                    refine aw_skipL (loopK_normal ?_ ?_)
                    · refine ⟨by simp [t1], by simp [t2], by simp [t5], by simp [t10], by simp [e0], by simp [e1], by simp [en], by simp [t9], k + 1, by simp [hwk], by omega, ?_⟩
                      rw [hstep, hin]
                      simp [t11, h1]
                    · simp [t12, hwk]; omega
              · repeat with_reducible refine aw_assoc ?_
                first | with_reducible refine aw_exit ?_ | with_reducible refine aw_exitL ?_
                refine loopK_exit (blockK_exit ?_)
                rw [List.take_of_length_le (show L.length ≤ k by omega)] at t11
                have hend : ∀ x : Sl, x 9 = iV i → True := fun _ _ => trivial
                cases hc : countsF d root with
                | true =>
                  obtain ⟨x, hx, hxn, hxk⟩ := hlei hc
                  have hin : (L.any fun e => decide (e.name = d.name ∧ e.kind ≤ d.kind)) = true := by
                    rw [List.any_eq_true]; exact ⟨x, hx, by simp [hxn, hxk]⟩
                  rw [hin] at t11
                  repeat with_reducible refine aw_assoc ?_
                  first | with_reducible refine aw_region0 fun K' hK => ?_ | with_reducible refine aw_toS (aw_region0 fun K' hK => ?_)
                  simp [t11]
                  first | refine hK _ _ _ ?_ | done
                  clear K' hK
                  repeat with_reducible refine aw_assoc ?_
                  first | with_reducible refine aw_condP fun A B hA hB => ?_ | with_reducible refine aw_toS (aw_condP fun A B hA hB => ?_)
                  simp []
                  refine ⟨fun hc => hA ?_, fun hc => hB ?_⟩ <;> clear hA hB A B <;> (try (simp at hc; done)) <;> (try (exfalso; simp at hc; omega)) <;> clear hc <;> (try with_reducible refine aw_skip ?_)
                  first | with_reducible refine aw_skipL ?_ | skip
                  refine blockK_normal ?_
                  repeat with_reducible refine aw_assoc ?_
                  first | with_reducible refine aw_region0 fun K' hK => ?_ | with_reducible refine aw_toS (aw_region0 fun K' hK => ?_)
                  simp [t9, hw]
                  first | refine hK _ _ _ ?_ | done
                  clear K' hK
                  refine aw_skipL (loopK_normal ?_ ?_)
                  · exact ⟨by simp [t1], by simp [t2], by simp [t5], by simp [e0], by simp [e1], i + 1, by simp [hw], by omega⟩
                  · simp [s9, t9, hw]; omega
                | false =>
                  have hk1 : ¬ d.kind = 1 := fun e => by simp [countsF, e] at hc
                  have hk3 : ¬ d.kind = 3 := fun e => by simp [countsF, e] at hc
                  have hk4 : ¬ d.kind = 4 := fun e => by simp [countsF, e] at hc
                  have hk2' : d.kind = 2 → root = false := fun e => by simpa [countsF, e] using hc
                  cases hin : L.any fun e => decide (e.name = d.name ∧ e.kind ≤ d.kind) with
                  | true =>
                    rw [hin] at t11
                    repeat with_reducible refine aw_assoc ?_
                    first | with_reducible refine aw_region0 fun K' hK => ?_ | with_reducible refine aw_toS (aw_region0 fun K' hK => ?_)
                    simp [t11]
                    first | refine hK _ _ _ ?_ | done
                    clear K' hK
                    repeat with_reducible refine aw_assoc ?_
                    first | with_reducible refine aw_condP fun A B hA hB => ?_ | with_reducible refine aw_toS (aw_condP fun A B hA hB => ?_)
                    simp []
                    refine ⟨fun hc => hA ?_, fun hc => hB ?_⟩ <;> clear hA hB A B <;> (try (simp at hc; done)) <;> (try (exfalso; simp at hc; omega)) <;> clear hc <;> (try with_reducible refine aw_skip ?_)
                    first | with_reducible refine aw_skipL ?_ | skip
                    refine blockK_normal ?_
                    repeat with_reducible refine aw_assoc ?_
                    first | with_reducible refine aw_region0 fun K' hK => ?_ | with_reducible refine aw_toS (aw_region0 fun K' hK => ?_)
                    simp [t9, hw]
                    first | refine hK _ _ _ ?_ | done
                    clear K' hK
                    refine aw_skipL (loopK_normal ?_ ?_)
                    · exact ⟨by simp [t1], by simp [t2], by simp [t5], by simp [e0], by simp [e1], i + 1, by simp [hw], by omega⟩
                    · simp [s9, t9, hw]; omega
                  | false =>
                    rw [hin] at t11
                    by_cases hk2 : d.kind = 2
                    · have hroot := hk2' hk2
                      repeat with_reducible refine aw_assoc ?_
                      first | with_reducible refine aw_region0 fun K' hK => ?_ | with_reducible refine aw_toS (aw_region0 fun K' hK => ?_)
                      simp [t11, t1, t10, en, hk2, hroot]
                      first | refine hK _ _ _ ?_ | done
                      clear K' hK
                      repeat with_reducible refine aw_assoc ?_
                      first | with_reducible refine aw_condP fun A B hA hB => ?_ | with_reducible refine aw_toS (aw_condP fun A B hA hB => ?_)
                      simp []
                      refine ⟨fun hc => hA ?_, fun hc => hB ?_⟩ <;> clear hA hB A B <;> (try (simp at hc; done)) <;> (try (exfalso; simp at hc; omega)) <;> clear hc <;> (try with_reducible refine aw_skip ?_)
                      first | with_reducible refine aw_skipL ?_ | skip
                      refine blockK_normal ?_
                      repeat with_reducible refine aw_assoc ?_
                      first | with_reducible refine aw_region0 fun K' hK => ?_ | with_reducible refine aw_toS (aw_region0 fun K' hK => ?_)
                      simp [t9, hw]
                      first | refine hK _ _ _ ?_ | done
                      clear K' hK
                      refine aw_skipL (loopK_normal ?_ ?_)
                      · exact ⟨by simp [t1], by simp [t2], by simp [t5], by simp [e0], by simp [e1], i + 1, by simp [hw], by omega⟩
                      · simp [s9, t9, hw]; omega
                    · repeat with_reducible refine aw_assoc ?_
                      first | with_reducible refine aw_region0 fun K' hK => ?_ | with_reducible refine aw_toS (aw_region0 fun K' hK => ?_)
                      simp [t11, t1, t10, en, hk1, hk2, hk3, hk4]
                      first | refine hK _ _ _ ?_ | done
                      clear K' hK
                      repeat with_reducible refine aw_assoc ?_
                      first | with_reducible refine aw_condP fun A B hA hB => ?_ | with_reducible refine aw_toS (aw_condP fun A B hA hB => ?_)
                      simp []
                      refine ⟨fun hc => hA ?_, fun hc => hB ?_⟩ <;> clear hA hB A B <;> (try (simp at hc; done)) <;> (try (exfalso; simp at hc; omega)) <;> clear hc <;> (try with_reducible refine aw_skip ?_)
                      first | with_reducible refine aw_skipL ?_ | skip
                      refine blockK_normal ?_
                      repeat with_reducible refine aw_assoc ?_
                      first | with_reducible refine aw_region0 fun K' hK => ?_ | with_reducible refine aw_toS (aw_region0 fun K' hK => ?_)
                      simp [t9, hw]
                      first | refine hK _ _ _ ?_ | done
                      clear K' hK
                      refine aw_skipL (loopK_normal ?_ ?_)
                      · exact ⟨by simp [t1], by simp [t2], by simp [t5], by simp [e0], by simp [e1], i + 1, by simp [hw], by omega⟩
                      · simp [s9, t9, hw]; omega
          · repeat with_reducible refine aw_assoc ?_
            first | with_reducible refine aw_exit ?_ | with_reducible refine aw_exitL ?_
            refine loopK_exit (blockK_exit ?_)
            repeat with_reducible refine aw_assoc ?_
            first | with_reducible refine aw_region0 fun K' hK => ?_ | with_reducible refine aw_toS (aw_region0 fun K' hK => ?_)
            simp []
            refine acall_flat asks19_ok rfl rfl ?_
            simp
            first | refine hK _ _ _ ?_ | done
            clear K' hK
            repeat with_reducible refine aw_assoc ?_
            first | with_reducible refine aw_ret ?_ | with_reducible refine aw_retL ?_ | with_reducible refine aw_skipL ?_
            simp [blockK, loopK, Post, resA, res1, expT, expA, exp1, expM, expL, okT, okA, ok1, rowOf, Try.f4]
end Go.Proofs.YtomidniaekeafaaAbs
