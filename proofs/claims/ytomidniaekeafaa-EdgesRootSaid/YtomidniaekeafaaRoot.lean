/- EdgesRoot. -/
import Derived.Test.YtomidniaekeafaaOpen
namespace Go.Proofs.YtomidniaekeafaaAbs
set_option linter.unusedSimpArgs false
set_option linter.unusedVariables false
open Go Go.RowKit Go.Proofs
set_option maxRecDepth 100000
set_option maxHeartbeats 4000000
theorem filter_take {p : Dep → Bool} {ds : List Dep} {i : Nat} (h : i < ds.length) : (ds.take (i + 1)).filter p = (ds.take i).filter p ++ if p (nth ds i) = true then [nth ds i] else [] := by
  rw [List.take_add_one, List.getElem?_eq_getElem h, List.filter_append, ← nth_eq h]
  cases hp : p (nth ds i) <;> simp [hp]
def nDev (d : Dep) : Bool := !decide (d.kind = 2)
@[simp] theorem dep_take (d : Dep) : List.take 3 d.cells = d.cells := rfl
theorem root6_ok (m : Man) (rules : List Ru) : CallsOK Try.prog 6 [.agg m.cells, rowT Ru.cells rules] (.v (.bool true)) [] := by
  refine callsOK mixed Try.call6 Try.func6 rfl (by rw [Try.ntmps6]; simp) ?_ rfl
  rw [Try.ntmps6]
  repeat with_reducible refine aw_assoc ?_
  first | with_reducible refine aw_region0 fun K' hK => ?_ | with_reducible refine aw_toS (aw_region0 fun K' hK => ?_)
  simp []
  first | refine hK _ _ _ ?_ | done
  clear K' hK
  repeat with_reducible refine aw_assoc ?_
  first | with_reducible refine aw_region0 fun K' hK => ?_ | with_reducible refine aw_toS (aw_region0 fun K' hK => ?_)
  simp []
  refine acall_flat (large8_ok m rules) rfl (by simp) ?_
  simp
  first | refine hK _ _ _ ?_ | done
  clear K' hK
  repeat with_reducible refine aw_assoc ?_
  first | with_reducible refine aw_condP fun A B hA hB => ?_ | with_reducible refine aw_toS (aw_condP fun A B hA hB => ?_)
  simp []
  refine ⟨fun hl => hA ?_, fun hl => hB ?_⟩ <;> clear hA hB A B <;> (try simp at hl) <;> (try with_reducible refine aw_skip ?_)
  · repeat with_reducible refine aw_assoc ?_
    first | with_reducible refine aw_region0 fun K' hK => ?_ | with_reducible refine aw_toS (aw_region0 fun K' hK => ?_)
    simp []
    first | refine hK _ _ _ ?_ | done
    clear K' hK
    repeat with_reducible refine aw_assoc ?_
    first | with_reducible refine aw_ret ?_ | with_reducible refine aw_retL ?_ | with_reducible refine aw_skipL ?_
    simp [blockK, loopK, Post, resA, res1, expT, expA, exp1, expM, expL, okT, okA, ok1, rowOf, Try.f6]
  · obtain ⟨hd, _, hru, h40⟩ := large_ok hl
    repeat with_reducible refine aw_assoc ?_
    first | with_reducible refine aw_region0 fun K' hK => ?_ | with_reducible refine aw_toS (aw_region0 fun K' hK => ?_)
    simp []
    first | refine hK _ _ _ ?_ | done
    clear K' hK
    repeat with_reducible refine aw_assoc ?_
    first | with_reducible refine aw_region0 fun K' hK => ?_ | with_reducible refine aw_toS (aw_region0 fun K' hK => ?_)
    simp [Man.cells, splice]
    first | refine hK _ _ _ ?_ | done
    clear K' hK
    repeat with_reducible refine aw_assoc ?_
    first | with_reducible refine aw_region0 fun K' hK => ?_ | with_reducible refine aw_toS (aw_region0 fun K' hK => ?_)
    simp []
    first | refine hK _ _ _ ?_ | done
    clear K' hK
    repeat with_reducible refine aw_assoc ?_
    first | with_reducible refine aw_block ?_ | with_reducible refine aw_toS (aw_block ?_)
    have hcm : m.cells = [sV m.name, iV m.maj, iV m.min, iV m.pat, sV m.pre, rowT Dep.cells m.deps, rowT Ru.cells m.rules] := rfl
    refine aw_loop (fun s G nx => s 1 = rowT Ru.cells rules ∧ G 0 = some (.var 27 m.cells) ∧ s 2 = .ptr 0 0 ∧ s 5 = .ptr 1 0 ∧ ∃ (i : Nat) (a : AV), s 6 = iV i ∧ i ≤ m.deps.length ∧ G 1 = some (.var 27 [sV m.name, iV m.maj, iV m.min, iV m.pat, sV m.pre, a, rowT Ru.cells m.rules]) ∧
      (((m.deps.take i).filter nDev = [] ∧ a = .v (.slice none 0 0)) ∨ ∃ id, a = .row id ((m.deps.take i).filter nDev).length ∧ G id = some (.row 41 (flat Dep.cells ((m.deps.take i).filter nDev))))) (fun s _ _ => match s 6 with | .v (.int _ n) => m.deps.length - n.toNat | _ => 0) ?_ ?_
    · refine ⟨by simp, by simp [hcm], by simp, by simp, 0, .v (.slice none 0 0), by simp, by omega, by simp, .inl ⟨by simp, rfl⟩⟩
    · rintro s G nx hf ⟨s1, g0, s2, s5, i, a, s6, hi, g1, ha⟩
      have hw : IntKind.i64.wrap (↑i + 1) = ((i + 1 : Nat) : Int) := wrapS (by omega)
      have n0 : ¬ 0 = nx := by have := fresh_lt hf g0; omega
      have n1 : ¬ 1 = nx := by have := fresh_lt hf g1; omega
      have n2 : ¬ nx = 0 := by omega
      have hfl : ((m.deps.take i).filter nDev).length ≤ 40 := by
        have := List.length_filter_le nDev (m.deps.take i)
        simp at this; omega
      generalize hF : (m.deps.take i).filter nDev = F at *
      repeat with_reducible refine aw_assoc ?_
      first | with_reducible refine aw_region0 fun K' hK => ?_ | with_reducible refine aw_toS (aw_region0 fun K' hK => ?_)
      simp [s2, s6, g0]
      first | refine hK _ _ _ ?_ | done
      clear K' hK
      repeat with_reducible refine aw_assoc ?_
      first | with_reducible refine aw_condP fun A B hA hB => ?_ | with_reducible refine aw_toS (aw_condP fun A B hA hB => ?_)
      simp []
      refine ⟨fun hi2 => hA ?_, fun hi2 => hB ?_⟩ <;> clear hA hB A B <;> (try simp at hi2) <;> (try with_reducible refine aw_skip ?_)
      · repeat with_reducible refine aw_assoc ?_
        first | with_reducible refine aw_block ?_ | with_reducible refine aw_toS (aw_block ?_)
        repeat with_reducible refine aw_assoc ?_
        first | with_reducible refine aw_region0 fun K' hK => ?_ | with_reducible refine aw_toS (aw_region0 fun K' hK => ?_)
        simp [s2, s6, g0, hi2]
        first | refine hK _ _ _ ?_ | done
        clear K' hK
        repeat with_reducible refine aw_assoc ?_
        first | with_reducible refine aw_condP fun A B hA hB => ?_ | with_reducible refine aw_toS (aw_condP fun A B hA hB => ?_)
        simp []
        refine ⟨fun hk => hA ?_, fun hk => hB ?_⟩ <;> clear hA hB A B <;> (try simp at hk) <;> (try with_reducible refine aw_skip ?_)
        · have hF2 : (m.deps.take (i + 1)).filter nDev = F ++ [nth m.deps i] := by rw [filter_take hi2, hF]; simp [nDev, hk]
          rcases ha with ⟨rfl, rfl⟩ | ⟨id, rfl, gid⟩
          · repeat with_reducible refine aw_assoc ?_
            first | with_reducible refine aw_region1 (by decide +kernel) fun K' hK => ?_ | with_reducible refine aw_toS (aw_region1 (by decide +kernel) fun K' hK => ?_)
            simp [s2, s5, s6, g0, g1, hi2, n0, n1, n2, List.range_succ, srcOf_row, treeOf_row, splice]
            first | refine hK _ _ _ ?_ | done
            clear K' hK
            first | with_reducible refine aw_skipL ?_ | skip
            refine blockK_normal ?_
            repeat with_reducible refine aw_assoc ?_
            first | with_reducible refine aw_region0 fun K' hK => ?_ | with_reducible refine aw_toS (aw_region0 fun K' hK => ?_)
            simp [s6, hw]
            first | refine hK _ _ _ ?_ | done
            clear K' hK
            refine aw_skipL (loopK_normal ?_ ?_)
            · refine ⟨by simp [s1], by simp [g0, n0, n2], by simp [s2], by simp [s5], i + 1, .row (nx + 1) 1, by simp [hw], by omega, by simp [n2, g1], .inr ⟨nx + 1, ?_, ?_⟩⟩
              · rw [hF2]; rfl
              · simp [hF2, flat, n2]
            · simp [s6, hw]; omega
          · have hid := fresh_lt hf gid
            have nid : ¬ id = nx := by omega
            have nid1 : ¬ 1 = id := fun e => by rw [← e, g1] at gid; cases gid
            have nid0 : ¬ 0 = id := fun e => by rw [← e, g0] at gid; cases gid
            have hb1 : F.length + 1 ≤ 9223372036854775807 := by omega
            have hb2 : (F.length + 1) * 48 ≤ 140737488355328 := by omega
            repeat with_reducible refine aw_assoc ?_
            first | with_reducible refine aw_region1 (by decide +kernel) fun K' hK => ?_ | with_reducible refine aw_toS (aw_region1 (by decide +kernel) fun K' hK => ?_)
            simp [s2, s5, s6, g0, g1, hi2, n0, n1, n2, nid, nid1, gid, hb1, hb2, List.range_succ, srcOf_row, treeOf_row, splice]
            first | refine hK _ _ _ ?_ | done
            clear K' hK
            first | with_reducible refine aw_skipL ?_ | skip
            refine blockK_normal ?_
            repeat with_reducible refine aw_assoc ?_
            first | with_reducible refine aw_region0 fun K' hK => ?_ | with_reducible refine aw_toS (aw_region0 fun K' hK => ?_)
            simp [s6, hw]
            first | refine hK _ _ _ ?_ | done
            clear K' hK
            refine aw_skipL (loopK_normal ?_ ?_)
            · refine ⟨by simp [s1], by simp [g0, n0, n2, nid0], by simp [s2], by simp [s5], i + 1, .row (nx + 1) (F.length + 1), by simp [hw], by omega, by simp [n2, g1], .inr ⟨nx + 1, ?_, ?_⟩⟩
              · rw [hF2]; simp
              · simp [hF2, flat_snoc, n2]
            · simp [s6, hw]; omega
        · have hF2 : (m.deps.take (i + 1)).filter nDev = F := by rw [filter_take hi2, hF]; simp [nDev, hk]
          first | with_reducible refine aw_skipL ?_ | skip
          refine blockK_normal ?_
          repeat with_reducible refine aw_assoc ?_
          first | with_reducible refine aw_region0 fun K' hK => ?_ | with_reducible refine aw_toS (aw_region0 fun K' hK => ?_)
          simp [s6, hw]
          first | refine hK _ _ _ ?_ | done
          clear K' hK
          refine aw_skipL (loopK_normal ?_ ?_)
          · refine ⟨by simp [s1], by simp [g0], by simp [s2], by simp [s5], i + 1, a, by simp [hw], by omega, by simp [g1], ?_⟩
            rw [hF2]
            exact ha
          · simp [s6, hw]; omega
      · repeat with_reducible refine aw_assoc ?_
        first | with_reducible refine aw_exit ?_ | with_reducible refine aw_exitL ?_
        refine loopK_exit (blockK_exit ?_)
        have hi3 : m.deps.take i = m.deps := List.take_of_length_le (by omega)
        rw [hi3] at hF
        have hroot : ofF F rules true = ofF m.deps rules false := by rw [ofF_root, ← hF]; rfl
        have hFd : Dep.okL F := ⟨by omega, fun d h => hd.2 d (by rw [← hF] at h; exact (List.mem_filter.1 h).1)⟩
        have hL : Dep.okL (ofF m.deps rules false) := by
          refine ⟨by rw [ofF_len]; have := byM_len false m.deps; omega, fun d h => ?_⟩
          rw [ofF_rules] at h
          obtain ⟨x, hx, rfl⟩ := List.mem_map.1 h
          have h1 := hd.2 x (ofF_from hx)
          refine ⟨h1.1, ?_⟩
          show (match atF rules x.name with | some i => (nth rules i).range | none => x.range).length < 1000000000000 ∧ ∀ l ∈ (match atF rules x.name with | some i => (nth rules i).range | none => x.range), l.length < 1000000000000
          cases hat : atF rules x.name with
          | none => exact h1.2
          | some i =>
            have hlt : i < rules.length := by
              unfold atF at hat
              rw [List.findIdx?_eq_some_iff_getElem] at hat
              exact hat.1
            exact hru.2 _ (nth_mem hlt)
        have hc := of10_ok { m with deps := F } rules true hFd hru
        rw [hroot] at hc
        have hc0 := of10_ok m rules false hd hru
        generalize ofF m.deps rules false = L at *
        repeat with_reducible refine aw_assoc ?_
        first | with_reducible refine aw_region1 (by decide +kernel) fun K' hK => ?_ | with_reducible refine aw_toS (aw_region1 (by decide +kernel) fun K' hK => ?_)
        simp [s1, s2, s5, g0]
        refine acall_flat asks19_ok rfl rfl ?_
        simp [s1, s2, s5, g0]
        refine acall_new hc0 (by simp) ?_
        simp [addJ_one, s1, s2, s5, g0, g1, n1]
        rcases ha with ⟨rfl, rfl⟩ | ⟨id, rfl, gid⟩
        · refine acall_new (hc.weak (.cons (.agg (.cons (.refl _) (.cons (.refl _) (.cons (.refl _) (.cons (.refl _) (.cons (.refl _) (.cons .nilRow (.cons (.refl _) .nil)))))))) (.cons (.refl _) (.cons (.refl _) .nil)))) (by simp) ?_
          simp [addJ_one]
          refine acall_flat (deps13_ok L L hL) rfl (by simp) ?_
          simp
          first | refine hK _ _ _ ?_ | done
          clear K' hK
          repeat with_reducible refine aw_assoc ?_
          first | with_reducible refine aw_ret ?_ | with_reducible refine aw_retL ?_ | with_reducible refine aw_skipL ?_
          simp [blockK, loopK, Post, resA, res1, expT, expA, exp1, expM, expL, okT, okA, ok1, rowOf, Try.f6]
        · have hid := fresh_lt hf gid
          have nid : ¬ id = nx := by omega
          have hself : (match m with | mk => [sV m.name, iV m.maj, iV m.min, iV m.pat, sV m.pre, rowT Dep.cells F, rowT Ru.cells m.rules]) = Man.cells { m with deps := F } := rfl
          refine acall_new hc (by simp [nid, treeOf_of gid]; rfl) ?_
          have nid2 : ¬ nx = id := by omega
          simp [addJ_one, nid, nid2, treeOf_of gid]
          refine acall_flat (deps13_ok L L hL) rfl (by simp [nid2]) ?_
          simp
          first | refine hK _ _ _ ?_ | done
          clear K' hK
          repeat with_reducible refine aw_assoc ?_
          first | with_reducible refine aw_ret ?_ | with_reducible refine aw_retL ?_ | with_reducible refine aw_skipL ?_
          simp [blockK, loopK, Post, resA, res1, expT, expA, exp1, expM, expL, okT, okA, ok1, rowOf, Try.f6]
end Go.Proofs.YtomidniaekeafaaAbs
