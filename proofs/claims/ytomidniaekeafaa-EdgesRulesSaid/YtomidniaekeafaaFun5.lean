/- edges.Of. -/
import Derived.Test.YtomidniaekeafaaFun4
namespace Go.Proofs.YtomidniaekeafaaAbs
set_option linter.unusedSimpArgs false
set_option linter.unusedVariables false
open Go Go.RowKit Go.Proofs
set_option maxRecDepth 100000
set_option maxHeartbeats 4000000
def findD (M : List Dep) (n : Bs) : Dep := match posM M n with
  | some j => nth M j
  | none => default
def edgeOf (rules : List Ru) (d : Dep) : Dep := { d with range := match atF rules d.name with
  | some i => (nth rules i).range
  | none => d.range }
def ofF (ds : List Dep) (rules : List Ru) (root : Bool) : List Dep := (sortN (namesOf (byM root ds))).map fun n => edgeOf rules (findD (byM root ds) n)
def Dep.okL (ds : List Dep) : Prop := ds.length < 1000000000000 ∧ ∀ d ∈ ds, d.name.size ≤ 1000000000 ∧ d.range.length < 1000000000000 ∧ ∀ l ∈ d.range, l.length < 1000000000000
theorem of10_ok (m : Man) (rules : List Ru) (root : Bool) (hd : Dep.okL m.deps) (hrl : Ru.okL rules) : CallsOK Try.prog 10 [.agg m.cells, rowT Ru.cells rules, .v (.bool root)] (.row 0 (ofF m.deps rules root).length) [(41, flat Dep.cells (ofF m.deps rules root))] := by
  have hm := hd.1
  refine callsOK mixed Try.call10 Try.func10 rfl (by rw [Try.ntmps10]; simp) ?_ rfl
  rw [Try.ntmps10]
  repeat with_reducible refine aw_assoc ?_
  first | with_reducible refine aw_region0 fun K' hK => ?_ | with_reducible refine aw_toS (aw_region0 fun K' hK => ?_)
  simp []
  refine hK _ _ _ ?_
  clear K' hK
  repeat with_reducible refine aw_assoc ?_
  first | with_reducible refine aw_region0 fun K' hK => ?_ | with_reducible refine aw_toS (aw_region0 fun K' hK => ?_)
  simp []
  refine hK _ _ _ ?_
  clear K' hK
  repeat with_reducible refine aw_assoc ?_
  first | with_reducible refine aw_region0 fun K' hK => ?_ | with_reducible refine aw_toS (aw_region0 fun K' hK => ?_)
  simp []
  refine hK _ _ _ ?_
  clear K' hK
  repeat with_reducible refine aw_assoc ?_
  first | with_reducible refine aw_block ?_ | with_reducible refine aw_toS (aw_block ?_)
  refine aw_loop (fun s G nx => s 1 = rowT Ru.cells rules ∧ s 2 = .v (.bool root) ∧ s 7 = .mp 2 ∧ s 20 = rowT Dep.cells m.deps ∧ s 21 = iV m.deps.length ∧ ∃ i : Nat, s 22 = iV i ∧ i ≤ m.deps.length ∧ G 2 = some (.map (entM (byM root (m.deps.take i))))) (fun s _ _ => match s 22 with | .v (.int _ n) => m.deps.length - n.toNat | _ => 0) ?_ ?_
  · simp
    exact ⟨0, by simp, by omega, rfl⟩
  · rintro s G nx hf ⟨s1, s2, s7, s20, s21, i, s22, hi, g2⟩
    have hnx := fresh_lt hf g2
    have n2 : ¬ 2 = nx := by omega
    have n3 : ¬ 2 = nx + 1 := by omega
    have hw : IntKind.i64.wrap (↑i + 1) = ((i + 1 : Nat) : Int) := wrapS (by omega)
    repeat with_reducible refine aw_assoc ?_
    first | with_reducible refine aw_region0 fun K' hK => ?_ | with_reducible refine aw_toS (aw_region0 fun K' hK => ?_)
    simp [s21, s22]
    refine hK _ _ _ ?_
    clear K' hK
    repeat with_reducible refine aw_assoc ?_
    first | with_reducible refine aw_condP fun A B hA hB => ?_ | with_reducible refine aw_toS (aw_condP fun A B hA hB => ?_)
    simp []
    refine ⟨fun hi2 => hA ?_, fun hi2 => hB ?_⟩ <;> clear hA hB A B <;> (try simp at hi2) <;> (try with_reducible refine aw_skip ?_)
    · repeat with_reducible refine aw_assoc ?_
      first | with_reducible refine aw_block ?_ | with_reducible refine aw_toS (aw_block ?_)
      repeat with_reducible refine aw_assoc ?_
      first | with_reducible refine aw_region0 fun K' hK => ?_ | with_reducible refine aw_toS (aw_region0 fun K' hK => ?_)
      simp [s20, s22, hi2]
      refine hK _ _ _ ?_
      clear K' hK
      have key : ∃ x ok, (∀ G' : Hp, G' 2 = some (.map (entM (byM root (m.deps.take i)))) → evLookup Try.prog G' 53 (.mp 2) (sV (nth m.deps i).name) true = some (.tup [.agg x, .v (.bool ok)])) ∧ x.length = 3 ∧ x.all AV.one = true ∧ (ok = false → posM (byM root (m.deps.take i)) (nth m.deps i).name = none) ∧ (ok = true → ∃ j, posM (byM root (m.deps.take i)) (nth m.deps i).name = some j ∧ x = (nth (byM root (m.deps.take i)) j).cells) := by
        cases hp : posM (byM root (m.deps.take i)) (nth m.deps i).name with
        | none => exact ⟨_, false, fun G' h => lookup_none h hp true, rfl, rfl, (fun _ => rfl), (fun h => by cases h)⟩
        | some j => exact ⟨_, true, fun G' h => lookup_some h hp true, rfl, rfl, (fun h => by cases h), fun _ => ⟨j, rfl, rfl⟩⟩
      obtain ⟨x, ok, hlk, hx3, hx1, hok0, hok1⟩ := key
      repeat with_reducible refine aw_assoc ?_
      first | with_reducible refine aw_region0 fun K' hK => ?_ | with_reducible refine aw_toS (aw_region0 fun K' hK => ?_)
      simp [s7, hlk, g2, n2, hx3, hx1]
      refine hK _ _ _ ?_
      clear K' hK
      have hup := fun (G' : Hp) (h : G' 2 = some (.map (entM (byM root (m.deps.take i))))) => update_ent h (nth m.deps i)
      repeat with_reducible refine aw_assoc ?_
      first | with_reducible refine aw_region0 fun K' hK => ?_ | with_reducible refine aw_toS (aw_region0 fun K' hK => ?_)
      simp [s2]
      refine acall_flat (counts24_ok (nth m.deps i) root) rfl (by simp) ?_
      cases hc : countsF (nth m.deps i) root with
      | false =>
        simp
        refine hK _ _ _ ?_
        clear K' hK
        repeat with_reducible refine aw_assoc ?_
        first | with_reducible refine aw_condP fun A B hA hB => ?_ | with_reducible refine aw_toS (aw_condP fun A B hA hB => ?_)
        simp []
        refine ⟨fun hc => hA ?_, fun hc => hB ?_⟩ <;> clear hA hB A B <;> (try (simp at hc; done)) <;> (try (exfalso; simp at hc; omega)) <;> clear hc <;> (try with_reducible refine aw_skip ?_)
        first | with_reducible refine aw_skipL ?_ | skip
        refine blockK_normal ?_
        repeat with_reducible refine aw_assoc ?_
        first | with_reducible refine aw_region0 fun K' hK => ?_ | with_reducible refine aw_toS (aw_region0 fun K' hK => ?_)
        simp [s22, hw]
        refine hK _ _ _ ?_
        clear K' hK
        refine aw_skipL (loopK_normal ?_ ?_)
        · simp [s1, s2, s7, s20, s21, n2, n3, g2, hw]
          refine ⟨i + 1, by simp, by omega, ?_⟩
          rw [byM_take root hi2, stepM, if_neg (by simp [hc])]
        · simp [s22, hw]; omega
      | true =>
        cases ok with
        | false =>
          have hp := hok0 rfl
          simp
          refine hK _ _ _ ?_
          clear K' hK
          repeat with_reducible refine aw_assoc ?_
          first | with_reducible refine aw_condP fun A B hA hB => ?_ | with_reducible refine aw_toS (aw_condP fun A B hA hB => ?_)
          simp []
          refine ⟨fun hc => hA ?_, fun hc => hB ?_⟩ <;> clear hA hB A B <;> (try (simp at hc; done)) <;> (try (exfalso; simp at hc; omega)) <;> clear hc <;> (try with_reducible refine aw_skip ?_)
          repeat with_reducible refine aw_assoc ?_
          first | with_reducible refine aw_region0 fun K' hK => ?_ | with_reducible refine aw_toS (aw_region0 fun K' hK => ?_)
          simp [s7, hup, g2, n2, n3]
          refine hK _ _ _ ?_
          clear K' hK
          first | with_reducible refine aw_skipL ?_ | skip
          refine blockK_normal ?_
          repeat with_reducible refine aw_assoc ?_
          first | with_reducible refine aw_region0 fun K' hK => ?_ | with_reducible refine aw_toS (aw_region0 fun K' hK => ?_)
          simp [s22, hw]
          refine hK _ _ _ ?_
          clear K' hK
          refine aw_skipL (loopK_normal ?_ ?_)
          · simp [s1, s2, s7, s20, s21, n2, n3, g2, hw]
            refine ⟨i + 1, by simp, by omega, ?_⟩
            rw [byM_take root hi2, stepM, if_pos ⟨hc, fun j hj => by rw [hp] at hj; cases hj⟩]
          · simp [s22, hw]; omega
        | true =>
          obtain ⟨j, hp, rfl⟩ := hok1 rfl
          simp
          refine hK _ _ _ ?_
          clear K' hK
          repeat with_reducible refine aw_assoc ?_
          first | with_reducible refine aw_condP fun A B hA hB => ?_ | with_reducible refine aw_toS (aw_condP fun A B hA hB => ?_)
          simp []
          refine ⟨fun hlt => hA ?_, fun hlt => hB ?_⟩ <;> clear hA hB A B <;> (try simp at hlt) <;> (try with_reducible refine aw_skip ?_)
          · repeat with_reducible refine aw_assoc ?_
            first | with_reducible refine aw_region0 fun K' hK => ?_ | with_reducible refine aw_toS (aw_region0 fun K' hK => ?_)
            simp [s7, hup, g2, n2, n3]
            refine hK _ _ _ ?_
            clear K' hK
            first | with_reducible refine aw_skipL ?_ | skip
            refine blockK_normal ?_
            repeat with_reducible refine aw_assoc ?_
            first | with_reducible refine aw_region0 fun K' hK => ?_ | with_reducible refine aw_toS (aw_region0 fun K' hK => ?_)
            simp [s22, hw]
            refine hK _ _ _ ?_
            clear K' hK
            refine aw_skipL (loopK_normal ?_ ?_)
            · simp [s1, s2, s7, s20, s21, n2, n3, g2, hw]
              refine ⟨i + 1, by simp, by omega, ?_⟩
              rw [byM_take root hi2, stepM, if_pos ⟨hc, fun j' hj => by rw [hp] at hj; injection hj with hj; subst hj; exact hlt⟩]
            · simp [s22, hw]; omega
          · first | with_reducible refine aw_skipL ?_ | skip
            refine blockK_normal ?_
            repeat with_reducible refine aw_assoc ?_
            first | with_reducible refine aw_region0 fun K' hK => ?_ | with_reducible refine aw_toS (aw_region0 fun K' hK => ?_)
            simp [s22, hw]
            refine hK _ _ _ ?_
            clear K' hK
            refine aw_skipL (loopK_normal ?_ ?_)
            · simp [s1, s2, s7, s20, s21, n2, n3, g2, hw]
              refine ⟨i + 1, by simp, by omega, ?_⟩
              rw [byM_take root hi2, stepM, if_neg (fun h => by have := h.2 j hp; omega)]
            · simp [s22, hw]; omega
    · repeat with_reducible refine aw_assoc ?_
      first | with_reducible refine aw_exit ?_ | with_reducible refine aw_exitL ?_
      refine loopK_exit (blockK_exit ?_)
      have hM : byM root (m.deps.take i) = byM root m.deps := by rw [List.take_of_length_le hi2]
      rw [hM] at g2
      generalize hMM : byM root m.deps = M at g2
      have hnd : (namesOf M).Nodup := by rw [← hMM]; exact byM_nodup _ _
      have hlen : ∀ d ∈ M, d.name.size ≤ 1000000000 := fun d h => (hd.2 d (byM_mem (hMM ▸ h))).1
      have hmax : M.length ≤ 1000000000000 := by rw [← hMM]; have := byM_len root m.deps; omega
      repeat with_reducible refine aw_assoc ?_
      first | with_reducible refine aw_region0 fun K' hK => ?_ | with_reducible refine aw_toS (aw_region0 fun K' hK => ?_)
      simp []
      refine hK _ _ _ ?_
      clear K' hK
      repeat with_reducible refine aw_assoc ?_
      first | with_reducible refine aw_region0 fun K' hK => ?_ | with_reducible refine aw_toS (aw_region0 fun K' hK => ?_)
      simp [s7]
      refine acall_inl (nx + 1 + 1) (fun hf => keys26 hf) (fun hf => ⟨.inr (.upd (hf _ (Nat.le_refl _)) _), fresh_upd hf⟩) ?_
      simp
      refine acall_inl (nx + 1 + 1 + 1) (fun hf => sorted_own (p := nx + 1) (id := 2) (M := M) (by simp) (by simp [n2, n3, g2]) hnd hlen hmax (hf _ (Nat.le_refl _))) (fun hf => ⟨.inr (.upd (hf _ (Nat.le_refl _)) _), fresh_upd hf⟩) ?_
      simp
      refine hK _ _ _ ?_
      clear K' hK
      have n4 : ¬ 2 = nx + 1 + 1 := by omega
      have n5 : ¬ nx = 0 := by omega
      have n6 : ¬ nx = nx + 1 + 1 := by omega
      have hSl : (sortN (namesOf M)).length = M.length := by rw [(sortN_perm _).length_eq]; simp [namesOf]
      generalize hS : sortN (namesOf M) = S at *
      repeat with_reducible refine aw_assoc ?_
      first | with_reducible refine aw_block ?_ | with_reducible refine aw_toS (aw_block ?_)
      refine aw_loop (fun s G nx' => s 1 = rowT Ru.cells rules ∧ s 7 = .mp 2 ∧ s 54 = .row (nx + 1 + 1) S.length ∧ s 55 = iV S.length ∧ G 2 = some (.map (entM M)) ∧ G (nx + 1 + 1) = some (.row 9 (flat nCells S)) ∧ ∃ (i id : Nat), s 56 = iV i ∧ i ≤ S.length ∧ s 12 = .row id i ∧ G id = some (.row 41 (flat Dep.cells ((S.take i).map fun n => edgeOf rules (findD M n))))) (fun s _ _ => match s 56 with | .v (.int _ n) => S.length - n.toNat | _ => 0) ?_ ?_
      · refine ⟨by simp [s1], by simp [s7], by simp [hSl], by simp [hSl], by simp [n2, n3, n4, n5, g2], by simp, 0, nx, by simp, by omega, by simp, by simp [n6]⟩
      · rintro s G nx1 hf ⟨t1, t7, t54, t55, g2, gS, i, id, t56, hi, t12, gid⟩
        have m2 : ¬ 2 = nx1 := by have := fresh_lt hf g2; omega
        have mS : ¬ nx + 1 + 1 = nx1 := by have := fresh_lt hf gS; omega
        generalize nx + 1 + 1 = k at *
        have hidl := fresh_lt hf gid
        have hkl := fresh_lt hf gS
        have h2l := fresh_lt hf g2
        have m20 : ¬ nx1 = 0 := by omega
        have m21 : ¬ 2 = nx1 + 1 := by omega
        have m22 : ¬ 2 = nx1 + 2 := by omega
        have m23 : ¬ 2 = nx1 + 2 + 1 := by omega
        have m24 : ¬ 2 = nx1 + 2 + 1 + 1 := by omega
        have m2i : ¬ 2 = id := fun e => by rw [← e, g2] at gid; cases gid
        have mS1 : ¬ k = nx1 + 1 := by omega
        have mS2 : ¬ k = nx1 + 2 := by omega
        have mS3 : ¬ k = nx1 + 2 + 1 := by omega
        have mS4 : ¬ k = nx1 + 2 + 1 + 1 := by omega
        have mSi : ¬ k = id := fun e => by rw [← e, gS] at gid; injection gid with gid; injection gid with gid; cases gid
        have mi : ¬ id = nx1 := by omega
        have mi1 : ¬ id = nx1 + 1 := by omega
        have mi2 : ¬ id = nx1 + 2 := by omega
        have mi3 : ¬ id = nx1 + 3 := by omega
        have hw : IntKind.i64.wrap (↑i + 1) = ((i + 1 : Nat) : Int) := wrapS (by omega)
        repeat with_reducible refine aw_assoc ?_
        first | with_reducible refine aw_region0 fun K' hK => ?_ | with_reducible refine aw_toS (aw_region0 fun K' hK => ?_)
        simp [t55, t56]
        refine hK _ _ _ ?_
        clear K' hK
        repeat with_reducible refine aw_assoc ?_
        first | with_reducible refine aw_condP fun A B hA hB => ?_ | with_reducible refine aw_toS (aw_condP fun A B hA hB => ?_)
        simp []
        refine ⟨fun hi3 => hA ?_, fun hi3 => hB ?_⟩ <;> clear hA hB A B <;> (try simp at hi3) <;> (try with_reducible refine aw_skip ?_)
        · repeat with_reducible refine aw_assoc ?_
          first | with_reducible refine aw_block ?_ | with_reducible refine aw_toS (aw_block ?_)
          repeat with_reducible refine aw_assoc ?_
          first | with_reducible refine aw_region0 fun K' hK => ?_ | with_reducible refine aw_toS (aw_region0 fun K' hK => ?_)
          simp [t54, t56, hi3, gS]
          refine hK _ _ _ ?_
          clear K' hK
          have hmem : nth S i ∈ namesOf M := (sortN_perm (namesOf M)).mem_iff.1 (by rw [hS]; exact nth_mem hi3)
          have hj : ∃ j, posM M (nth S i) = some j := by
            cases h : posM M (nth S i) with
            | none => exact absurd hmem (posM_none.1 h)
            | some j => exact ⟨j, rfl⟩
          obtain ⟨j, hj⟩ := hj
          have hjl := posM_lt hj
          have hlk := fun (G' : Hp) (h : G' 2 = some (.map (entM M))) => lookup_some h hj false
          have hfd : findD M (nth S i) = nth M j := by simp [findD, hj]
          have hdm : nth M j ∈ m.deps := byM_mem (root := root) (by rw [hMM]; exact nth_mem hjl.1)
          have hdd := hd.2 _ hdm
          generalize nth M j = d at *
          repeat with_reducible refine aw_assoc ?_
          first | with_reducible refine aw_region0 fun K' hK => ?_ | with_reducible refine aw_toS (aw_region0 fun K' hK => ?_)
          simp [t7, hlk, g2]
          refine hK _ _ _ ?_
          clear K' hK
          repeat with_reducible refine aw_assoc ?_
          first | with_reducible refine aw_region0 fun K' hK => ?_ | with_reducible refine aw_toS (aw_region0 fun K' hK => ?_)
          simp []
          refine acall_new (own27_ok d.range hdd.2) (by simp [Rg.cells]) ?_
          simp [addJ_one, Rg.cells, Dep.cells]
          refine hK _ _ _ ?_
          clear K' hK
          have hname : (nth S i) = d.name := hjl.2.symm
          have hedge : edgeOf rules (findD M (nth S i)) = edgeOf rules d := by rw [hfd]
          rw [hname]
          cases hat : atF rules d.name with
          | none =>
            repeat with_reducible refine aw_assoc ?_
            first | with_reducible refine aw_region0 fun K' hK => ?_ | with_reducible refine aw_toS (aw_region0 fun K' hK => ?_)
            simp [t1]
            refine acall_new (rule11_none rules d.name hrl hat) (by simp) ?_
            simp [addJ_nil]
            refine hK _ _ _ ?_
            clear K' hK
            repeat with_reducible refine aw_assoc ?_
            first | with_reducible refine aw_region0 fun K' hK => ?_ | with_reducible refine aw_toS (aw_region0 fun K' hK => ?_)
            simp []
            refine hK _ _ _ ?_
            clear K' hK
            repeat with_reducible refine aw_assoc ?_
            first | with_reducible refine aw_condP fun A B hA hB => ?_ | with_reducible refine aw_toS (aw_condP fun A B hA hB => ?_)
            simp []
            refine ⟨fun hc => hA ?_, fun hc => hB ?_⟩ <;> clear hA hB A B <;> (try (simp at hc; done)) <;> (try (exfalso; simp at hc; omega)) <;> clear hc <;> (try with_reducible refine aw_skip ?_)
            have hlen1 : (List.map (fun n => edgeOf rules (findD M n)) (List.take i S)).length = i := by simp; omega
            have hmin : min i S.length = i := by omega
            have hb1 : i + 1 ≤ 9223372036854775807 := by omega
            have hb2 : (i + 1) * 48 ≤ 140737488355328 := by omega
            repeat with_reducible refine aw_assoc ?_
            first | with_reducible refine aw_region0 fun K' hK => ?_ | with_reducible refine aw_toS (aw_region0 fun K' hK => ?_)
            simp [t12, mi, mi1, mi2, mi3, gid, getC, treeOf_row, srcOf_row, hmin, hb1, hb2]
            refine hK _ _ _ ?_
            clear K' hK
            first | with_reducible refine aw_skipL ?_ | skip
            refine blockK_normal ?_
            repeat with_reducible refine aw_assoc ?_
            first | with_reducible refine aw_region0 fun K' hK => ?_ | with_reducible refine aw_toS (aw_region0 fun K' hK => ?_)
            simp [t56, hw]
            refine hK _ _ _ ?_
            clear K' hK
            have e1 : edgeOf rules d = d := by simp [edgeOf, hat]
            have hlast : flat Dep.cells (List.take i (List.map (fun n => edgeOf rules (findD M n)) S)) ++ [iV d.kind, sV d.name, rowT Alt.cells d.range] = flat Dep.cells (List.take (i + 1) (List.map (fun n => edgeOf rules (findD M n)) S)) := by
              rw [List.take_add_one, List.getElem?_map, List.getElem?_eq_getElem hi3, ← nth_eq hi3]
              show _ ++ Dep.cells d = _
              rw [flat_snoc]
              simp [hedge, e1]
            refine aw_skipL (loopK_normal ?_ ?_)
            · refine ⟨by simp [t1], by simp [t7], by simp [t54], by simp [t55], by simp [m20, m2, m21, m22, m23, m24, m2i, g2], by simp [mS, mS1, mS2, mS3, mS4, mSi, gS], i + 1, nx1 + 2 + 1 + 1, by simp [hw], by omega, by simp, ?_⟩
              simp
              exact hlast
            · simp [t56, hw]; omega
          | some q =>
            have mA : ∀ j, ¬ 2 = nx1 + j := fun j => by omega
            have mB : ∀ j, ¬ k = nx1 + j := fun j => by omega
            have mC : ∀ j, ¬ id = nx1 + j := fun j => by omega
            repeat with_reducible refine aw_assoc ?_
            first | with_reducible refine aw_region0 fun K' hK => ?_ | with_reducible refine aw_toS (aw_region0 fun K' hK => ?_)
            simp [t1]
            refine acall_new (rule11_some rules d.name hrl hat) (by simp) ?_
            simp [addJ_one, Nat.add_assoc]
            refine hK _ _ _ ?_
            clear K' hK
            repeat with_reducible refine aw_assoc ?_
            first | with_reducible refine aw_region0 fun K' hK => ?_ | with_reducible refine aw_toS (aw_region0 fun K' hK => ?_)
            simp [Nat.add_assoc]
            refine hK _ _ _ ?_
            clear K' hK
            repeat with_reducible refine aw_assoc ?_
            first | with_reducible refine aw_condP fun A B hA hB => ?_ | with_reducible refine aw_toS (aw_condP fun A B hA hB => ?_)
            simp []
            refine ⟨fun hc => hA ?_, fun hc => hB ?_⟩ <;> clear hA hB A B <;> (try (simp at hc; done)) <;> (try (exfalso; simp at hc; omega)) <;> clear hc <;> (try with_reducible refine aw_skip ?_)
            repeat with_reducible refine aw_assoc ?_
            first | with_reducible refine aw_region0 fun K' hK => ?_ | with_reducible refine aw_toS (aw_region0 fun K' hK => ?_)
            simp [getC, Nat.add_assoc]
            refine hK _ _ _ ?_
            clear K' hK
            have hmin : min i S.length = i := by omega
            have hb1 : i + 1 ≤ 9223372036854775807 := by omega
            have hb2 : (i + 1) * 48 ≤ 140737488355328 := by omega
            repeat with_reducible refine aw_assoc ?_
            first | with_reducible refine aw_region0 fun K' hK => ?_ | with_reducible refine aw_toS (aw_region0 fun K' hK => ?_)
            simp [t12, mi, mC, gid, getC, treeOf_row, srcOf_row, hmin, hb1, hb2, Nat.add_assoc]
            refine hK _ _ _ ?_
            clear K' hK
            first | with_reducible refine aw_skipL ?_ | skip
            refine blockK_normal ?_
            repeat with_reducible refine aw_assoc ?_
            first | with_reducible refine aw_region0 fun K' hK => ?_ | with_reducible refine aw_toS (aw_region0 fun K' hK => ?_)
            simp [t56, hw]
            refine hK _ _ _ ?_
            clear K' hK
            have e1 : (edgeOf rules d).cells = [iV d.kind, sV d.name, rowT Alt.cells (nth rules q).range] := by simp [edgeOf, hat, Dep.cells]
            have hlast : flat Dep.cells (List.take i (List.map (fun n => edgeOf rules (findD M n)) S)) ++ [iV d.kind, sV d.name, rowT Alt.cells (nth rules q).range] = flat Dep.cells (List.take (i + 1) (List.map (fun n => edgeOf rules (findD M n)) S)) := by
              rw [List.take_add_one, List.getElem?_map, List.getElem?_eq_getElem hi3, ← nth_eq hi3, ← e1, flat_snoc]
              simp [hedge]
            refine aw_skipL (loopK_normal ?_ ?_)
            · refine ⟨by simp [t1], by simp [t7], by simp [t54], by simp [t55], by simp [m20, m2, mA, m2i, g2], by simp [mS, mB, mSi, gS], i + 1, nx1 + 5, by simp [hw], by omega, by simp, ?_⟩
              simp
              exact hlast
            · simp [t56, hw]; omega
        · repeat with_reducible refine aw_assoc ?_
          first | with_reducible refine aw_exit ?_ | with_reducible refine aw_exitL ?_
          refine loopK_exit (blockK_exit ?_)
          have hiS : i = S.length := by omega
          have hof : ofF m.deps rules root = S.map fun n => edgeOf rules (findD M n) := by simp [ofF, hMM, hS]
          have hofl : (ofF m.deps rules root).length = i := by rw [hof, List.length_map, hiS]
          rw [show S.take i = S by rw [List.take_of_length_le (by omega)], ← hof] at gid
          rw [hofl]
          repeat with_reducible refine aw_assoc ?_
          first | with_reducible refine aw_region0 fun K' hK => ?_ | with_reducible refine aw_toS (aw_region0 fun K' hK => ?_)
          simp [t12]
          refine hK _ _ _ ?_
          clear K' hK
          repeat with_reducible refine aw_assoc ?_
          first | with_reducible refine aw_ret ?_ | with_reducible refine aw_retL ?_ | with_reducible refine aw_skipL ?_
          simp [blockK, loopK, Post, resA, res1, expT, expA, exp1, expM, expL, okT, okA, ok1, rowOf, Try.f10, gid]
end Go.Proofs.YtomidniaekeafaaAbs
