/- ref16.Big. -/
import Derived.Test.YtgipehooceecpaaGreatDoorM10
import Derived.Test.YtgipehooceecpaaGreatDoorM3
import Derived.Sort.Walk0
import Derived.Sort.KeysCollected
namespace Go.Proofs.YtgipehooceecpaaGreatDoorAbs
set_option linter.unusedSimpArgs false
set_option linter.unusedVariables false
open Go Go.RowKit Go.Proofs
set_option maxRecDepth 100000
set_option maxHeartbeats 4000000
def findD (M : List Dep) (n : Bs) : Dep := match posM M n with
 | some j => nth M j
 | none => default
def edgeOf (rules : List Ru) (d : Dep) : Dep := { d with range := match atF rules d.name with
 | some i => (nth rules i).range
 | none => d.range }
def ofF (ds : List Dep) (rules : List Ru) (root : Bool) : List Dep := (sortN (namesOf (byM root ds))).map fun n => edgeOf rules (findD (byM root ds) n)
def Dep.okL (ds : List Dep) : Prop := ds.length < 1000000000000 ∧ ∀ d ∈ ds, d.name.size ≤ 1000000000 ∧ d.range.length < 1000000000000 ∧ ∀ l ∈ d.range, l.length < 1000000000000
theorem of10_ok (m : Man) (rules : List Ru) (root : Bool) (hd : Dep.okL m.deps) (hrl : Ru.okL rules) : CallsOK Tryz.prog 41 [.agg m.cells, rowT Ru.cells rules, .v (.bool root)] (.row 0 (ofF m.deps rules root).length) [(35, flat Dep.cells (ofF m.deps rules root))] := by
 have hm := hd.1
 refine callsOK mixed Tryz.call41 Tryz.func41 rfl (by rw [Tryz.ntmps41]; simp) ?_ rfl
 rw [Tryz.ntmps41]
 repeat with_reducible refine aw_assoc ?_
 first | with_reducible refine aw_region0 (by decide +kernel) fun K' hK => ?_ | with_reducible refine aw_toS (aw_region0 (by decide +kernel) fun K' hK => ?_)
 simp []
 first | refine hK _ _ _ ?_ | done
 clear K' hK
 repeat with_reducible refine aw_assoc ?_
 first | with_reducible refine aw_region0 (by decide +kernel) fun K' hK => ?_ | with_reducible refine aw_toS (aw_region0 (by decide +kernel) fun K' hK => ?_)
 simp []
 first | refine hK _ _ _ ?_ | done
 clear K' hK
 repeat with_reducible refine aw_assoc ?_
 first | with_reducible refine aw_region0 (by decide +kernel) fun K' hK => ?_ | with_reducible refine aw_toS (aw_region0 (by decide +kernel) fun K' hK => ?_)
 simp []
 first | refine hK _ _ _ ?_ | done
 clear K' hK
 repeat with_reducible refine aw_assoc ?_
 first | with_reducible refine aw_block ?_ | with_reducible refine aw_toS (aw_block ?_)
 refine aw_loop (fun s G nx => s 1 = rowT Ru.cells rules ∧ s 2 = .v (.bool root) ∧ s 7 = .mp 2 ∧ s 20 = rowT Dep.cells m.deps ∧ s 21 = iV m.deps.length ∧ ∃ i : Nat, s 22 = iV i ∧ i ≤ m.deps.length ∧ G 2 = some (.map (entM (byM root (m.deps.take i))))) (fun s _ _ => match s 22 with | .v (.int _ n) => m.deps.length - n.toNat | _ => 0) ?_ ?_
 ·simp
  exact ⟨0, by simp, by omega, rfl⟩
 ·rintro s G nx hf ⟨s1, s2, s7, s20, s21, i, s22, hi, g2⟩
  have hnx := fresh_lt hf g2
  have n2 : ¬ 2 = nx := by omega
  have n3 : ¬ 2 = nx + 1 := by omega
  have hw : IntKind.i64.wrap (↑i + 1) = ((i + 1 : Nat) : Int) := wrapS (by omega)
  repeat with_reducible refine aw_assoc ?_
  first | with_reducible refine aw_region0 (by decide +kernel) fun K' hK => ?_ | with_reducible refine aw_toS (aw_region0 (by decide +kernel) fun K' hK => ?_)
  simp [s21, s22]
  first | refine hK _ _ _ ?_ | done
  clear K' hK
  repeat with_reducible refine aw_assoc ?_
  first | with_reducible refine aw_condP fun A B hA hB => ?_ | with_reducible refine aw_toS (aw_condP fun A B hA hB => ?_)
  simp []
  refine ⟨fun hi2 => hA ?_, fun hi2 => hB ?_⟩ <;> clear hA hB A B <;> (try simp at hi2) <;> (try with_reducible refine aw_skip ?_)
  ·repeat with_reducible refine aw_assoc ?_
   first | with_reducible refine aw_block ?_ | with_reducible refine aw_toS (aw_block ?_)
   repeat with_reducible refine aw_assoc ?_
   first | with_reducible refine aw_region0 (by decide +kernel) fun K' hK => ?_ | with_reducible refine aw_toS (aw_region0 (by decide +kernel) fun K' hK => ?_)
   simp [s20, s22, hi2]
   first | refine hK _ _ _ ?_ | done
   clear K' hK
   have key : ∃ x ok, (∀ G' : Hp, G' 2 = some (.map (entM (byM root (m.deps.take i)))) → evLookup Tryz.prog G' 103 (.mp 2) (sV (nth m.deps i).name) true = some (.tup [.agg x, .v (.bool ok)])) ∧ x.length = 3 ∧ x.all AV.one = true ∧ (ok = false → posM (byM root (m.deps.take i)) (nth m.deps i).name = none) ∧ (ok = true → ∃ j, posM (byM root (m.deps.take i)) (nth m.deps i).name = some j ∧ x = (nth (byM root (m.deps.take i)) j).cells) := by
    cases hp : posM (byM root (m.deps.take i)) (nth m.deps i).name with
    | none => exact ⟨_, false, fun G' h => lookup_none h hp true, rfl, rfl, (fun _ => rfl), (fun h => by cases h)⟩
    | some j => exact ⟨_, true, fun G' h => lookup_some h hp true, rfl, rfl, (fun h => by cases h), fun _ => ⟨j, rfl, rfl⟩⟩
   obtain ⟨x, ok, hlk, hx3, hx1, hok0, hok1⟩ := key
   repeat with_reducible refine aw_assoc ?_
   first | with_reducible refine aw_region0 (by decide +kernel) fun K' hK => ?_ | with_reducible refine aw_toS (aw_region0 (by decide +kernel) fun K' hK => ?_)
   simp [s7, hlk, g2, n2, hx3, hx1]
   first | refine hK _ _ _ ?_ | done
   clear K' hK
   have hup := fun (G' : Hp) (h : G' 2 = some (.map (entM (byM root (m.deps.take i))))) => update_ent h (nth m.deps i)
   repeat with_reducible refine aw_assoc ?_
   first | with_reducible refine aw_region0 (by decide +kernel) fun K' hK => ?_ | with_reducible refine aw_toS (aw_region0 (by decide +kernel) fun K' hK => ?_)
   simp [s2]
   refine acall_flat (counts24_ok (nth m.deps i) root) rfl (by simp) ?_
   cases hc : countsF (nth m.deps i) root with
   | false =>
    simp
    first | refine hK _ _ _ ?_ | done
    clear K' hK
    repeat with_reducible refine aw_assoc ?_
    first | with_reducible refine aw_condP fun A B hA hB => ?_ | with_reducible refine aw_toS (aw_condP fun A B hA hB => ?_)
    simp []
    refine ⟨fun hc => hA ?_, fun hc => hB ?_⟩ <;> clear hA hB A B <;> (try (simp at hc; done)) <;> (try (exfalso; simp at hc; omega)) <;> clear hc <;> (try with_reducible refine aw_skip ?_)
    first | with_reducible refine aw_skipL ?_ | skip
    refine blockK_normal ?_
    repeat with_reducible refine aw_assoc ?_
    first | with_reducible refine aw_region0 (by decide +kernel) fun K' hK => ?_ | with_reducible refine aw_toS (aw_region0 (by decide +kernel) fun K' hK => ?_)
    simp [s22, hw]
    first | refine hK _ _ _ ?_ | done
    clear K' hK
    refine aw_skipL (loopK_normal ?_ ?_)
    ·simp [s1, s2, s7, s20, s21, n2, n3, g2, hw]
     refine ⟨i + 1, by simp, by omega, ?_⟩
     rw [byM_take root hi2, stepM, if_neg (by simp [hc])]
    ·simp [s22, hw]; omega
   | true =>
    cases ok with
    | false =>
     have hp := hok0 rfl
     simp
     first | refine hK _ _ _ ?_ | done
     clear K' hK
     repeat with_reducible refine aw_assoc ?_
     first | with_reducible refine aw_condP fun A B hA hB => ?_ | with_reducible refine aw_toS (aw_condP fun A B hA hB => ?_)
     simp []
     refine ⟨fun hc => hA ?_, fun hc => hB ?_⟩ <;> clear hA hB A B <;> (try (simp at hc; done)) <;> (try (exfalso; simp at hc; omega)) <;> clear hc <;> (try with_reducible refine aw_skip ?_)
     repeat with_reducible refine aw_assoc ?_
     first | with_reducible refine aw_region0 (by decide +kernel) fun K' hK => ?_ | with_reducible refine aw_toS (aw_region0 (by decide +kernel) fun K' hK => ?_)
     simp [s7, hup, g2, n2, n3]
     first | refine hK _ _ _ ?_ | done
     clear K' hK
     first | with_reducible refine aw_skipL ?_ | skip
     refine blockK_normal ?_
     repeat with_reducible refine aw_assoc ?_
     first | with_reducible refine aw_region0 (by decide +kernel) fun K' hK => ?_ | with_reducible refine aw_toS (aw_region0 (by decide +kernel) fun K' hK => ?_)
     simp [s22, hw]
     first | refine hK _ _ _ ?_ | done
     clear K' hK
     refine aw_skipL (loopK_normal ?_ ?_)
     ·simp [s1, s2, s7, s20, s21, n2, n3, g2, hw]
      refine ⟨i + 1, by simp, by omega, ?_⟩
      rw [byM_take root hi2, stepM, if_pos ⟨hc, fun j hj => by rw [hp] at hj; cases hj⟩]
     ·simp [s22, hw]; omega
    | true =>
     obtain ⟨j, hp, rfl⟩ := hok1 rfl
     simp
     first | refine hK _ _ _ ?_ | done
     clear K' hK
     repeat with_reducible refine aw_assoc ?_
     first | with_reducible refine aw_condP fun A B hA hB => ?_ | with_reducible refine aw_toS (aw_condP fun A B hA hB => ?_)
     simp []
     refine ⟨fun hlt => hA ?_, fun hlt => hB ?_⟩ <;> clear hA hB A B <;> (try simp at hlt) <;> (try with_reducible refine aw_skip ?_)
     ·repeat with_reducible refine aw_assoc ?_
      first | with_reducible refine aw_region0 (by decide +kernel) fun K' hK => ?_ | with_reducible refine aw_toS (aw_region0 (by decide +kernel) fun K' hK => ?_)
      simp [s7, hup, g2, n2, n3]
      first | refine hK _ _ _ ?_ | done
      clear K' hK
      first | with_reducible refine aw_skipL ?_ | skip
      refine blockK_normal ?_
      repeat with_reducible refine aw_assoc ?_
      first | with_reducible refine aw_region0 (by decide +kernel) fun K' hK => ?_ | with_reducible refine aw_toS (aw_region0 (by decide +kernel) fun K' hK => ?_)
      simp [s22, hw]
      first | refine hK _ _ _ ?_ | done
      clear K' hK
      refine aw_skipL (loopK_normal ?_ ?_)
      ·simp [s1, s2, s7, s20, s21, n2, n3, g2, hw]
       refine ⟨i + 1, by simp, by omega, ?_⟩
       rw [byM_take root hi2, stepM, if_pos ⟨hc, fun j' hj => by rw [hp] at hj; injection hj with hj; subst hj; exact hlt⟩]
      ·simp [s22, hw]; omega
     ·first | with_reducible refine aw_skipL ?_ | skip
      refine blockK_normal ?_
      repeat with_reducible refine aw_assoc ?_
      first | with_reducible refine aw_region0 (by decide +kernel) fun K' hK => ?_ | with_reducible refine aw_toS (aw_region0 (by decide +kernel) fun K' hK => ?_)
      simp [s22, hw]
      first | refine hK _ _ _ ?_ | done
      clear K' hK
      refine aw_skipL (loopK_normal ?_ ?_)
      ·simp [s1, s2, s7, s20, s21, n2, n3, g2, hw]
       refine ⟨i + 1, by simp, by omega, ?_⟩
       rw [byM_take root hi2, stepM, if_neg (fun h => by have := h.2 j hp; omega)]
      ·simp [s22, hw]; omega
  ·repeat with_reducible refine aw_assoc ?_
   first | with_reducible refine aw_exit ?_ | with_reducible refine aw_exitL ?_
   refine loopK_exit (blockK_exit ?_)
   have hM : byM root (m.deps.take i) = byM root m.deps := by rw [List.take_of_length_le hi2]
   rw [hM] at g2
   generalize hMM : byM root m.deps = M at g2
   have hnd : (namesOf M).Nodup := by rw [← hMM]; exact byM_nodup _ _
   have hlen : ∀ d ∈ M, d.name.size ≤ 1000000000 := fun d h => (hd.2 d (byM_mem (hMM ▸ h))).1
   have hmax : M.length ≤ 1000000000000 := by rw [← hMM]; have := byM_len root m.deps; omega
   repeat with_reducible refine aw_assoc ?_
   first | with_reducible refine aw_region0 (by decide +kernel) fun K' hK => ?_ | with_reducible refine aw_toS (aw_region0 (by decide +kernel) fun K' hK => ?_)
   simp []
   first | refine hK _ _ _ ?_ | done
   clear K' hK
   repeat with_reducible refine aw_assoc ?_
   first | with_reducible refine aw_region0 (by decide +kernel) fun K' hK => ?_ | with_reducible refine aw_toS (aw_region0 (by decide +kernel) fun K' hK => ?_)
   simp [s7]
   refine acall_inl (nx + 1 + 1) (fun hf => keys26 hf) (fun hf => ⟨.inr (.upd (hf _ (Nat.le_refl _)) _), fresh_upd hf⟩) ?_
   simp
   refine acall_inl (nx + 1 + 1 + 1) (fun hf => sorted_own (p := nx + 1) (id := 2) (M := M) (by simp) (by simp [n2, n3, g2]) hnd hlen hmax (hf _ (Nat.le_refl _))) (fun hf => ⟨.inr (.upd (hf _ (Nat.le_refl _)) _), fresh_upd hf⟩) ?_
   simp
   first | refine hK _ _ _ ?_ | done
   clear K' hK
   have n4 : ¬ 2 = nx + 1 + 1 := by omega
   have n5 : ¬ nx = 0 := by omega
   have n6 : ¬ nx = nx + 1 + 1 := by omega
   have hSl : (sortN (namesOf M)).length = M.length := by rw [(sortN_perm _).length_eq]; simp [namesOf]
   generalize hS : sortN (namesOf M) = S at *
   repeat with_reducible refine aw_assoc ?_
   first | with_reducible refine aw_block ?_ | with_reducible refine aw_toS (aw_block ?_)
   refine aw_loop (fun s G nx' => s 1 = rowT Ru.cells rules ∧ s 7 = .mp 2 ∧ s 54 = .row (nx + 1 + 1) S.length ∧ s 55 = iV S.length ∧ G 2 = some (.map (entM M)) ∧ G (nx + 1 + 1) = some (.row 9 (flat nCells S)) ∧ ∃ (i id : Nat), s 56 = iV i ∧ i ≤ S.length ∧ s 12 = .row id i ∧ G id = some (.row 35 (flat Dep.cells ((S.take i).map fun n => edgeOf rules (findD M n))))) (fun s _ _ => match s 56 with | .v (.int _ n) => S.length - n.toNat | _ => 0) ?_ ?_
   ·refine ⟨by simp [s1], by simp [s7], by simp [hSl], by simp [hSl], by simp [n2, n3, n4, n5, g2], by simp, 0, nx, by simp, by omega, by simp, by simp [n6]⟩
   ·rintro s G nx1 hf ⟨t1, t7, t54, t55, g2, gS, i, id, t56, hi, t12, gid⟩
    have m2 : ¬ 2 = nx1 := by have := fresh_lt hf g2; omega
    have mS : ¬ nx + 1 + 1 = nx1 := by have := fresh_lt hf gS; omega
    generalize nx + 1 + 1 = k at *
    have hidl := fresh_lt hf gid
    have hkl := fresh_lt hf gS
    have h2l := fresh_lt hf g2
    have m20 : ¬ nx1 = 0 := by omega
    have m21 : ¬ 2 = nx1 + 1 := by omega
    have m22 : ¬ 2 = nx1 + 2 := by omega
    have m23 : ¬ 2 = nx1 + 2 + 1 := by omega
    have m24 : ¬ 2 = nx1 + 2 + 1 + 1 := by omega
    have m2i : ¬ 2 = id := fun e => by rw [← e, g2] at gid; cases gid
    have mS1 : ¬ k = nx1 + 1 := by omega
    have mS2 : ¬ k = nx1 + 2 := by omega
    have mS3 : ¬ k = nx1 + 2 + 1 := by omega
    have mS4 : ¬ k = nx1 + 2 + 1 + 1 := by omega
    have mSi : ¬ k = id := fun e => by rw [← e, gS] at gid; injection gid with gid; injection gid with gid; cases gid
    have mi : ¬ id = nx1 := by omega
    have mi1 : ¬ id = nx1 + 1 := by omega
    have mi2 : ¬ id = nx1 + 2 := by omega
    have mi3 : ¬ id = nx1 + 3 := by omega
    have hw : IntKind.i64.wrap (↑i + 1) = ((i + 1 : Nat) : Int) := wrapS (by omega)
    repeat with_reducible refine aw_assoc ?_
    first | with_reducible refine aw_region0 (by decide +kernel) fun K' hK => ?_ | with_reducible refine aw_toS (aw_region0 (by decide +kernel) fun K' hK => ?_)
    simp [t55, t56]
    first | refine hK _ _ _ ?_ | done
    clear K' hK
    repeat with_reducible refine aw_assoc ?_
    first | with_reducible refine aw_condP fun A B hA hB => ?_ | with_reducible refine aw_toS (aw_condP fun A B hA hB => ?_)
    simp []
    refine ⟨fun hi3 => hA ?_, fun hi3 => hB ?_⟩ <;> clear hA hB A B <;> (try simp at hi3) <;> (try with_reducible refine aw_skip ?_)
    ·repeat with_reducible refine aw_assoc ?_
     first | with_reducible refine aw_block ?_ | with_reducible refine aw_toS (aw_block ?_)
     repeat with_reducible refine aw_assoc ?_
     first | with_reducible refine aw_region0 (by decide +kernel) fun K' hK => ?_ | with_reducible refine aw_toS (aw_region0 (by decide +kernel) fun K' hK => ?_)
     simp [t54, t56, hi3, gS]
     first | refine hK _ _ _ ?_ | done
     clear K' hK
     have hmem : nth S i ∈ namesOf M := (sortN_perm (namesOf M)).mem_iff.1 (by rw [hS]; exact nth_mem hi3)
     have hj : ∃ j, posM M (nth S i) = some j := by
      cases h : posM M (nth S i) with
      | none => exact absurd hmem (posM_none.1 h)
      | some j => exact ⟨j, rfl⟩
     obtain ⟨j, hj⟩ := hj
     have hjl := posM_lt hj
     have hlk := fun (G' : Hp) (h : G' 2 = some (.map (entM M))) => lookup_some h hj false
     have hfd : findD M (nth S i) = nth M j := by simp [findD, hj]
     have hdm : nth M j ∈ m.deps := byM_mem (root := root) (by rw [hMM]; exact nth_mem hjl.1)
     have hdd := hd.2 _ hdm
     generalize nth M j = d at *
     repeat with_reducible refine aw_assoc ?_
     first | with_reducible refine aw_region0 (by decide +kernel) fun K' hK => ?_ | with_reducible refine aw_toS (aw_region0 (by decide +kernel) fun K' hK => ?_)
     simp [t7, hlk, g2]
     first | refine hK _ _ _ ?_ | done
     clear K' hK
     repeat with_reducible refine aw_assoc ?_
     first | with_reducible refine aw_region0 (by decide +kernel) fun K' hK => ?_ | with_reducible refine aw_toS (aw_region0 (by decide +kernel) fun K' hK => ?_)
     simp []
     refine acall_new (own27_ok d.range hdd.2) (by simp [Rg.cells]) ?_
     simp [addJ_one, Rg.cells, Dep.cells]
     first | refine hK _ _ _ ?_ | done
     clear K' hK
     have hname : (nth S i) = d.name := hjl.2.symm
     have hedge : edgeOf rules (findD M (nth S i)) = edgeOf rules d := by rw [hfd]
     rw [hname]
     cases hat : atF rules d.name with
     | none =>
      repeat with_reducible refine aw_assoc ?_
      first | with_reducible refine aw_region0 (by decide +kernel) fun K' hK => ?_ | with_reducible refine aw_toS (aw_region0 (by decide +kernel) fun K' hK => ?_)
      simp [t1]
      refine acall_new (rule11_none rules d.name hrl hat) (by simp) ?_
      simp [addJ_nil]
      first | refine hK _ _ _ ?_ | done
      clear K' hK
      repeat with_reducible refine aw_assoc ?_
      first | with_reducible refine aw_region0 (by decide +kernel) fun K' hK => ?_ | with_reducible refine aw_toS (aw_region0 (by decide +kernel) fun K' hK => ?_)
      simp []
      first | refine hK _ _ _ ?_ | done
      clear K' hK
      repeat with_reducible refine aw_assoc ?_
      first | with_reducible refine aw_condP fun A B hA hB => ?_ | with_reducible refine aw_toS (aw_condP fun A B hA hB => ?_)
      simp []
      refine ⟨fun hc => hA ?_, fun hc => hB ?_⟩ <;> clear hA hB A B <;> (try (simp at hc; done)) <;> (try (exfalso; simp at hc; omega)) <;> clear hc <;> (try with_reducible refine aw_skip ?_)
      have hlen1 : (List.map (fun n => edgeOf rules (findD M n)) (List.take i S)).length = i := by simp; omega
      have hmin : min i S.length = i := by omega
      have hb1 : i + 1 ≤ 9223372036854775807 := by omega
      have hb2 : (i + 1) * 48 ≤ 140737488355328 := by omega
      repeat with_reducible refine aw_assoc ?_
      first | with_reducible refine aw_region0 (by decide +kernel) fun K' hK => ?_ | with_reducible refine aw_toS (aw_region0 (by decide +kernel) fun K' hK => ?_)
      simp [t12, mi, mi1, mi2, mi3, gid, getC, treeOf_row, srcOf_row, hmin, hb1, hb2]
      first | refine hK _ _ _ ?_ | done
      clear K' hK
      first | with_reducible refine aw_skipL ?_ | skip
      refine blockK_normal ?_
      repeat with_reducible refine aw_assoc ?_
      first | with_reducible refine aw_region0 (by decide +kernel) fun K' hK => ?_ | with_reducible refine aw_toS (aw_region0 (by decide +kernel) fun K' hK => ?_)
      simp [t56, hw]
      first | refine hK _ _ _ ?_ | done
      clear K' hK
      have e1 : edgeOf rules d = d := by simp [edgeOf, hat]
      have hlast : flat Dep.cells (List.take i (List.map (fun n => edgeOf rules (findD M n)) S)) ++ [iV d.kind, sV d.name, rowT Alt.cells d.range] = flat Dep.cells (List.take (i + 1) (List.map (fun n => edgeOf rules (findD M n)) S)) := by
       rw [List.take_add_one, List.getElem?_map, List.getElem?_eq_getElem hi3, ← nth_eq hi3]
       show _ ++ Dep.cells d = _
       rw [flat_snoc]
       simp [hedge, e1]
      refine aw_skipL (loopK_normal ?_ ?_)
      ·refine ⟨by simp [t1], by simp [t7], by simp [t54], by simp [t55], by simp [m20, m2, m21, m22, m23, m24, m2i, g2], by simp [mS, mS1, mS2, mS3, mS4, mSi, gS], i + 1, nx1 + 2 + 1 + 1, by simp [hw], by omega, by simp, ?_⟩
       simp
       exact hlast
      ·simp [t56, hw]; omega
     | some q =>
      have mA : ∀ j, ¬ 2 = nx1 + j := fun j => by omega
      have mB : ∀ j, ¬ k = nx1 + j := fun j => by omega
      have mC : ∀ j, ¬ id = nx1 + j := fun j => by omega
      repeat with_reducible refine aw_assoc ?_
      first | with_reducible refine aw_region0 (by decide +kernel) fun K' hK => ?_ | with_reducible refine aw_toS (aw_region0 (by decide +kernel) fun K' hK => ?_)
      simp [t1]
      refine acall_new (rule11_some rules d.name hrl hat) (by simp) ?_
      simp [addJ_one, Nat.add_assoc]
      first | refine hK _ _ _ ?_ | done
      clear K' hK
      repeat with_reducible refine aw_assoc ?_
      first | with_reducible refine aw_region0 (by decide +kernel) fun K' hK => ?_ | with_reducible refine aw_toS (aw_region0 (by decide +kernel) fun K' hK => ?_)
      simp [Nat.add_assoc]
      first | refine hK _ _ _ ?_ | done
      clear K' hK
      repeat with_reducible refine aw_assoc ?_
      first | with_reducible refine aw_condP fun A B hA hB => ?_ | with_reducible refine aw_toS (aw_condP fun A B hA hB => ?_)
      simp []
      refine ⟨fun hc => hA ?_, fun hc => hB ?_⟩ <;> clear hA hB A B <;> (try (simp at hc; done)) <;> (try (exfalso; simp at hc; omega)) <;> clear hc <;> (try with_reducible refine aw_skip ?_)
      repeat with_reducible refine aw_assoc ?_
      first | with_reducible refine aw_region0 (by decide +kernel) fun K' hK => ?_ | with_reducible refine aw_toS (aw_region0 (by decide +kernel) fun K' hK => ?_)
      simp [getC, Nat.add_assoc]
      first | refine hK _ _ _ ?_ | done
      clear K' hK
      have hmin : min i S.length = i := by omega
      have hb1 : i + 1 ≤ 9223372036854775807 := by omega
      have hb2 : (i + 1) * 48 ≤ 140737488355328 := by omega
      repeat with_reducible refine aw_assoc ?_
      first | with_reducible refine aw_region0 (by decide +kernel) fun K' hK => ?_ | with_reducible refine aw_toS (aw_region0 (by decide +kernel) fun K' hK => ?_)
      simp [t12, mi, mC, gid, getC, treeOf_row, srcOf_row, hmin, hb1, hb2, Nat.add_assoc]
      first | refine hK _ _ _ ?_ | done
      clear K' hK
      first | with_reducible refine aw_skipL ?_ | skip
      refine blockK_normal ?_
      repeat with_reducible refine aw_assoc ?_
      first | with_reducible refine aw_region0 (by decide +kernel) fun K' hK => ?_ | with_reducible refine aw_toS (aw_region0 (by decide +kernel) fun K' hK => ?_)
      simp [t56, hw]
      first | refine hK _ _ _ ?_ | done
      clear K' hK
      have e1 : (edgeOf rules d).cells = [iV d.kind, sV d.name, rowT Alt.cells (nth rules q).range] := by simp [edgeOf, hat, Dep.cells]
      have hlast : flat Dep.cells (List.take i (List.map (fun n => edgeOf rules (findD M n)) S)) ++ [iV d.kind, sV d.name, rowT Alt.cells (nth rules q).range] = flat Dep.cells (List.take (i + 1) (List.map (fun n => edgeOf rules (findD M n)) S)) := by
       rw [List.take_add_one, List.getElem?_map, List.getElem?_eq_getElem hi3, ← nth_eq hi3, ← e1, flat_snoc]
       simp [hedge]
      refine aw_skipL (loopK_normal ?_ ?_)
      ·refine ⟨by simp [t1], by simp [t7], by simp [t54], by simp [t55], by simp [m20, m2, mA, m2i, g2], by simp [mS, mB, mSi, gS], i + 1, nx1 + 5, by simp [hw], by omega, by simp, ?_⟩
       simp
       exact hlast
      ·simp [t56, hw]; omega
    ·repeat with_reducible refine aw_assoc ?_
     first | with_reducible refine aw_exit ?_ | with_reducible refine aw_exitL ?_
     refine loopK_exit (blockK_exit ?_)
     have hiS : i = S.length := by omega
     have hof : ofF m.deps rules root = S.map fun n => edgeOf rules (findD M n) := by simp [ofF, hMM, hS]
     have hofl : (ofF m.deps rules root).length = i := by rw [hof, List.length_map, hiS]
     rw [show S.take i = S by rw [List.take_of_length_le (by omega)], ← hof] at gid
     rw [hofl]
     repeat with_reducible refine aw_assoc ?_
     first | with_reducible refine aw_region0 (by decide +kernel) fun K' hK => ?_ | with_reducible refine aw_toS (aw_region0 (by decide +kernel) fun K' hK => ?_)
     simp [t12]
     first | refine hK _ _ _ ?_ | done
     clear K' hK
     repeat with_reducible refine aw_assoc ?_
     first | with_reducible refine aw_ret ?_ | with_reducible refine aw_retL ?_ | with_reducible refine aw_skipL ?_
     simp [blockK, loopK, Post, resA, res1, expT, expA, exp1, expM, expL, okT, okA, ok1, rowOf, Tryz.f41, gid]
end Go.Proofs.YtgipehooceecpaaGreatDoorAbs
namespace Go.Proofs.YtgipehooceecpaaGreatDoorAbs
set_option linter.unusedSimpArgs false
set_option linter.unusedVariables false
open Go Go.RowKit Go.Proofs
set_option maxRecDepth 100000
set_option maxHeartbeats 4000000
end Go.Proofs.YtgipehooceecpaaGreatDoorAbs
namespace Go.Proofs.YtgipehooceecpaaGreatDoorAbs
set_option linter.unusedSimpArgs false
set_option linter.unusedVariables false
open Go Go.RowKit Go.Proofs
set_option maxRecDepth 100000
set_option maxHeartbeats 4000000
theorem big34_ok (v : Ver) : CallsOK Tryz.prog 74 [.agg v.cells] (.v (.bool (decide (300 < v.pre.size)))) [] := by
 refine callsOK mixed Tryz.call74 Tryz.func74 rfl (by rw [Tryz.ntmps74]; simp) ?_ rfl
 rw [Tryz.ntmps74]
 repeat with_reducible refine aw_assoc ?_
 first | with_reducible refine aw_region0 (by decide +kernel) fun K' hK => ?_ | with_reducible refine aw_toS (aw_region0 (by decide +kernel) fun K' hK => ?_)
 simp []
 first | refine hK _ _ _ ?_ | done
 clear K' hK
 repeat with_reducible refine aw_assoc ?_
 first | with_reducible refine aw_region0 (by decide +kernel) fun K' hK => ?_ | with_reducible refine aw_toS (aw_region0 (by decide +kernel) fun K' hK => ?_)
 simp [getC]
 first | refine hK _ _ _ ?_ | done
 clear K' hK
 repeat with_reducible refine aw_assoc ?_
 first | with_reducible refine aw_ret ?_ | with_reducible refine aw_retL ?_ | with_reducible refine aw_skipL ?_
 simp [blockK, loopK, Post, resA, res1, expT, expA, exp1, expM, expL, okT, okA, ok1, rowOf, Tryz.f74]
 omega
def bigB (b : Bd) : Bool := decide (300 < b.ver.pre.size)
def bigA (l : Alt) : Bool := decide (20 < l.length) || l.any bigB
def bigR (r : Rg) : Bool := decide (20 < r.length) || r.any bigA
theorem big35_ok (r : Rg) : CallsOK Tryz.prog 22 [.agg r.cells] (.v (.bool (bigR r))) [] := by
 refine callsOK mixed Tryz.call22 Tryz.func22 rfl (by rw [Tryz.ntmps22]; simp) ?_ rfl
 rw [Tryz.ntmps22]
 repeat with_reducible refine aw_assoc ?_
 first | with_reducible refine aw_region0 (by decide +kernel) fun K' hK => ?_ | with_reducible refine aw_toS (aw_region0 (by decide +kernel) fun K' hK => ?_)
 simp [Rg.cells]
 first | refine hK _ _ _ ?_ | done
 clear K' hK
 repeat with_reducible refine aw_assoc ?_
 first | with_reducible refine aw_region0 (by decide +kernel) fun K' hK => ?_ | with_reducible refine aw_toS (aw_region0 (by decide +kernel) fun K' hK => ?_)
 simp []
 first | refine hK _ _ _ ?_ | done
 clear K' hK
 repeat with_reducible refine aw_assoc ?_
 first | with_reducible refine aw_condP fun A B hA hB => ?_ | with_reducible refine aw_toS (aw_condP fun A B hA hB => ?_)
 simp []
 refine ⟨fun hl => hA ?_, fun hl => hB ?_⟩ <;> clear hA hB A B <;> (try simp at hl) <;> (try with_reducible refine aw_skip ?_)
 ·repeat with_reducible refine aw_assoc ?_
  first | with_reducible refine aw_region0 (by decide +kernel) fun K' hK => ?_ | with_reducible refine aw_toS (aw_region0 (by decide +kernel) fun K' hK => ?_)
  simp []
  first | refine hK _ _ _ ?_ | done
  clear K' hK
  repeat with_reducible refine aw_assoc ?_
  first | with_reducible refine aw_ret ?_ | with_reducible refine aw_retL ?_ | with_reducible refine aw_skipL ?_
  simp [blockK, loopK, Post, resA, res1, expT, expA, exp1, expM, expL, okT, okA, ok1, rowOf, Tryz.f22]
  simp [bigR]; omega
 ·repeat with_reducible refine aw_assoc ?_
  first | with_reducible refine aw_region0 (by decide +kernel) fun K' hK => ?_ | with_reducible refine aw_toS (aw_region0 (by decide +kernel) fun K' hK => ?_)
  simp []
  first | refine hK _ _ _ ?_ | done
  clear K' hK
  repeat with_reducible refine aw_assoc ?_
  first | with_reducible refine aw_block ?_ | with_reducible refine aw_toS (aw_block ?_)
  refine aw_loop (fun s G nx => G 0 = some (.var 33 [rowT Alt.cells r]) ∧ s 1 = .ptr 0 0 ∧ ∃ i : Nat, s 3 = iV i ∧ i ≤ r.length ∧ (r.take i).any bigA = false) (fun s _ _ => match s 3 with | .v (.int _ n) => r.length - n.toNat | _ => 0) ?_ ?_
  ·exact ⟨by simp, by simp, 0, by simp, by omega, by simp⟩
  ·rintro s G nx - ⟨g0, s1, i, s3, hi, ht⟩
   have hw : IntKind.i64.wrap (↑i + 1) = ((i + 1 : Nat) : Int) := wrapS (by omega)
   repeat with_reducible refine aw_assoc ?_
   first | with_reducible refine aw_region0 (by decide +kernel) fun K' hK => ?_ | with_reducible refine aw_toS (aw_region0 (by decide +kernel) fun K' hK => ?_)
   simp [g0, s1, s3]
   first | refine hK _ _ _ ?_ | done
   clear K' hK
   repeat with_reducible refine aw_assoc ?_
   first | with_reducible refine aw_condP fun A B hA hB => ?_ | with_reducible refine aw_toS (aw_condP fun A B hA hB => ?_)
   simp []
   refine ⟨fun hi2 => hA ?_, fun hi2 => hB ?_⟩ <;> clear hA hB A B <;> (try simp at hi2) <;> (try with_reducible refine aw_skip ?_)
   ·repeat with_reducible refine aw_assoc ?_
    first | with_reducible refine aw_block ?_ | with_reducible refine aw_toS (aw_block ?_)
    repeat with_reducible refine aw_assoc ?_
    first | with_reducible refine aw_region0 (by decide +kernel) fun K' hK => ?_ | with_reducible refine aw_toS (aw_region0 (by decide +kernel) fun K' hK => ?_)
    simp [g0, s1, s3, hi2]
    first | refine hK _ _ _ ?_ | done
    clear K' hK
    repeat with_reducible refine aw_assoc ?_
    first | with_reducible refine aw_condP fun A B hA hB => ?_ | with_reducible refine aw_toS (aw_condP fun A B hA hB => ?_)
    simp []
    refine ⟨fun hl2 => hA ?_, fun hl2 => hB ?_⟩ <;> clear hA hB A B <;> (try simp at hl2) <;> (try with_reducible refine aw_skip ?_)
    ·repeat with_reducible refine aw_assoc ?_
     first | with_reducible refine aw_region0 (by decide +kernel) fun K' hK => ?_ | with_reducible refine aw_toS (aw_region0 (by decide +kernel) fun K' hK => ?_)
     simp []
     first | refine hK _ _ _ ?_ | done
     clear K' hK
     repeat with_reducible refine aw_assoc ?_
     first | with_reducible refine aw_ret ?_ | with_reducible refine aw_retL ?_ | with_reducible refine aw_skipL ?_
     simp [blockK, loopK, Post, resA, res1, expT, expA, exp1, expM, expL, okT, okA, ok1, rowOf, Tryz.f22]
     have : bigA (nth r i) = true := by simp [bigA]; left; omega
     simp only [bigR, Bool.or_eq_true, List.any_eq_true]
     exact .inr ⟨_, nth_mem hi2, this⟩
    ·repeat with_reducible refine aw_assoc ?_
     first | with_reducible refine aw_region0 (by decide +kernel) fun K' hK => ?_ | with_reducible refine aw_toS (aw_region0 (by decide +kernel) fun K' hK => ?_)
     simp []
     first | refine hK _ _ _ ?_ | done
     clear K' hK
     repeat with_reducible refine aw_assoc ?_
     first | with_reducible refine aw_block ?_ | with_reducible refine aw_toS (aw_block ?_)
     refine aw_loop (fun s G nx => G 0 = some (.var 33 [rowT Alt.cells r]) ∧ s 1 = .ptr 0 0 ∧ s 3 = iV i ∧ ∃ j : Nat, s 4 = iV j ∧ j ≤ (nth r i).length ∧ ((nth r i).take j).any bigB = false) (fun s _ _ => match s 4 with | .v (.int _ n) => (nth r i).length - n.toNat | _ => 0) ?_ ?_
     ·exact ⟨by simp [g0], by simp [s1], by simp [s3], 0, by simp, by omega, by simp⟩
     ·rintro s' G' nx' - ⟨g0', s1', s3', j, s4', hj, htj⟩
      have hwj : IntKind.i64.wrap (↑j + 1) = ((j + 1 : Nat) : Int) := wrapS (by omega)
      repeat with_reducible refine aw_assoc ?_
      first | with_reducible refine aw_region0 (by decide +kernel) fun K' hK => ?_ | with_reducible refine aw_toS (aw_region0 (by decide +kernel) fun K' hK => ?_)
      simp [g0', s1', s3', s4', hi2]
      first | refine hK _ _ _ ?_ | done
      clear K' hK
      repeat with_reducible refine aw_assoc ?_
      first | with_reducible refine aw_condP fun A B hA hB => ?_ | with_reducible refine aw_toS (aw_condP fun A B hA hB => ?_)
      simp []
      refine ⟨fun hj2 => hA ?_, fun hj2 => hB ?_⟩ <;> clear hA hB A B <;> (try simp at hj2) <;> (try with_reducible refine aw_skip ?_)
      ·repeat with_reducible refine aw_assoc ?_
       first | with_reducible refine aw_block ?_ | with_reducible refine aw_toS (aw_block ?_)
       repeat with_reducible refine aw_assoc ?_
       first | with_reducible refine aw_region0 (by decide +kernel) fun K' hK => ?_ | with_reducible refine aw_toS (aw_region0 (by decide +kernel) fun K' hK => ?_)
       simp [g0', s1', s3', s4', hi2, hj2]
       refine acall_flat (big34_ok (nth (nth r i) j).ver) rfl (by simp) ?_
       simp
       first | refine hK _ _ _ ?_ | done
       clear K' hK
       repeat with_reducible refine aw_assoc ?_
       first | with_reducible refine aw_condP fun A B hA hB => ?_ | with_reducible refine aw_toS (aw_condP fun A B hA hB => ?_)
       simp []
       refine ⟨fun hb => hA ?_, fun hb => hB ?_⟩ <;> clear hA hB A B <;> (try simp at hb) <;> (try with_reducible refine aw_skip ?_)
       ·repeat with_reducible refine aw_assoc ?_
        first | with_reducible refine aw_region0 (by decide +kernel) fun K' hK => ?_ | with_reducible refine aw_toS (aw_region0 (by decide +kernel) fun K' hK => ?_)
        simp []
        first | refine hK _ _ _ ?_ | done
        clear K' hK
        repeat with_reducible refine aw_assoc ?_
        first | with_reducible refine aw_ret ?_ | with_reducible refine aw_retL ?_ | with_reducible refine aw_skipL ?_
        simp [blockK, loopK, Post, resA, res1, expT, expA, exp1, expM, expL, okT, okA, ok1, rowOf, Tryz.f22]
        have h1 : bigB (nth (nth r i) j) = true := by simp [bigB]; omega
        have h2 : bigA (nth r i) = true := by
         simp only [bigA, Bool.or_eq_true, List.any_eq_true]
         exact .inr ⟨_, nth_mem hj2, h1⟩
        simp only [bigR, Bool.or_eq_true, List.any_eq_true]
        exact .inr ⟨_, nth_mem hi2, h2⟩
       ·first | with_reducible refine aw_skipL ?_ | skip
        refine blockK_normal ?_
        repeat with_reducible refine aw_assoc ?_
        first | with_reducible refine aw_region0 (by decide +kernel) fun K' hK => ?_ | with_reducible refine aw_toS (aw_region0 (by decide +kernel) fun K' hK => ?_)
        simp [s4', hwj]
        first | refine hK _ _ _ ?_ | done
        clear K' hK
        refine aw_skipL (loopK_normal ?_ ?_)
        ·exact ⟨by simp [g0'], by simp [s1'], by simp [s3'], j + 1, by simp [hwj], by omega, any_take hj2 htj (by simp [bigB]; omega)⟩
        ·simp [s4', hwj]; omega
      ·repeat with_reducible refine aw_assoc ?_
       first | with_reducible refine aw_exit ?_ | with_reducible refine aw_exitL ?_
       refine loopK_exit (blockK_exit ?_)
       first | with_reducible refine aw_skipL ?_ | skip
       refine blockK_normal ?_
       repeat with_reducible refine aw_assoc ?_
       first | with_reducible refine aw_region0 (by decide +kernel) fun K' hK => ?_ | with_reducible refine aw_toS (aw_region0 (by decide +kernel) fun K' hK => ?_)
       simp [s3', hw]
       first | refine hK _ _ _ ?_ | done
       clear K' hK
       have hA : bigA (nth r i) = false := by
        rw [List.take_of_length_le (by omega)] at htj
        simp only [bigA, htj, Bool.or_false, decide_eq_false_iff_not]; omega
       refine aw_skipL (loopK_normal ?_ ?_)
       ·exact ⟨by simp [g0'], by simp [s1'], i + 1, by simp [hw], by omega, any_take hi2 ht hA⟩
       ·simp [s3, s3', hw]; omega
   ·repeat with_reducible refine aw_assoc ?_
    first | with_reducible refine aw_exit ?_ | with_reducible refine aw_exitL ?_
    refine loopK_exit (blockK_exit ?_)
    repeat with_reducible refine aw_assoc ?_
    first | with_reducible refine aw_region0 (by decide +kernel) fun K' hK => ?_ | with_reducible refine aw_toS (aw_region0 (by decide +kernel) fun K' hK => ?_)
    simp []
    first | refine hK _ _ _ ?_ | done
    clear K' hK
    repeat with_reducible refine aw_assoc ?_
    first | with_reducible refine aw_ret ?_ | with_reducible refine aw_retL ?_ | with_reducible refine aw_skipL ?_
    simp [blockK, loopK, Post, resA, res1, expT, expA, exp1, expM, expL, okT, okA, ok1, rowOf, Tryz.f22]
    rw [List.take_of_length_le (by omega)] at ht
    simp only [bigR, ht, Bool.or_false, decide_eq_false_iff_not]; omega
end Go.Proofs.YtgipehooceecpaaGreatDoorAbs
namespace Go.Proofs.YtgipehooceecpaaGreatDoorAbs
set_option linter.unusedSimpArgs false
set_option linter.unusedVariables false
open Go Go.RowKit Go.Proofs
set_option maxRecDepth 100000
set_option maxHeartbeats 4000000
def bigD (d : Dep) : Bool := decide (300 < d.name.size) || bigR d.range
def bigU (d : Ru) : Bool := decide (300 < d.name.size) || bigR d.range
def bigM (m : Man) : Bool := decide (300 < m.name.size) || decide (300 < m.ver.pre.size) || decide (40 < m.deps.length) || decide (40 < m.rules.length) || m.deps.any bigD || m.rules.any bigU
theorem big22_ok (m : Man) : CallsOK Tryz.prog 72 [.agg m.cells] (.v (.bool (bigM m))) [] := by
 refine callsOK mixed Tryz.call72 Tryz.func72 rfl (by rw [Tryz.ntmps72]; simp) ?_ rfl
 rw [Tryz.ntmps72]
 repeat with_reducible refine aw_assoc ?_
 first | with_reducible refine aw_region0 (by decide +kernel) fun K' hK => ?_ | with_reducible refine aw_toS (aw_region0 (by decide +kernel) fun K' hK => ?_)
 simp []
 first | refine hK _ _ _ ?_ | done
 clear K' hK
 by_cases c1 : (300 : Int) < (m.name.size : Int)
 ·repeat with_reducible refine aw_assoc ?_
  first | with_reducible refine aw_region0 (by decide +kernel) fun K' hK => ?_ | with_reducible refine aw_toS (aw_region0 (by decide +kernel) fun K' hK => ?_)
  simp [c1]
  first | refine hK _ _ _ ?_ | done
  clear K' hK
  repeat with_reducible refine aw_assoc ?_
  first | with_reducible refine aw_condP fun A B hA hB => ?_ | with_reducible refine aw_toS (aw_condP fun A B hA hB => ?_)
  simp []
  refine ⟨fun hc => hA ?_, fun hc => hB ?_⟩ <;> clear hA hB A B <;> (try (simp at hc; done)) <;> (try (exfalso; simp at hc; omega)) <;> clear hc <;> (try with_reducible refine aw_skip ?_)
  repeat with_reducible refine aw_assoc ?_
  first | with_reducible refine aw_region0 (by decide +kernel) fun K' hK => ?_ | with_reducible refine aw_toS (aw_region0 (by decide +kernel) fun K' hK => ?_)
  simp []
  first | refine hK _ _ _ ?_ | done
  clear K' hK
  repeat with_reducible refine aw_assoc ?_
  first | with_reducible refine aw_ret ?_ | with_reducible refine aw_retL ?_ | with_reducible refine aw_skipL ?_
  simp [blockK, loopK, Post, resA, res1, expT, expA, exp1, expM, expL, okT, okA, ok1, rowOf, Tryz.f72]
  simp [bigM]; omega
 ·repeat with_reducible refine aw_assoc ?_
  first | with_reducible refine aw_region0 (by decide +kernel) fun K' hK => ?_ | with_reducible refine aw_toS (aw_region0 (by decide +kernel) fun K' hK => ?_)
  simp [c1]
  refine acall_flat (big34_ok m.ver) rfl (by simp) ?_
  by_cases c2 : 300 < m.ver.pre.size
  ·simp [c2]
   first | refine hK _ _ _ ?_ | done
   clear K' hK
   repeat with_reducible refine aw_assoc ?_
   first | with_reducible refine aw_condP fun A B hA hB => ?_ | with_reducible refine aw_toS (aw_condP fun A B hA hB => ?_)
   simp []
   refine ⟨fun hc => hA ?_, fun hc => hB ?_⟩ <;> clear hA hB A B <;> (try (simp at hc; done)) <;> (try (exfalso; simp at hc; omega)) <;> clear hc <;> (try with_reducible refine aw_skip ?_)
   repeat with_reducible refine aw_assoc ?_
   first | with_reducible refine aw_region0 (by decide +kernel) fun K' hK => ?_ | with_reducible refine aw_toS (aw_region0 (by decide +kernel) fun K' hK => ?_)
   simp []
   first | refine hK _ _ _ ?_ | done
   clear K' hK
   repeat with_reducible refine aw_assoc ?_
   first | with_reducible refine aw_ret ?_ | with_reducible refine aw_retL ?_ | with_reducible refine aw_skipL ?_
   simp [blockK, loopK, Post, resA, res1, expT, expA, exp1, expM, expL, okT, okA, ok1, rowOf, Tryz.f72]
   simp [bigM, c2]
  ·by_cases c3 : (40 : Int) < (m.deps.length : Int)
   ·simp [c2, c3]
    first | refine hK _ _ _ ?_ | done
    clear K' hK
    repeat with_reducible refine aw_assoc ?_
    first | with_reducible refine aw_condP fun A B hA hB => ?_ | with_reducible refine aw_toS (aw_condP fun A B hA hB => ?_)
    simp []
    refine ⟨fun hc => hA ?_, fun hc => hB ?_⟩ <;> clear hA hB A B <;> (try (simp at hc; done)) <;> (try (exfalso; simp at hc; omega)) <;> clear hc <;> (try with_reducible refine aw_skip ?_)
    repeat with_reducible refine aw_assoc ?_
    first | with_reducible refine aw_region0 (by decide +kernel) fun K' hK => ?_ | with_reducible refine aw_toS (aw_region0 (by decide +kernel) fun K' hK => ?_)
    simp []
    first | refine hK _ _ _ ?_ | done
    clear K' hK
    repeat with_reducible refine aw_assoc ?_
    first | with_reducible refine aw_ret ?_ | with_reducible refine aw_retL ?_ | with_reducible refine aw_skipL ?_
    simp [blockK, loopK, Post, resA, res1, expT, expA, exp1, expM, expL, okT, okA, ok1, rowOf, Tryz.f72]
    simp [bigM]; omega
   ·by_cases c4 : (40 : Int) < (m.rules.length : Int)
    ·simp [c2, c3, c4]
     first | refine hK _ _ _ ?_ | done
     clear K' hK
     repeat with_reducible refine aw_assoc ?_
     first | with_reducible refine aw_condP fun A B hA hB => ?_ | with_reducible refine aw_toS (aw_condP fun A B hA hB => ?_)
     simp []
     refine ⟨fun hc => hA ?_, fun hc => hB ?_⟩ <;> clear hA hB A B <;> (try (simp at hc; done)) <;> (try (exfalso; simp at hc; omega)) <;> clear hc <;> (try with_reducible refine aw_skip ?_)
     repeat with_reducible refine aw_assoc ?_
     first | with_reducible refine aw_region0 (by decide +kernel) fun K' hK => ?_ | with_reducible refine aw_toS (aw_region0 (by decide +kernel) fun K' hK => ?_)
     simp []
     first | refine hK _ _ _ ?_ | done
     clear K' hK
     repeat with_reducible refine aw_assoc ?_
     first | with_reducible refine aw_ret ?_ | with_reducible refine aw_retL ?_ | with_reducible refine aw_skipL ?_
     simp [blockK, loopK, Post, resA, res1, expT, expA, exp1, expM, expL, okT, okA, ok1, rowOf, Tryz.f72]
     simp [bigM]; omega
    ·simp [c2, c3, c4]
     first | refine hK _ _ _ ?_ | done
     clear K' hK
     repeat with_reducible refine aw_assoc ?_
     first | with_reducible refine aw_condP fun A B hA hB => ?_ | with_reducible refine aw_toS (aw_condP fun A B hA hB => ?_)
     simp []
     refine ⟨fun hc => hA ?_, fun hc => hB ?_⟩ <;> clear hA hB A B <;> (try (simp at hc; done)) <;> (try (exfalso; simp at hc; omega)) <;> clear hc <;> (try with_reducible refine aw_skip ?_)
     repeat with_reducible refine aw_assoc ?_
     first | with_reducible refine aw_region0 (by decide +kernel) fun K' hK => ?_ | with_reducible refine aw_toS (aw_region0 (by decide +kernel) fun K' hK => ?_)
     simp []
     first | refine hK _ _ _ ?_ | done
     clear K' hK
     repeat with_reducible refine aw_assoc ?_
     first | with_reducible refine aw_block ?_ | with_reducible refine aw_toS (aw_block ?_)
     refine aw_loop (fun s G nx => G 0 = some (.var 27 m.cells) ∧ s 1 = .ptr 0 0 ∧ ∃ i : Nat, s 3 = iV i ∧ i ≤ m.deps.length ∧ (m.deps.take i).any bigD = false) (fun s _ _ => match s 3 with | .v (.int _ n) => m.deps.length - n.toNat | _ => 0) ?_ ?_
     ·exact ⟨by simp, by simp, 0, by simp, by omega, by simp⟩
     ·rintro s G nx - ⟨g0, s1, i, s3, hi, ht⟩
      have hw : IntKind.i64.wrap (↑i + 1) = ((i + 1 : Nat) : Int) := wrapS (by omega)
      repeat with_reducible refine aw_assoc ?_
      first | with_reducible refine aw_region0 (by decide +kernel) fun K' hK => ?_ | with_reducible refine aw_toS (aw_region0 (by decide +kernel) fun K' hK => ?_)
      simp [g0, s1, s3]
      first | refine hK _ _ _ ?_ | done
      clear K' hK
      repeat with_reducible refine aw_assoc ?_
      first | with_reducible refine aw_condP fun A B hA hB => ?_ | with_reducible refine aw_toS (aw_condP fun A B hA hB => ?_)
      simp []
      refine ⟨fun hi2 => hA ?_, fun hi2 => hB ?_⟩ <;> clear hA hB A B <;> (try simp at hi2) <;> (try with_reducible refine aw_skip ?_)
      ·repeat with_reducible refine aw_assoc ?_
       first | with_reducible refine aw_block ?_ | with_reducible refine aw_toS (aw_block ?_)
       by_cases d1 : (300 : Int) < ((nth m.deps i).name.size : Int)
       ·repeat with_reducible refine aw_assoc ?_
        first | with_reducible refine aw_region0 (by decide +kernel) fun K' hK => ?_ | with_reducible refine aw_toS (aw_region0 (by decide +kernel) fun K' hK => ?_)
        simp [g0, s1, s3, hi2, d1]
        first | refine hK _ _ _ ?_ | done
        clear K' hK
        repeat with_reducible refine aw_assoc ?_
        first | with_reducible refine aw_condP fun A B hA hB => ?_ | with_reducible refine aw_toS (aw_condP fun A B hA hB => ?_)
        simp []
        refine ⟨fun hc => hA ?_, fun hc => hB ?_⟩ <;> clear hA hB A B <;> (try (simp at hc; done)) <;> (try (exfalso; simp at hc; omega)) <;> clear hc <;> (try with_reducible refine aw_skip ?_)
        repeat with_reducible refine aw_assoc ?_
        first | with_reducible refine aw_region0 (by decide +kernel) fun K' hK => ?_ | with_reducible refine aw_toS (aw_region0 (by decide +kernel) fun K' hK => ?_)
        simp []
        first | refine hK _ _ _ ?_ | done
        clear K' hK
        repeat with_reducible refine aw_assoc ?_
        first | with_reducible refine aw_ret ?_ | with_reducible refine aw_retL ?_ | with_reducible refine aw_skipL ?_
        simp [blockK, loopK, Post, resA, res1, expT, expA, exp1, expM, expL, okT, okA, ok1, rowOf, Tryz.f72]
        have h1 : bigD (nth m.deps i) = true := by simp [bigD]; left; omega
        simp only [bigM, Bool.or_eq_true, List.any_eq_true]
        exact .inl (.inr ⟨_, nth_mem hi2, h1⟩)
       ·repeat with_reducible refine aw_assoc ?_
        first | with_reducible refine aw_region0 (by decide +kernel) fun K' hK => ?_ | with_reducible refine aw_toS (aw_region0 (by decide +kernel) fun K' hK => ?_)
        simp [g0, s1, s3, hi2, d1]
        refine acall_flat (big35_ok (nth m.deps i).range) rfl (by simp [Rg.cells]) ?_
        simp
        first | refine hK _ _ _ ?_ | done
        clear K' hK
        repeat with_reducible refine aw_assoc ?_
        first | with_reducible refine aw_condP fun A B hA hB => ?_ | with_reducible refine aw_toS (aw_condP fun A B hA hB => ?_)
        simp []
        refine ⟨fun d2 => hA ?_, fun d2 => hB ?_⟩ <;> clear hA hB A B <;> (try simp at d2) <;> (try with_reducible refine aw_skip ?_)
        ·repeat with_reducible refine aw_assoc ?_
         first | with_reducible refine aw_region0 (by decide +kernel) fun K' hK => ?_ | with_reducible refine aw_toS (aw_region0 (by decide +kernel) fun K' hK => ?_)
         simp []
         first | refine hK _ _ _ ?_ | done
         clear K' hK
         repeat with_reducible refine aw_assoc ?_
         first | with_reducible refine aw_ret ?_ | with_reducible refine aw_retL ?_ | with_reducible refine aw_skipL ?_
         simp [blockK, loopK, Post, resA, res1, expT, expA, exp1, expM, expL, okT, okA, ok1, rowOf, Tryz.f72]
         have h1 : bigD (nth m.deps i) = true := by simp [bigD, d2]
         simp only [bigM, Bool.or_eq_true, List.any_eq_true]
         exact .inl (.inr ⟨_, nth_mem hi2, h1⟩)
        ·first | with_reducible refine aw_skipL ?_ | skip
         refine blockK_normal ?_
         repeat with_reducible refine aw_assoc ?_
         first | with_reducible refine aw_region0 (by decide +kernel) fun K' hK => ?_ | with_reducible refine aw_toS (aw_region0 (by decide +kernel) fun K' hK => ?_)
         simp [s3, hw]
         first | refine hK _ _ _ ?_ | done
         clear K' hK
         refine aw_skipL (loopK_normal ?_ ?_)
         ·exact ⟨by simp [g0], by simp [s1], i + 1, by simp [hw], by omega, any_take hi2 ht (by simp only [bigD, d2, Bool.or_false, decide_eq_false_iff_not]; omega)⟩
         ·simp [s3, hw]; omega
      ·repeat with_reducible refine aw_assoc ?_
       first | with_reducible refine aw_exit ?_ | with_reducible refine aw_exitL ?_
       refine loopK_exit (blockK_exit ?_)
       have hD : m.deps.any bigD = false := by rw [List.take_of_length_le (by omega)] at ht; exact ht
       repeat with_reducible refine aw_assoc ?_
       first | with_reducible refine aw_region0 (by decide +kernel) fun K' hK => ?_ | with_reducible refine aw_toS (aw_region0 (by decide +kernel) fun K' hK => ?_)
       simp []
       first | refine hK _ _ _ ?_ | done
       clear K' hK
       repeat with_reducible refine aw_assoc ?_
       first | with_reducible refine aw_block ?_ | with_reducible refine aw_toS (aw_block ?_)
       refine aw_loop (fun s G nx => G 0 = some (.var 27 m.cells) ∧ s 1 = .ptr 0 0 ∧ ∃ i : Nat, s 4 = iV i ∧ i ≤ m.rules.length ∧ (m.rules.take i).any bigU = false) (fun s _ _ => match s 4 with | .v (.int _ n) => m.rules.length - n.toNat | _ => 0) ?_ ?_
       ·exact ⟨by simp [g0], by simp [s1], 0, by simp, by omega, by simp⟩
       ·rintro s' G' nx' - ⟨g0', s1', j, s4', hj, htj⟩
        have hwj : IntKind.i64.wrap (↑j + 1) = ((j + 1 : Nat) : Int) := wrapS (by omega)
        repeat with_reducible refine aw_assoc ?_
        first | with_reducible refine aw_region0 (by decide +kernel) fun K' hK => ?_ | with_reducible refine aw_toS (aw_region0 (by decide +kernel) fun K' hK => ?_)
        simp [g0', s1', s4']
        first | refine hK _ _ _ ?_ | done
        clear K' hK
        repeat with_reducible refine aw_assoc ?_
        first | with_reducible refine aw_condP fun A B hA hB => ?_ | with_reducible refine aw_toS (aw_condP fun A B hA hB => ?_)
        simp []
        refine ⟨fun hj2 => hA ?_, fun hj2 => hB ?_⟩ <;> clear hA hB A B <;> (try simp at hj2) <;> (try with_reducible refine aw_skip ?_)
        ·repeat with_reducible refine aw_assoc ?_
         first | with_reducible refine aw_block ?_ | with_reducible refine aw_toS (aw_block ?_)
         by_cases d1 : (300 : Int) < ((nth m.rules j).name.size : Int)
         ·repeat with_reducible refine aw_assoc ?_
          first | with_reducible refine aw_region0 (by decide +kernel) fun K' hK => ?_ | with_reducible refine aw_toS (aw_region0 (by decide +kernel) fun K' hK => ?_)
          simp [g0', s1', s4', hj2, d1]
          first | refine hK _ _ _ ?_ | done
          clear K' hK
          repeat with_reducible refine aw_assoc ?_
          first | with_reducible refine aw_condP fun A B hA hB => ?_ | with_reducible refine aw_toS (aw_condP fun A B hA hB => ?_)
          simp []
          refine ⟨fun hc => hA ?_, fun hc => hB ?_⟩ <;> clear hA hB A B <;> (try (simp at hc; done)) <;> (try (exfalso; simp at hc; omega)) <;> clear hc <;> (try with_reducible refine aw_skip ?_)
          repeat with_reducible refine aw_assoc ?_
          first | with_reducible refine aw_region0 (by decide +kernel) fun K' hK => ?_ | with_reducible refine aw_toS (aw_region0 (by decide +kernel) fun K' hK => ?_)
          simp []
          first | refine hK _ _ _ ?_ | done
          clear K' hK
          repeat with_reducible refine aw_assoc ?_
          first | with_reducible refine aw_ret ?_ | with_reducible refine aw_retL ?_ | with_reducible refine aw_skipL ?_
          simp [blockK, loopK, Post, resA, res1, expT, expA, exp1, expM, expL, okT, okA, ok1, rowOf, Tryz.f72]
          have h1 : bigU (nth m.rules j) = true := by simp [bigU]; left; omega
          simp only [bigM, Bool.or_eq_true, List.any_eq_true]
          exact .inr ⟨_, nth_mem hj2, h1⟩
         ·repeat with_reducible refine aw_assoc ?_
          first | with_reducible refine aw_region0 (by decide +kernel) fun K' hK => ?_ | with_reducible refine aw_toS (aw_region0 (by decide +kernel) fun K' hK => ?_)
          simp [g0', s1', s4', hj2, d1]
          refine acall_flat (big35_ok (nth m.rules j).range) rfl (by simp [Rg.cells]) ?_
          simp
          first | refine hK _ _ _ ?_ | done
          clear K' hK
          repeat with_reducible refine aw_assoc ?_
          first | with_reducible refine aw_condP fun A B hA hB => ?_ | with_reducible refine aw_toS (aw_condP fun A B hA hB => ?_)
          simp []
          refine ⟨fun d2 => hA ?_, fun d2 => hB ?_⟩ <;> clear hA hB A B <;> (try simp at d2) <;> (try with_reducible refine aw_skip ?_)
          ·repeat with_reducible refine aw_assoc ?_
           first | with_reducible refine aw_region0 (by decide +kernel) fun K' hK => ?_ | with_reducible refine aw_toS (aw_region0 (by decide +kernel) fun K' hK => ?_)
           simp []
           first | refine hK _ _ _ ?_ | done
           clear K' hK
           repeat with_reducible refine aw_assoc ?_
           first | with_reducible refine aw_ret ?_ | with_reducible refine aw_retL ?_ | with_reducible refine aw_skipL ?_
           simp [blockK, loopK, Post, resA, res1, expT, expA, exp1, expM, expL, okT, okA, ok1, rowOf, Tryz.f72]
           have h1 : bigU (nth m.rules j) = true := by simp [bigU, d2]
           simp only [bigM, Bool.or_eq_true, List.any_eq_true]
           exact .inr ⟨_, nth_mem hj2, h1⟩
          ·first | with_reducible refine aw_skipL ?_ | skip
           refine blockK_normal ?_
           repeat with_reducible refine aw_assoc ?_
           first | with_reducible refine aw_region0 (by decide +kernel) fun K' hK => ?_ | with_reducible refine aw_toS (aw_region0 (by decide +kernel) fun K' hK => ?_)
           simp [s4', hwj]
           first | refine hK _ _ _ ?_ | done
           clear K' hK
           refine aw_skipL (loopK_normal ?_ ?_)
           ·exact ⟨by simp [g0'], by simp [s1'], j + 1, by simp [hwj], by omega, any_take hj2 htj (by simp only [bigU, d2, Bool.or_false, decide_eq_false_iff_not]; omega)⟩
           ·simp [s4', hwj]; omega
        ·repeat with_reducible refine aw_assoc ?_
         first | with_reducible refine aw_exit ?_ | with_reducible refine aw_exitL ?_
         refine loopK_exit (blockK_exit ?_)
         have hU : m.rules.any bigU = false := by rw [List.take_of_length_le (by omega)] at htj; exact htj
         repeat with_reducible refine aw_assoc ?_
         first | with_reducible refine aw_region0 (by decide +kernel) fun K' hK => ?_ | with_reducible refine aw_toS (aw_region0 (by decide +kernel) fun K' hK => ?_)
         simp []
         first | refine hK _ _ _ ?_ | done
         clear K' hK
         repeat with_reducible refine aw_assoc ?_
         first | with_reducible refine aw_ret ?_ | with_reducible refine aw_retL ?_ | with_reducible refine aw_skipL ?_
         simp [blockK, loopK, Post, resA, res1, expT, expA, exp1, expM, expL, okT, okA, ok1, rowOf, Tryz.f72]
         simp [bigM, hD, hU]; omega
end Go.Proofs.YtgipehooceecpaaGreatDoorAbs
namespace Go.Proofs.YtgipehooceecpaaGreatDoorAbs
set_option linter.unusedSimpArgs false
set_option linter.unusedVariables false
open Go Go.RowKit Go.Proofs
def leB' (a b : Bs) : Prop := bsL a ≤ bsL b
theorem leB'_anti {a b : Bs} (h1 : leB' a b) (h2 : leB' b a) : a = b := bsL_inj (List.le_antisymm h1 h2)
theorem sortN_sorted (l : List Bs) : (sortN l).Pairwise leB' := by
 have tr : ∀ a b c : List UInt8, decide (a ≤ b) = true → decide (b ≤ c) = true → decide (a ≤ c) = true := fun a b c h1 h2 => by simp only [decide_eq_true_eq] at *; exact List.le_trans h1 h2
 have tot : ∀ a b : List UInt8, (decide (a ≤ b) || decide (b ≤ a)) = true := fun a b => by simp only [Bool.or_eq_true, decide_eq_true_eq]; exact List.le_total a b
 unfold sortN sortK
 refine List.pairwise_map.2 ((List.pairwise_mergeSort tr tot (l.map bsL)).imp fun h => ?_)
 simpa [leB', bsL] using h
theorem sortN_eq {l l' : List Bs} (hp : l'.Perm l) (hs : l'.Pairwise leB') : sortN l = l' :=
 List.Perm.eq_of_pairwise (le := leB') (fun a b _ _ h1 h2 => leB'_anti h1 h2) (sortN_sorted l) hs ((sortN_perm l).trans hp.symm)
theorem sortN_self {l : List Bs} (hs : l.Pairwise leB') : sortN l = l := sortN_eq (List.Perm.refl _) hs
end Go.Proofs.YtgipehooceecpaaGreatDoorAbs
namespace Go.Proofs.YtgipehooceecpaaGreatDoorAbs
set_option linter.unusedSimpArgs false
set_option linter.unusedVariables false
open Go Go.RowKit Go.Proofs
set_option maxRecDepth 100000
set_option maxHeartbeats 4000000
theorem clone127_ok (l : List Dep) (hl : l.length < 1000000000000) : CallsOK Tryz.prog 127 [rowT Dep.cells l] (.row 0 l.length) [(35, flat Dep.cells l)] := by
 refine callsOK mixed Tryz.call127 Tryz.func127 rfl (by rw [Tryz.ntmps127]; simp) ?_ rfl
 rw [Tryz.ntmps127]
 have h1 : l.length ≤ 9223372036854775807 := by omega
 have h2 : l.length * 48 ≤ 140737488355328 := by omega
 repeat with_reducible refine aw_assoc ?_
 first | with_reducible refine aw_region0 (by decide +kernel) fun K' hK => ?_ | with_reducible refine aw_toS (aw_region0 (by decide +kernel) fun K' hK => ?_)
 simp []
 first | refine hK _ _ _ ?_ | done
 clear K' hK
 by_cases h : l = []
 ·subst h
  repeat with_reducible refine aw_assoc ?_
  first | with_reducible refine aw_region0 (by decide +kernel) fun K' hK => ?_ | with_reducible refine aw_toS (aw_region0 (by decide +kernel) fun K' hK => ?_)
  simp []
  first | refine hK _ _ _ ?_ | done
  clear K' hK
  repeat with_reducible refine aw_assoc ?_
  refine aw_condP fun A B hA hB => ?_
  simp
  refine ⟨hA ?_, hB (aw_skip ?_)⟩
  ·repeat with_reducible refine aw_assoc ?_
   first | with_reducible refine aw_region0 (by decide +kernel) fun K' hK => ?_ | with_reducible refine aw_toS (aw_region0 (by decide +kernel) fun K' hK => ?_)
   simp []
   first | refine hK _ _ _ ?_ | done
   clear K' hK
   repeat with_reducible refine aw_assoc ?_
   first | with_reducible refine aw_ret ?_ | with_reducible refine aw_retL ?_ | with_reducible refine aw_skipL ?_
   simp [blockK, loopK, Post, resA, res1, expT, expA, exp1, expM, expL, okT, okA, ok1, rowOf, Tryz.f127]
  ·repeat with_reducible refine aw_assoc ?_
   first | with_reducible refine aw_region0 (by decide +kernel) fun K' hK => ?_ | with_reducible refine aw_toS (aw_region0 (by decide +kernel) fun K' hK => ?_)
   simp []
   first | refine hK _ _ _ ?_ | done
   clear K' hK
   repeat with_reducible refine aw_assoc ?_
   first | with_reducible refine aw_ret ?_ | with_reducible refine aw_retL ?_ | with_reducible refine aw_skipL ?_
   simp [blockK, loopK, Post, resA, res1, expT, expA, exp1, expM, expL, okT, okA, ok1, rowOf, Tryz.f127]
 ·repeat with_reducible refine aw_assoc ?_
  first | with_reducible refine aw_region0 (by decide +kernel) fun K' hK => ?_ | with_reducible refine aw_toS (aw_region0 (by decide +kernel) fun K' hK => ?_)
  simp [h]
  first | refine hK _ _ _ ?_ | done
  clear K' hK
  repeat with_reducible refine aw_assoc ?_
  first | with_reducible refine aw_condP fun A B hA hB => ?_ | with_reducible refine aw_toS (aw_condP fun A B hA hB => ?_)
  simp []
  refine ⟨fun hc => hA ?_, fun hc => hB ?_⟩ <;> clear hA hB A B <;> (try (simp at hc; done)) <;> (try (exfalso; simp at hc; omega)) <;> clear hc <;> (try with_reducible refine aw_skip ?_)
  repeat with_reducible refine aw_assoc ?_
  first | with_reducible refine aw_region0 (by decide +kernel) fun K' hK => ?_ | with_reducible refine aw_toS (aw_region0 (by decide +kernel) fun K' hK => ?_)
  simp [h1, h2]
  first | refine hK _ _ _ ?_ | done
  clear K' hK
  repeat with_reducible refine aw_assoc ?_
  first | with_reducible refine aw_ret ?_ | with_reducible refine aw_retL ?_ | with_reducible refine aw_skipL ?_
  simp [blockK, loopK, Post, resA, res1, expT, expA, exp1, expM, expL, okT, okA, ok1, rowOf, Tryz.f127]
theorem clone129_ok (l : List Ru) (hl : l.length < 1000000000000) : CallsOK Tryz.prog 129 [rowT Ru.cells l] (.row 0 l.length) [(96, flat Ru.cells l)] := by
 refine callsOK mixed Tryz.call129 Tryz.func129 rfl (by rw [Tryz.ntmps129]; simp) ?_ rfl
 rw [Tryz.ntmps129]
 have h1 : l.length ≤ 9223372036854775807 := by omega
 have h2 : l.length * 40 ≤ 140737488355328 := by omega
 repeat with_reducible refine aw_assoc ?_
 first | with_reducible refine aw_region0 (by decide +kernel) fun K' hK => ?_ | with_reducible refine aw_toS (aw_region0 (by decide +kernel) fun K' hK => ?_)
 simp []
 first | refine hK _ _ _ ?_ | done
 clear K' hK
 by_cases h : l = []
 ·subst h
  repeat with_reducible refine aw_assoc ?_
  first | with_reducible refine aw_region0 (by decide +kernel) fun K' hK => ?_ | with_reducible refine aw_toS (aw_region0 (by decide +kernel) fun K' hK => ?_)
  simp []
  first | refine hK _ _ _ ?_ | done
  clear K' hK
  repeat with_reducible refine aw_assoc ?_
  refine aw_condP fun A B hA hB => ?_
  simp
  refine ⟨hA ?_, hB (aw_skip ?_)⟩
  ·repeat with_reducible refine aw_assoc ?_
   first | with_reducible refine aw_region0 (by decide +kernel) fun K' hK => ?_ | with_reducible refine aw_toS (aw_region0 (by decide +kernel) fun K' hK => ?_)
   simp []
   first | refine hK _ _ _ ?_ | done
   clear K' hK
   repeat with_reducible refine aw_assoc ?_
   first | with_reducible refine aw_ret ?_ | with_reducible refine aw_retL ?_ | with_reducible refine aw_skipL ?_
   simp [blockK, loopK, Post, resA, res1, expT, expA, exp1, expM, expL, okT, okA, ok1, rowOf, Tryz.f129]
  ·repeat with_reducible refine aw_assoc ?_
   first | with_reducible refine aw_region0 (by decide +kernel) fun K' hK => ?_ | with_reducible refine aw_toS (aw_region0 (by decide +kernel) fun K' hK => ?_)
   simp []
   first | refine hK _ _ _ ?_ | done
   clear K' hK
   repeat with_reducible refine aw_assoc ?_
   first | with_reducible refine aw_ret ?_ | with_reducible refine aw_retL ?_ | with_reducible refine aw_skipL ?_
   simp [blockK, loopK, Post, resA, res1, expT, expA, exp1, expM, expL, okT, okA, ok1, rowOf, Tryz.f129]
 ·repeat with_reducible refine aw_assoc ?_
  first | with_reducible refine aw_region0 (by decide +kernel) fun K' hK => ?_ | with_reducible refine aw_toS (aw_region0 (by decide +kernel) fun K' hK => ?_)
  simp [h]
  first | refine hK _ _ _ ?_ | done
  clear K' hK
  repeat with_reducible refine aw_assoc ?_
  first | with_reducible refine aw_condP fun A B hA hB => ?_ | with_reducible refine aw_toS (aw_condP fun A B hA hB => ?_)
  simp []
  refine ⟨fun hc => hA ?_, fun hc => hB ?_⟩ <;> clear hA hB A B <;> (try (simp at hc; done)) <;> (try (exfalso; simp at hc; omega)) <;> clear hc <;> (try with_reducible refine aw_skip ?_)
  repeat with_reducible refine aw_assoc ?_
  first | with_reducible refine aw_region0 (by decide +kernel) fun K' hK => ?_ | with_reducible refine aw_toS (aw_region0 (by decide +kernel) fun K' hK => ?_)
  simp [h1, h2]
  first | refine hK _ _ _ ?_ | done
  clear K' hK
  repeat with_reducible refine aw_assoc ?_
  first | with_reducible refine aw_ret ?_ | with_reducible refine aw_retL ?_ | with_reducible refine aw_skipL ?_
  simp [blockK, loopK, Post, resA, res1, expT, expA, exp1, expM, expL, okT, okA, ok1, rowOf, Tryz.f129]
theorem own128_ok (r : Rg) (hr : r.length < 1000000000000 ∧ ∀ l ∈ r, l.length < 1000000000000) : CallsOK Tryz.prog 128 [.agg r.cells] (.agg [.row 0 r.length]) [(83, flat Alt.cells r)] := by
 refine callsOK mixed Tryz.call128 Tryz.func128 rfl (by rw [Tryz.ntmps128]; simp) ?_ rfl
 rw [Tryz.ntmps128]
 repeat with_reducible refine aw_assoc ?_
 first | with_reducible refine aw_region0 (by decide +kernel) fun K' hK => ?_ | with_reducible refine aw_toS (aw_region0 (by decide +kernel) fun K' hK => ?_)
 simp [Rg.cells]
 first | refine hK _ _ _ ?_ | done
 clear K' hK
 repeat with_reducible refine aw_assoc ?_
 first | with_reducible refine aw_region0 (by decide +kernel) fun K' hK => ?_ | with_reducible refine aw_toS (aw_region0 (by decide +kernel) fun K' hK => ?_)
 simp []
 refine acall_new (clone39_ok r hr.1) (by simp) ?_
 simp [addJ_one]
 refine hK _ _ _ ?_
 clear K' hK
 repeat with_reducible refine aw_assoc ?_
 first | with_reducible refine aw_region0 (by decide +kernel) fun K' hK => ?_ | with_reducible refine aw_toS (aw_region0 (by decide +kernel) fun K' hK => ?_)
 simp []
 first | refine hK _ _ _ ?_ | done
 clear K' hK
 repeat with_reducible refine aw_assoc ?_
 first | with_reducible refine aw_block ?_ | with_reducible refine aw_toS (aw_block ?_)
 refine aw_loop (fun s G nx => G 0 = some (.var 33 [.row 2 r.length]) ∧ G 1 = some (.var 33 [.v (.slice none 0 0)]) ∧ G 2 = some (.row 83 (flat Alt.cells r)) ∧ s 1 = .ptr 0 0 ∧ s 2 = .ptr 1 0 ∧ s 10 = .row 2 r.length ∧ s 11 = iV r.length ∧ ∃ i : Nat, s 12 = iV i ∧ i ≤ r.length) (fun s _ _ => match s 12 with | .v (.int _ n) => r.length - n.toNat | _ => 0) ?_ ?_
 ·simp
  exact ⟨0, by simp⟩
 ·rintro s G nx hf ⟨g0, g1, g2, s1, s2, s10, s11, i, s12, hi⟩
  have hnx := fresh_lt hf g2
  have n0 : ¬ 0 = nx := by omega
  have n1 : ¬ 1 = nx := by omega
  have n2 : ¬ 2 = nx := by omega
  have hw : IntKind.i64.wrap (↑i + 1) = ((i + 1 : Nat) : Int) := wrapS (by have := hr.1; omega)
  repeat with_reducible refine aw_assoc ?_
  first | with_reducible refine aw_region0 (by decide +kernel) fun K' hK => ?_ | with_reducible refine aw_toS (aw_region0 (by decide +kernel) fun K' hK => ?_)
  simp [s11, s12]
  first | refine hK _ _ _ ?_ | done
  clear K' hK
  repeat with_reducible refine aw_assoc ?_
  first | with_reducible refine aw_condP fun A B hA hB => ?_ | with_reducible refine aw_toS (aw_condP fun A B hA hB => ?_)
  simp []
  refine ⟨fun hi2 => hA ?_, fun hi2 => hB ?_⟩ <;> clear hA hB A B <;> (try simp at hi2) <;> (try with_reducible refine aw_skip ?_)
  ·repeat with_reducible refine aw_assoc ?_
   first | with_reducible refine aw_block ?_ | with_reducible refine aw_toS (aw_block ?_)
   repeat with_reducible refine aw_assoc ?_
   first | with_reducible refine aw_region0 (by decide +kernel) fun K' hK => ?_ | with_reducible refine aw_toS (aw_region0 (by decide +kernel) fun K' hK => ?_)
   simp [s10, s12, hi2, g2]
   first | refine hK _ _ _ ?_ | done
   clear K' hK
   repeat with_reducible refine aw_assoc ?_
   first | with_reducible refine aw_region1 (by decide +kernel) (by decide +kernel) fun K' hK => ?_ | with_reducible refine aw_toS (aw_region1 (by decide +kernel) (by decide +kernel) fun K' hK => ?_)
   simp [s1, g0]
   refine acall_new (clone40_ok (nth r i) (hr.2 _ (nth_mem hi2))) (by simp) ?_
   have hp : putO (flat Alt.cells r) 1 i 0 [rowT Bd.cells (nth r i)] = flat Alt.cells r := putO_same hi2
   simp [addJ_one, s10, n2, g2, hi2, hp]
   first | refine hK _ _ _ ?_ | done
   clear K' hK
   first | with_reducible refine aw_skipL ?_ | skip
   refine blockK_normal ?_
   repeat with_reducible refine aw_assoc ?_
   first | with_reducible refine aw_region0 (by decide +kernel) fun K' hK => ?_ | with_reducible refine aw_toS (aw_region0 (by decide +kernel) fun K' hK => ?_)
   simp [s12, hw]
   first | refine hK _ _ _ ?_ | done
   clear K' hK
   refine aw_skipL (loopK_normal ?_ ?_)
   ·simp [n0, n1, n2, g0, g1, s1, s2, s10, s11, hw]
    exact ⟨i + 1, by simp, by omega⟩
   ·simp [s12, hw]; omega
  ·repeat with_reducible refine aw_assoc ?_
   first | with_reducible refine aw_exit ?_ | with_reducible refine aw_exitL ?_
   refine loopK_exit (blockK_exit ?_)
   repeat with_reducible refine aw_assoc ?_
   first | with_reducible refine aw_region0 (by decide +kernel) fun K' hK => ?_ | with_reducible refine aw_toS (aw_region0 (by decide +kernel) fun K' hK => ?_)
   simp [s1, s2, g0, g1]
   first | refine hK _ _ _ ?_ | done
   clear K' hK
   repeat with_reducible refine aw_assoc ?_
   first | with_reducible refine aw_ret ?_ | with_reducible refine aw_retL ?_ | with_reducible refine aw_skipL ?_
   simp [blockK, loopK, Post, resA, res1, expT, expA, exp1, expM, expL, okT, okA, ok1, rowOf, Tryz.f128, s2, g2]
theorem own131_ok (r : Rg) (hr : r.length < 1000000000000 ∧ ∀ l ∈ r, l.length < 1000000000000) : CallsOK Tryz.prog 131 [.agg r.cells] (.agg [.row 0 r.length]) [(83, flat Alt.cells r)] := by
 refine callsOK mixed Tryz.call131 Tryz.func131 rfl (by rw [Tryz.ntmps131]; simp) ?_ rfl
 rw [Tryz.ntmps131]
 repeat with_reducible refine aw_assoc ?_
 first | with_reducible refine aw_region0 (by decide +kernel) fun K' hK => ?_ | with_reducible refine aw_toS (aw_region0 (by decide +kernel) fun K' hK => ?_)
 simp [Rg.cells]
 first | refine hK _ _ _ ?_ | done
 clear K' hK
 repeat with_reducible refine aw_assoc ?_
 first | with_reducible refine aw_region0 (by decide +kernel) fun K' hK => ?_ | with_reducible refine aw_toS (aw_region0 (by decide +kernel) fun K' hK => ?_)
 simp []
 refine acall_new (clone39_ok r hr.1) (by simp) ?_
 simp [addJ_one]
 refine hK _ _ _ ?_
 clear K' hK
 repeat with_reducible refine aw_assoc ?_
 first | with_reducible refine aw_region0 (by decide +kernel) fun K' hK => ?_ | with_reducible refine aw_toS (aw_region0 (by decide +kernel) fun K' hK => ?_)
 simp []
 first | refine hK _ _ _ ?_ | done
 clear K' hK
 repeat with_reducible refine aw_assoc ?_
 first | with_reducible refine aw_block ?_ | with_reducible refine aw_toS (aw_block ?_)
 refine aw_loop (fun s G nx => G 0 = some (.var 33 [.row 2 r.length]) ∧ G 1 = some (.var 33 [.v (.slice none 0 0)]) ∧ G 2 = some (.row 83 (flat Alt.cells r)) ∧ s 1 = .ptr 0 0 ∧ s 2 = .ptr 1 0 ∧ s 10 = .row 2 r.length ∧ s 11 = iV r.length ∧ ∃ i : Nat, s 12 = iV i ∧ i ≤ r.length) (fun s _ _ => match s 12 with | .v (.int _ n) => r.length - n.toNat | _ => 0) ?_ ?_
 ·simp
  exact ⟨0, by simp⟩
 ·rintro s G nx hf ⟨g0, g1, g2, s1, s2, s10, s11, i, s12, hi⟩
  have hnx := fresh_lt hf g2
  have n0 : ¬ 0 = nx := by omega
  have n1 : ¬ 1 = nx := by omega
  have n2 : ¬ 2 = nx := by omega
  have hw : IntKind.i64.wrap (↑i + 1) = ((i + 1 : Nat) : Int) := wrapS (by have := hr.1; omega)
  repeat with_reducible refine aw_assoc ?_
  first | with_reducible refine aw_region0 (by decide +kernel) fun K' hK => ?_ | with_reducible refine aw_toS (aw_region0 (by decide +kernel) fun K' hK => ?_)
  simp [s11, s12]
  first | refine hK _ _ _ ?_ | done
  clear K' hK
  repeat with_reducible refine aw_assoc ?_
  first | with_reducible refine aw_condP fun A B hA hB => ?_ | with_reducible refine aw_toS (aw_condP fun A B hA hB => ?_)
  simp []
  refine ⟨fun hi2 => hA ?_, fun hi2 => hB ?_⟩ <;> clear hA hB A B <;> (try simp at hi2) <;> (try with_reducible refine aw_skip ?_)
  ·repeat with_reducible refine aw_assoc ?_
   first | with_reducible refine aw_block ?_ | with_reducible refine aw_toS (aw_block ?_)
   repeat with_reducible refine aw_assoc ?_
   first | with_reducible refine aw_region0 (by decide +kernel) fun K' hK => ?_ | with_reducible refine aw_toS (aw_region0 (by decide +kernel) fun K' hK => ?_)
   simp [s10, s12, hi2, g2]
   first | refine hK _ _ _ ?_ | done
   clear K' hK
   repeat with_reducible refine aw_assoc ?_
   first | with_reducible refine aw_region1 (by decide +kernel) (by decide +kernel) fun K' hK => ?_ | with_reducible refine aw_toS (aw_region1 (by decide +kernel) (by decide +kernel) fun K' hK => ?_)
   simp [s1, g0]
   refine acall_new (clone40_ok (nth r i) (hr.2 _ (nth_mem hi2))) (by simp) ?_
   have hp : putO (flat Alt.cells r) 1 i 0 [rowT Bd.cells (nth r i)] = flat Alt.cells r := putO_same hi2
   simp [addJ_one, s10, n2, g2, hi2, hp]
   first | refine hK _ _ _ ?_ | done
   clear K' hK
   first | with_reducible refine aw_skipL ?_ | skip
   refine blockK_normal ?_
   repeat with_reducible refine aw_assoc ?_
   first | with_reducible refine aw_region0 (by decide +kernel) fun K' hK => ?_ | with_reducible refine aw_toS (aw_region0 (by decide +kernel) fun K' hK => ?_)
   simp [s12, hw]
   first | refine hK _ _ _ ?_ | done
   clear K' hK
   refine aw_skipL (loopK_normal ?_ ?_)
   ·simp [n0, n1, n2, g0, g1, s1, s2, s10, s11, hw]
    exact ⟨i + 1, by simp, by omega⟩
   ·simp [s12, hw]; omega
  ·repeat with_reducible refine aw_assoc ?_
   first | with_reducible refine aw_exit ?_ | with_reducible refine aw_exitL ?_
   refine loopK_exit (blockK_exit ?_)
   repeat with_reducible refine aw_assoc ?_
   first | with_reducible refine aw_region0 (by decide +kernel) fun K' hK => ?_ | with_reducible refine aw_toS (aw_region0 (by decide +kernel) fun K' hK => ?_)
   simp [s1, s2, g0, g1]
   first | refine hK _ _ _ ?_ | done
   clear K' hK
   repeat with_reducible refine aw_assoc ?_
   first | with_reducible refine aw_ret ?_ | with_reducible refine aw_retL ?_ | with_reducible refine aw_skipL ?_
   simp [blockK, loopK, Post, resA, res1, expT, expA, exp1, expM, expL, okT, okA, ok1, rowOf, Tryz.f131, s2, g2]
end Go.Proofs.YtgipehooceecpaaGreatDoorAbs
namespace Go.Proofs.YtgipehooceecpaaGreatDoorAbs
set_option linter.unusedSimpArgs false
set_option linter.unusedVariables false
open Go Go.RowKit Go.Proofs
set_option maxRecDepth 100000
set_option maxHeartbeats 4000000
theorem splice_same {cs ts : List AV} {off : Nat} (h : getC cs off ts.length = some ts) : splice cs off ts = cs := by
 unfold getC at h
 split at h
 ·injection h with h
  unfold splice
  rw [← List.drop_drop]
  conv => lhs; arg 1; rw [← h]
  rw [List.append_assoc, List.take_append_drop, List.take_append_drop]
 ·cases h
theorem putO_field {α : Type} {c : α → List AV} {w : Nat} {l : List α} [Inhabited α] [Wid c w] {i f : Nat} {ts : List AV} (h : i < l.length) (hk : f + ts.length ≤ w) (hg : getC (c (nth l i)) f ts.length = some ts) : putO (flat c l) w i f ts = flat c l :=
 splice_same (by rw [← hg]; exact getC_flat h hk)
def Man.cellsR (m : Man) (a b : AV) : List AV := [sV m.name, iV m.ver.maj, iV m.ver.min, iV m.ver.pat, sV m.ver.pre, a, b]
section
variable {G : Hp}
@[simp] theorem manR_put5 (m : Man) (x : AV) : List.take 5 m.cells ++ x :: List.drop 6 m.cells = m.cellsR x (rowT Ru.cells m.rules) := rfl
@[simp] theorem manR_put6 (m : Man) (a b x : AV) : List.take 6 (m.cellsR a b) ++ x :: List.drop 7 (m.cellsR a b) = m.cellsR a x := rfl
@[simp] theorem manR_put6' (m : Man) (a b x : AV) : List.take 6 (m.cellsR a b) ++ [x] = m.cellsR a x := rfl
@[simp] theorem manR_drop (m : Man) (a b c d : AV) : m.cellsR a b ++ List.drop 7 (m.cellsR c d) = m.cellsR a b := rfl
@[simp] theorem manR_5 (m : Man) (a b : AV) : getC (m.cellsR a b) 5 1 = some [a] := rfl
@[simp] theorem manR_6 (m : Man) (a b : AV) : getC (m.cellsR a b) 6 1 = some [b] := rfl
@[simp] theorem manR_ver (m : Man) (a b : AV) : getC (m.cellsR a b) 1 4 = some m.ver.cells := rfl
@[simp] theorem manR_name (m : Man) (a b : AV) : getC (m.cellsR a b) 0 1 = some [sV m.name] := rfl
@[simp] theorem manR_all (m : Man) (a b : AV) : getC (m.cellsR a b) 0 7 = some (m.cellsR a b) := rfl
@[simp] theorem manR_len (m : Man) (a b : AV) : (m.cellsR a b).length = 7 := rfl
end
def Man.okS (m : Man) : Prop := Dep.okL m.deps ∧ Ru.okL m.rules
abbrev manN : List AV := [sV ⟨#[]⟩, iV 0, iV 0, iV 0, sV ⟨#[]⟩, .v (.slice none 0 0), .v (.slice none 0 0)]
def manZ : Man := ⟨⟨#[]⟩, ⟨0, 0, 0, ⟨#[]⟩⟩, [], []⟩
theorem own75_ok (m : Man) (hm : Man.okS m) : CallsOK Tryz.prog 75 [.agg m.cells] (.agg (m.cellsR (.row 0 m.deps.length) (.row 1 m.rules.length))) [(35, flat Dep.cells m.deps), (96, flat Ru.cells m.rules)] := by
 refine callsOK mixed Tryz.call75 Tryz.func75 rfl (by rw [Tryz.ntmps75]; simp) ?_ rfl
 rw [Tryz.ntmps75]
 obtain ⟨hd, hu⟩ := hm
 have hdl := hd.1
 have hul := hu.1
 repeat with_reducible refine aw_assoc ?_
 first | with_reducible refine aw_region0 (by decide +kernel) fun K' hK => ?_ | with_reducible refine aw_toS (aw_region0 (by decide +kernel) fun K' hK => ?_)
 simp []
 first | refine hK _ _ _ ?_ | done
 clear K' hK
 repeat with_reducible refine aw_assoc ?_
 first | with_reducible refine aw_region0 (by decide +kernel) fun K' hK => ?_ | with_reducible refine aw_toS (aw_region0 (by decide +kernel) fun K' hK => ?_)
 simp []
 refine acall_new (clone127_ok m.deps hdl) (by simp) ?_
 simp [addJ_one]
 first | refine hK _ _ _ ?_ | done
 clear K' hK
 repeat with_reducible refine aw_assoc ?_
 first | with_reducible refine aw_region0 (by decide +kernel) fun K' hK => ?_ | with_reducible refine aw_toS (aw_region0 (by decide +kernel) fun K' hK => ?_)
 simp []
 first | refine hK _ _ _ ?_ | done
 clear K' hK
 repeat with_reducible refine aw_assoc ?_
 first | with_reducible refine aw_block ?_ | with_reducible refine aw_toS (aw_block ?_)
 refine aw_loop (fun s G nx => G 0 = some (.var 27 (m.cellsR (.row 2 m.deps.length) (rowT Ru.cells m.rules))) ∧ G 1 = some (.var 27 manN) ∧ G 2 = some (.row 35 (flat Dep.cells m.deps)) ∧ s 1 = .ptr 0 0 ∧ s 2 = .ptr 1 0 ∧ s 12 = .row 2 m.deps.length ∧ s 13 = iV m.deps.length ∧ ∃ i : Nat, s 14 = iV i ∧ i ≤ m.deps.length) (fun s _ _ => match s 14 with | .v (.int _ n) => m.deps.length - n.toNat | _ => 0) ?_ ?_
 ·exact ⟨by simp, by simp, by simp, by simp, by simp, by simp, by simp, 0, by simp, by omega⟩
 ·rintro s G nx hf ⟨g0, g1, g2, s1, s2, s12, s13, i, s14, hi⟩
  have hnx := fresh_lt hf g2
  have n0 : ¬ 0 = nx := by omega
  have n1 : ¬ 1 = nx := by omega
  have n2 : ¬ 2 = nx := by omega
  have nz : ¬ nx = 0 := by omega
  have m0 : ¬ 0 = nx + 1 := by omega
  have m1 : ¬ 1 = nx + 1 := by omega
  have m2 : ¬ 2 = nx + 1 := by omega
  have hw : IntKind.i64.wrap (↑i + 1) = ((i + 1 : Nat) : Int) := wrapS (by omega)
  repeat with_reducible refine aw_assoc ?_
  first | with_reducible refine aw_region0 (by decide +kernel) fun K' hK => ?_ | with_reducible refine aw_toS (aw_region0 (by decide +kernel) fun K' hK => ?_)
  simp [s13, s14]
  first | refine hK _ _ _ ?_ | done
  clear K' hK
  repeat with_reducible refine aw_assoc ?_
  first | with_reducible refine aw_condP fun A B hA hB => ?_ | with_reducible refine aw_toS (aw_condP fun A B hA hB => ?_)
  simp []
  refine ⟨fun hi2 => hA ?_, fun hi2 => hB ?_⟩ <;> clear hA hB A B <;> (try simp at hi2) <;> (try with_reducible refine aw_skip ?_)
  ·repeat with_reducible refine aw_assoc ?_
   first | with_reducible refine aw_block ?_ | with_reducible refine aw_toS (aw_block ?_)
   repeat with_reducible refine aw_assoc ?_
   first | with_reducible refine aw_region0 (by decide +kernel) fun K' hK => ?_ | with_reducible refine aw_toS (aw_region0 (by decide +kernel) fun K' hK => ?_)
   simp [s12, s14, hi2, g2]
   first | refine hK _ _ _ ?_ | done
   clear K' hK
   have hr := (hd.2 _ (nth_mem hi2)).2
   have hp : putO (flat Dep.cells m.deps) 3 i 2 [rowT Alt.cells (nth m.deps i).range] = flat Dep.cells m.deps := putO_field hi2 (by simp) rfl
   repeat with_reducible refine aw_assoc ?_
   first | with_reducible refine aw_region1 (by decide +kernel) (by decide +kernel) fun K' hK => ?_ | with_reducible refine aw_toS (aw_region1 (by decide +kernel) (by decide +kernel) fun K' hK => ?_)
   simp [s1, g0, n0]
   refine acall_new (own128_ok (nth m.deps i).range hr) (by simp [Rg.cells]) ?_
   simp [addJ_one, n0, n1, n2, m0, m1, m2, g2, hi2, hp]
   first | refine hK _ _ _ ?_ | done
   clear K' hK
   first | with_reducible refine aw_skipL ?_ | skip
   refine blockK_normal ?_
   repeat with_reducible refine aw_assoc ?_
   first | with_reducible refine aw_region0 (by decide +kernel) fun K' hK => ?_ | with_reducible refine aw_toS (aw_region0 (by decide +kernel) fun K' hK => ?_)
   simp [s14, hw]
   first | refine hK _ _ _ ?_ | done
   clear K' hK
   refine aw_skipL (loopK_normal ?_ ?_)
   ·exact ⟨by simp [n0, m0, g0], by simp [n1, m1, nz, g1], by simp [n1, n2, m2, g2], by simp [s1], by simp [s2], by simp [s12], by simp [s13], i + 1, by simp [hw], by omega⟩
   ·simp [s14, hw]; omega
  ·repeat with_reducible refine aw_assoc ?_
   first | with_reducible refine aw_exit ?_ | with_reducible refine aw_exitL ?_
   refine loopK_exit (blockK_exit ?_)
   clear s12 s13 s14 m0 m1 m2 hw
   generalize nx = N at *
   repeat with_reducible refine aw_assoc ?_
   first | with_reducible refine aw_region0 (by decide +kernel) fun K' hK => ?_ | with_reducible refine aw_toS (aw_region0 (by decide +kernel) fun K' hK => ?_)
   simp [s1, g0]
   refine acall_new (clone129_ok m.rules hul) (by simp) ?_
   simp [addJ_one, n0, n1, n2, nz, g0, s1]
   first | refine hK _ _ _ ?_ | done
   clear K' hK
   have n0' : ¬ N = 0 := by omega
   have n1' : ¬ N = 1 := by omega
   have n2' : ¬ N = 2 := by omega
   repeat with_reducible refine aw_assoc ?_
   first | with_reducible refine aw_region0 (by decide +kernel) fun K' hK => ?_ | with_reducible refine aw_toS (aw_region0 (by decide +kernel) fun K' hK => ?_)
   simp [s1, n0, g0, n0']
   first | refine hK _ _ _ ?_ | done
   clear K' hK
   repeat with_reducible refine aw_assoc ?_
   first | with_reducible refine aw_block ?_ | with_reducible refine aw_toS (aw_block ?_)
   refine aw_loop (fun s G nx => G 0 = some (.var 27 (m.cellsR (.row 2 m.deps.length) (.row N m.rules.length))) ∧ G 1 = some (.var 27 manN) ∧ G 2 = some (.row 35 (flat Dep.cells m.deps)) ∧ G N = some (.row 96 (flat Ru.cells m.rules)) ∧ s 1 = .ptr 0 0 ∧ s 2 = .ptr 1 0 ∧ s 33 = .row N m.rules.length ∧ s 34 = iV m.rules.length ∧ ∃ i : Nat, s 35 = iV i ∧ i ≤ m.rules.length) (fun s _ _ => match s 35 with | .v (.int _ n) => m.rules.length - n.toNat | _ => 0) ?_ ?_
   ·exact ⟨by simp, by simp [n1, g1], by simp [n2, g2], by simp [n0'], by simp [s1], by simp [s2], by simp, by simp, 0, by simp, by omega⟩
   ·clear s1 s2 g0 g1 g2 hf
    rintro s G nx hf ⟨g0, g1, g2, gN, s1, s2, s33, s34, i, s35, hi⟩
    have hnN := fresh_lt hf gN
    have p0 : ¬ 0 = nx := by omega
    have p1 : ¬ 1 = nx := by omega
    have p2 : ¬ 2 = nx := by omega
    have pN : ¬ N = nx := by omega
    have pz : ¬ nx = 0 := by omega
    have q0 : ¬ 0 = nx + 1 := by omega
    have q1 : ¬ 1 = nx + 1 := by omega
    have q2 : ¬ 2 = nx + 1 := by omega
    have qN : ¬ N = nx + 1 := by omega
    have hw : IntKind.i64.wrap (↑i + 1) = ((i + 1 : Nat) : Int) := wrapS (by omega)
    repeat with_reducible refine aw_assoc ?_
    first | with_reducible refine aw_region0 (by decide +kernel) fun K' hK => ?_ | with_reducible refine aw_toS (aw_region0 (by decide +kernel) fun K' hK => ?_)
    simp [s34, s35]
    first | refine hK _ _ _ ?_ | done
    clear K' hK
    repeat with_reducible refine aw_assoc ?_
    first | with_reducible refine aw_condP fun A B hA hB => ?_ | with_reducible refine aw_toS (aw_condP fun A B hA hB => ?_)
    simp []
    refine ⟨fun hi2 => hA ?_, fun hi2 => hB ?_⟩ <;> clear hA hB A B <;> (try simp at hi2) <;> (try with_reducible refine aw_skip ?_)
    ·repeat with_reducible refine aw_assoc ?_
     first | with_reducible refine aw_block ?_ | with_reducible refine aw_toS (aw_block ?_)
     repeat with_reducible refine aw_assoc ?_
     first | with_reducible refine aw_region0 (by decide +kernel) fun K' hK => ?_ | with_reducible refine aw_toS (aw_region0 (by decide +kernel) fun K' hK => ?_)
     simp [s33, s35, hi2, gN]
     first | refine hK _ _ _ ?_ | done
     clear K' hK
     have hr := hu.2 _ (nth_mem hi2)
     have hp : putO (flat Ru.cells m.rules) 2 i 1 [rowT Alt.cells (nth m.rules i).range] = flat Ru.cells m.rules := putO_field hi2 (by simp) rfl
     repeat with_reducible refine aw_assoc ?_
     first | with_reducible refine aw_region1 (by decide +kernel) (by decide +kernel) fun K' hK => ?_ | with_reducible refine aw_toS (aw_region1 (by decide +kernel) (by decide +kernel) fun K' hK => ?_)
     simp [s1, g0, p0]
     refine acall_new (own128_ok (nth m.rules i).range hr) (by simp [Rg.cells]) ?_
     simp [addJ_one, p0, p1, p2, pN, pz, q0, q1, q2, qN, gN, hi2, hp]
     first | refine hK _ _ _ ?_ | done
     clear K' hK
     first | with_reducible refine aw_skipL ?_ | skip
     refine blockK_normal ?_
     repeat with_reducible refine aw_assoc ?_
     first | with_reducible refine aw_region0 (by decide +kernel) fun K' hK => ?_ | with_reducible refine aw_toS (aw_region0 (by decide +kernel) fun K' hK => ?_)
     simp [s35, hw]
     first | refine hK _ _ _ ?_ | done
     clear K' hK
     refine aw_skipL (loopK_normal ?_ ?_)
     ·exact ⟨by simp [n0, p0, q0, g0], by simp [n1, p1, q1, pz, g1], by simp [n2, p1, p2, q2, g2], by simp [pN, qN, gN], by simp [s1], by simp [s2], by simp [s33], by simp [s34], i + 1, by simp [hw], by omega⟩
     ·simp [s35, hw]; omega
    ·repeat with_reducible refine aw_assoc ?_
     first | with_reducible refine aw_exit ?_ | with_reducible refine aw_exitL ?_
     refine loopK_exit (blockK_exit ?_)
     repeat with_reducible refine aw_assoc ?_
     first | with_reducible refine aw_region0 (by decide +kernel) fun K' hK => ?_ | with_reducible refine aw_toS (aw_region0 (by decide +kernel) fun K' hK => ?_)
     simp [s1, s2, g0, g1]
     first | refine hK _ _ _ ?_ | done
     clear K' hK
     repeat with_reducible refine aw_assoc ?_
     first | with_reducible refine aw_ret ?_ | with_reducible refine aw_retL ?_ | with_reducible refine aw_skipL ?_
     simp [blockK, loopK, Post, resA, res1, expT, expA, exp1, expM, expL, okT, okA, ok1, rowOf, Tryz.f75, s2, n1', n2', g2, gN]
     have n3' : ¬ 1 = N := by omega
     refine ⟨[2, N], ?_, ?_, ?_⟩
     ·simp [Man.cellsR, expL, exp1, n1', n2', n3', g2, gN]
     ·simp [Man.cellsR]
     ·simp [rowOf, n1', n2', n3', g2, gN]
end Go.Proofs.YtgipehooceecpaaGreatDoorAbs
namespace Go.Proofs.YtgipehooceecpaaGreatDoorAbs
set_option linter.unusedSimpArgs false
set_option linter.unusedVariables false
open Go Go.RowKit Go.Proofs
set_option maxRecDepth 100000
set_option maxHeartbeats 4000000
@[simp] theorem manR_one (m : Man) (a b c d : Nat) : (m.cellsR (.row a b) (.row c d)).all AV.one = true := rfl
def hitM (n : Bs) (v : Ver) (m : Man) : Bool := decide (m.name = n) && decide (m.ver = v)
def findM (L : List Man) (n : Bs) (v : Ver) : Option Man := L.find? (hitM n v)
def manR : Option Man → AV × Js
 | none => (.tup [.agg manN, bV false], [])
 | some m => (.tup [.agg (m.cellsR (.row 0 m.deps.length) (.row 1 m.rules.length)), bV true], [(35, flat Dep.cells m.deps), (96, flat Ru.cells m.rules)])
theorem findM_drop {L : List Man} {n : Bs} {v : Ver} {i : Nat} (h : i < L.length) : findM (L.drop i) n v = if hitM n v (nth L i) = true then some (nth L i) else findM (L.drop (i + 1)) n v := by
 rw [List.drop_eq_getElem_cons h, ← nth_eq h]
 unfold findM
 rw [List.find?_cons]
 cases hitM n v (nth L i) <;> rfl
theorem find76_ok (Lm : List Man) (hl : Lm.length ≤ 1000000000) (hm : ∀ m ∈ Lm, Man.okS m) (n : Bs) (v : Ver) : CallsOK Tryz.prog 76 [rowT Man.cells Lm, sV n, .agg v.cells] (manR (findM Lm n v)).1 (manR (findM Lm n v)).2 := by
 refine callsOK mixed Tryz.call76 Tryz.func76 rfl (by rw [Tryz.ntmps76]; simp) ?_ ?_
 ·rw [Tryz.ntmps76]
  repeat with_reducible refine aw_assoc ?_
  first | with_reducible refine aw_region0 (by decide +kernel) fun K' hK => ?_ | with_reducible refine aw_toS (aw_region0 (by decide +kernel) fun K' hK => ?_)
  simp []
  first | refine hK _ _ _ ?_ | done
  clear K' hK
  repeat with_reducible refine aw_assoc ?_
  first | with_reducible refine aw_region0 (by decide +kernel) fun K' hK => ?_ | with_reducible refine aw_toS (aw_region0 (by decide +kernel) fun K' hK => ?_)
  simp []
  refine acall_inlK (inlK mixed Tryz.call130 Tryz.func130 rfl (by rw [Tryz.ntmps130]; simp) fun hf => ?_)
  rw [Tryz.ntmps130]
  repeat with_reducible refine aw_assoc ?_
  first | with_reducible refine aw_region0 (by decide +kernel) fun K' hK => ?_ | with_reducible refine aw_toS (aw_region0 (by decide +kernel) fun K' hK => ?_)
  simp []
  first | refine hK _ _ _ ?_ | done
  clear K' hK
  repeat with_reducible refine aw_assoc ?_
  first | with_reducible refine aw_region0 (by decide +kernel) fun K' hK => ?_ | with_reducible refine aw_toS (aw_region0 (by decide +kernel) fun K' hK => ?_)
  simp []
  first | refine hK _ _ _ ?_ | done
  clear K' hK
  repeat with_reducible refine aw_assoc ?_
  first | with_reducible refine aw_ret ?_ | with_reducible refine aw_retL ?_ | with_reducible refine aw_skipL ?_
  simp [blockK, loopK, Post, resA, res1, expT, expA, exp1, expM, expL, okT, okA, ok1, rowOf, Tryz.f130]
  first | refine hK _ _ _ ?_ | done
  clear K' hK
  refine aw_gen (fun t G nx => t 5 = .ptr 0 0 ∧ t 6 = .ptr 1 0 ∧ t 7 = .ptr 2 0 ∧ t 15 = .fn 172 [.ptr 3 0, .ptr 4 0] ∧ nx = 5 ∧ G 0 = some (.var 23 v.cells) ∧ G 1 = some (.var 27 manN) ∧ G 2 = some (.var 4 [bV false]) ∧ G 3 = some (.var 28 [rowT Man.cells Lm]) ∧ G 4 = some (.var 9 [sV n])) ?_ ?_
  ·simp
   rfl
  rintro t G nx ⟨t5, t6, t7, t15, rfl, g0, g1, g2, g3, g4⟩
  repeat with_reducible refine aw_assoc ?_
  first | with_reducible refine aw_block ?_ | with_reducible refine aw_toS (aw_block ?_)
  refine aw_range (f := 172) (fn := Tryz.f172) mixed t15 Tryz.call172 Tryz.func172 rfl (by rw [Tryz.ntmps172]; simp) rfl ?_
  rw [Tryz.ntmps172]
  generalize hL : (Lp.mk t 65 _ _ _) = L
  have hLs : L.s = t := by subst hL; rfl
  have hround : ∀ (m : Man) (K : AV → Hp → Nat → Prop) (G : Hp) (nx : Nat), Man.okS m → 6 ≤ nx → G 0 = some (.var 23 v.cells) → G 1 = some (.var 27 manN) → G 2 = some (.var 4 [bV false]) → G 5 = some (L.o .ready none) →
    (¬ m.ver = v → ∀ G' nx', nx ≤ nx' → (∀ k, k < 5 → G' k = G k) → G' 5 = some (L.o .ready none) → K (bV true) G' nx') →
    (m.ver = v → ∀ G' nx' a b, 6 ≤ a → 6 ≤ b → a ≠ b → G' 1 = some (.var 27 (m.cellsR (.row a m.deps.length) (.row b m.rules.length))) → G' 2 = some (.var 4 [bV true]) → G' a = some (.row 35 (flat Dep.cells m.deps)) → G' b = some (.row 96 (flat Ru.cells m.rules)) → G' 5 = some (L.o .done (some .ret)) → K (bV false) G' nx') → YldK Tryz.prog 5 [.agg m.cells] K G nx := by
   subst hL
   clear g0 g1 g2 g3 g4
   intro m K G nx hmm hnx g0 g1 g2 g5 k1 k2
   refine yldK mixed g5 rfl (by simp) rfl rfl fun hf => ?_
   have n5 : ¬ 5 = nx := by omega
   have n5' : ¬ nx = 5 := by omega
   have n0 : ¬ 0 = nx := by omega
   have n1 : ¬ 1 = nx := by omega
   have n2 : ¬ 2 = nx := by omega
   repeat with_reducible refine aw_assoc ?_
   first | with_reducible refine aw_region0 (by decide +kernel) fun K' hK => ?_ | with_reducible refine aw_toS (aw_region0 (by decide +kernel) fun K' hK => ?_)
   simp []
   first | refine hK _ _ _ ?_ | done
   clear K' hK
   refine ⟨rfl, by simp [n5, g5], ?_⟩
   dsimp only
   generalize (Lp.mk t 65 _ _ _) = L at g5 k1 k2 ⊢
   repeat with_reducible refine aw_assoc ?_
   first | with_reducible refine aw_block ?_ | with_reducible refine aw_toS (aw_block ?_)
   by_cases hv : m.ver = v
   ·obtain ⟨hd, hu⟩ := hmm
    have hdl := hd.1
    have hul := hu.1
    repeat with_reducible refine aw_assoc ?_
    first | with_reducible refine aw_region0 (by decide +kernel) fun K' hK => ?_ | with_reducible refine aw_toS (aw_region0 (by decide +kernel) fun K' hK => ?_)
    simp [t5, n0, g0, hv, n5']
    first | refine hK _ _ _ ?_ | done
    clear K' hK
    repeat with_reducible refine aw_assoc ?_
    first | with_reducible refine aw_condP fun A B hA hB => ?_ | with_reducible refine aw_toS (aw_condP fun A B hA hB => ?_)
    simp []
    refine ⟨fun hc => hA ?_, fun hc => hB ?_⟩ <;> clear hA hB A B <;> (try (simp at hc; done)) <;> (try (exfalso; simp at hc; omega)) <;> clear hc <;> (try with_reducible refine aw_skip ?_)
    repeat with_reducible refine aw_assoc ?_
    first | with_reducible refine aw_region0 (by decide +kernel) fun K' hK => ?_ | with_reducible refine aw_toS (aw_region0 (by decide +kernel) fun K' hK => ?_)
    simp [n5']
    refine acall_new (clone127_ok m.deps hdl) (by simp) ?_
    have a0 : ¬ nx = nx + 1 := by omega
    simp [addJ_one, n5', a0]
    first | refine hK _ _ _ ?_ | done
    clear K' hK
    have a1 : ¬ nx + 1 = 5 := by omega
    have a2 : ¬ 5 = nx + 1 := by omega
    have a3 : ¬ 1 = nx + 1 := by omega
    have a4 : ¬ 2 = nx + 1 := by omega
    have a5 : ¬ nx = 0 := by omega
    have a6 : ¬ nx = 1 := by omega
    have a7 : ¬ nx + 1 = nx := by omega
    repeat with_reducible refine aw_assoc ?_
    first | with_reducible refine aw_region0 (by decide +kernel) fun K' hK => ?_ | with_reducible refine aw_toS (aw_region0 (by decide +kernel) fun K' hK => ?_)
    simp [n5', a0, a1]
    first | refine hK _ _ _ ?_ | done
    clear K' hK
    repeat with_reducible refine aw_assoc ?_
    first | with_reducible refine aw_block ?_ | with_reducible refine aw_toS (aw_block ?_)
    refine aw_loop (fun s G ny => G 1 = some (.var 27 manN) ∧ G 2 = some (.var 4 [bV false]) ∧ G 5 = some (L.o .busy none) ∧ G nx = some (.var 27 (m.cellsR (.row (nx + 1) m.deps.length) (rowT Ru.cells m.rules))) ∧ G (nx + 1) = some (.row 35 (flat Dep.cells m.deps)) ∧ s 6 = .ptr 1 0 ∧ s 7 = .ptr 2 0 ∧ s 8 = .ptr nx 0 ∧ s 26 = .row (nx + 1) m.deps.length ∧ s 27 = iV m.deps.length ∧ ∃ i : Nat, s 28 = iV i ∧ i ≤ m.deps.length) (fun s _ _ => match s 28 with | .v (.int _ n) => m.deps.length - n.toNat | _ => 0) ?_ ?_
    ·exact ⟨by simp [n1, n2, n5, n5', a0, a1, a2, a3, a4, a5, a6, a7, g1], by simp [n1, n2, n5, n5', a0, a1, a2, a3, a4, a5, a6, a7, g2], by simp [n1, n2, n5, n5', a0, a1, a2, a3, a4, a5, a6, a7], by simp [n1, n2, n5, n5', a0, a1, a2, a3, a4, a5, a6, a7], by simp [n1, n2, n5, n5', a0, a1, a2, a3, a4, a5, a6, a7], by simp [t6], by simp [t7], by simp, by simp, by simp, 0, by simp, by omega⟩
    ·clear g0 g1 g2 g5 hf
     rintro s G ny hf ⟨g1, g2, g5, g8, gd, s6, s7, s8, s26, s27, i, s28, hi⟩
     have hnd := fresh_lt hf gd
     clear a0 a1 a2 a3 a4 a5 a6 a7 n0 n1 n2
     generalize hD : nx + 1 = D at *
     have e1 : ¬ 1 = ny := by omega
     have e2 : ¬ 2 = ny := by omega
     have e3 : ¬ 5 = ny := by omega
     have e4 : ¬ nx = ny := by omega
     have e5 : ¬ D = ny := by omega
     have e6 : ¬ ny = 0 := by omega
     have e7 : ¬ 4 = ny := by omega
     have e8 : ¬ nx = ny + 1 := by omega
     have e9 : ¬ D = ny + 1 := by omega
     have f1 : ¬ 1 = ny + 1 := by omega
     have f2 : ¬ 2 = ny + 1 := by omega
     have f3 : ¬ 5 = ny + 1 := by omega
     have d1 : ¬ 1 = D := by omega
     have d2 : ¬ 2 = D := by omega
     have d5 : ¬ 5 = D := by omega
     have dn : ¬ nx = D := by omega
     have hw : IntKind.i64.wrap (↑i + 1) = ((i + 1 : Nat) : Int) := wrapS (by omega)
     repeat with_reducible refine aw_assoc ?_
     first | with_reducible refine aw_region0 (by decide +kernel) fun K' hK => ?_ | with_reducible refine aw_toS (aw_region0 (by decide +kernel) fun K' hK => ?_)
     simp [s27, s28]
     first | refine hK _ _ _ ?_ | done
     clear K' hK
     repeat with_reducible refine aw_assoc ?_
     first | with_reducible refine aw_condP fun A B hA hB => ?_ | with_reducible refine aw_toS (aw_condP fun A B hA hB => ?_)
     simp []
     refine ⟨fun hi2 => hA ?_, fun hi2 => hB ?_⟩ <;> clear hA hB A B <;> (try simp at hi2) <;> (try with_reducible refine aw_skip ?_)
     ·repeat with_reducible refine aw_assoc ?_
      first | with_reducible refine aw_block ?_ | with_reducible refine aw_toS (aw_block ?_)
      repeat with_reducible refine aw_assoc ?_
      first | with_reducible refine aw_region0 (by decide +kernel) fun K' hK => ?_ | with_reducible refine aw_toS (aw_region0 (by decide +kernel) fun K' hK => ?_)
      simp [s26, s28, hi2, gd]
      first | refine hK _ _ _ ?_ | done
      clear K' hK
      have hr := (hd.2 _ (nth_mem hi2)).2
      have hp : putO (flat Dep.cells m.deps) 3 i 2 [rowT Alt.cells (nth m.deps i).range] = flat Dep.cells m.deps := putO_field hi2 (by simp) rfl
      repeat with_reducible refine aw_assoc ?_
      first | with_reducible refine aw_region1 (by decide +kernel) (by decide +kernel) fun K' hK => ?_ | with_reducible refine aw_toS (aw_region1 (by decide +kernel) (by decide +kernel) fun K' hK => ?_)
      simp [s8, g8, e4]
      refine acall_new (own131_ok (nth m.deps i).range hr) (by simp [Rg.cells]) ?_
      simp [addJ_one, e4, e5, e8, e9, gd, hi2, hp]
      first | refine hK _ _ _ ?_ | done
      clear K' hK
      first | with_reducible refine aw_skipL ?_ | skip
      refine blockK_normal ?_
      repeat with_reducible refine aw_assoc ?_
      first | with_reducible refine aw_region0 (by decide +kernel) fun K' hK => ?_ | with_reducible refine aw_toS (aw_region0 (by decide +kernel) fun K' hK => ?_)
      simp [s28, hw]
      first | refine hK _ _ _ ?_ | done
      clear K' hK
      refine aw_skipL (loopK_normal ?_ ?_)
      ·exact ⟨by simp [e1, f1, d1, e6, g1], by simp [e1, e2, f2, d2, g2], by simp [e3, f3, d5, e7, g5], by simp [e4, e8, dn, g8], by simp [e5, e9, gd], by simp [s6], by simp [s7], by simp [s8], by simp [s26], by simp [s27], i + 1, by simp [hw], by omega⟩
      ·simp [s28, hw]; omega
     ·repeat with_reducible refine aw_assoc ?_
      first | with_reducible refine aw_exit ?_ | with_reducible refine aw_exitL ?_
      refine loopK_exit (blockK_exit ?_)
      clear s26 s27 s28 e1 e2 e3 e4 e5 e6 e7 e8 e9 f1 f2 f3 hw
      have b1 : ¬ 1 = ny := by omega
      have b2 : ¬ 2 = ny := by omega
      have b5 : ¬ 5 = ny := by omega
      have bn : ¬ nx = ny := by omega
      have bD : ¬ D = ny := by omega
      have bn' : ¬ ny = nx := by omega
      have hDy : D < ny := by omega
      have c1 : ¬ 1 = nx := by omega
      have dn' : ¬ D = nx := by omega
      have c2 : ¬ 2 = nx := by omega
      have c5 : ¬ 5 = nx := by omega
      repeat with_reducible refine aw_assoc ?_
      first | with_reducible refine aw_region0 (by decide +kernel) fun K' hK => ?_ | with_reducible refine aw_toS (aw_region0 (by decide +kernel) fun K' hK => ?_)
      simp [s8, g8]
      refine acall_new (clone129_ok m.rules hul) (by simp) ?_
      simp [addJ_one, s8, g8, bn]
      first | refine hK _ _ _ ?_ | done
      clear K' hK
      repeat with_reducible refine aw_assoc ?_
      first | with_reducible refine aw_region0 (by decide +kernel) fun K' hK => ?_ | with_reducible refine aw_toS (aw_region0 (by decide +kernel) fun K' hK => ?_)
      simp [s8, bn, bn', g8]
      first | refine hK _ _ _ ?_ | done
      clear K' hK
      clear hf
      generalize ny = R at *
      repeat with_reducible refine aw_assoc ?_
      first | with_reducible refine aw_block ?_ | with_reducible refine aw_toS (aw_block ?_)
      refine aw_loop (fun s G ny => G 1 = some (.var 27 manN) ∧ G 2 = some (.var 4 [bV false]) ∧ G 5 = some (L.o .busy none) ∧ G nx = some (.var 27 (m.cellsR (.row D m.deps.length) (.row R m.rules.length))) ∧ G D = some (.row 35 (flat Dep.cells m.deps)) ∧ G R = some (.row 96 (flat Ru.cells m.rules)) ∧ s 6 = .ptr 1 0 ∧ s 7 = .ptr 2 0 ∧ s 8 = .ptr nx 0 ∧ s 47 = .row R m.rules.length ∧ s 48 = iV m.rules.length ∧ ∃ i : Nat, s 49 = iV i ∧ i ≤ m.rules.length) (fun s _ _ => match s 49 with | .v (.int _ n) => m.rules.length - n.toNat | _ => 0) ?_ ?_
      ·exact ⟨by simp [b1, c1, g1], by simp [b2, c2, g2], by simp [b5, c5, g5], by simp, by simp [bD, dn, dn', gd], by simp [bn'], by simp [s6], by simp [s7], by simp [s8], by simp, by simp, 0, by simp, by omega⟩
      ·clear g1 g2 g5 g8 gd s6 s7 s8
       rintro s G ny hf ⟨g1, g2, g5, g8, gd, gR, s6, s7, s8, s47, s48, i, s49, hi⟩
       have hnR := fresh_lt hf gR
       have e1 : ¬ 1 = ny := by omega
       have e2 : ¬ 2 = ny := by omega
       have e3 : ¬ 5 = ny := by omega
       have e4 : ¬ nx = ny := by omega
       have e5 : ¬ D = ny := by omega
       have e5r : ¬ R = ny := by omega
       have e6 : ¬ ny = 0 := by omega
       have e7 : ¬ 4 = ny := by omega
       have e8 : ¬ nx = ny + 1 := by omega
       have e9 : ¬ D = ny + 1 := by omega
       have e9r : ¬ R = ny + 1 := by omega
       have f1 : ¬ 1 = ny + 1 := by omega
       have f2 : ¬ 2 = ny + 1 := by omega
       have f3 : ¬ 5 = ny + 1 := by omega
       have dR : ¬ D = R := by omega
       have hw : IntKind.i64.wrap (↑i + 1) = ((i + 1 : Nat) : Int) := wrapS (by omega)
       repeat with_reducible refine aw_assoc ?_
       first | with_reducible refine aw_region0 (by decide +kernel) fun K' hK => ?_ | with_reducible refine aw_toS (aw_region0 (by decide +kernel) fun K' hK => ?_)
       simp [s48, s49]
       first | refine hK _ _ _ ?_ | done
       clear K' hK
       repeat with_reducible refine aw_assoc ?_
       first | with_reducible refine aw_condP fun A B hA hB => ?_ | with_reducible refine aw_toS (aw_condP fun A B hA hB => ?_)
       simp []
       refine ⟨fun hi2 => hA ?_, fun hi2 => hB ?_⟩ <;> clear hA hB A B <;> (try simp at hi2) <;> (try with_reducible refine aw_skip ?_)
       ·repeat with_reducible refine aw_assoc ?_
        first | with_reducible refine aw_block ?_ | with_reducible refine aw_toS (aw_block ?_)
        repeat with_reducible refine aw_assoc ?_
        first | with_reducible refine aw_region0 (by decide +kernel) fun K' hK => ?_ | with_reducible refine aw_toS (aw_region0 (by decide +kernel) fun K' hK => ?_)
        simp [s47, s49, hi2, gR]
        first | refine hK _ _ _ ?_ | done
        clear K' hK
        have hr := hu.2 _ (nth_mem hi2)
        have hp : putO (flat Ru.cells m.rules) 2 i 1 [rowT Alt.cells (nth m.rules i).range] = flat Ru.cells m.rules := putO_field hi2 (by simp) rfl
        repeat with_reducible refine aw_assoc ?_
        first | with_reducible refine aw_region1 (by decide +kernel) (by decide +kernel) fun K' hK => ?_ | with_reducible refine aw_toS (aw_region1 (by decide +kernel) (by decide +kernel) fun K' hK => ?_)
        simp [s8, g8, e4]
        refine acall_new (own131_ok (nth m.rules i).range hr) (by simp [Rg.cells]) ?_
        simp [addJ_one, e4, e5r, e8, e9r, gR, hi2, hp]
        first | refine hK _ _ _ ?_ | done
        clear K' hK
        first | with_reducible refine aw_skipL ?_ | skip
        refine blockK_normal ?_
        repeat with_reducible refine aw_assoc ?_
        first | with_reducible refine aw_region0 (by decide +kernel) fun K' hK => ?_ | with_reducible refine aw_toS (aw_region0 (by decide +kernel) fun K' hK => ?_)
        simp [s49, hw]
        first | refine hK _ _ _ ?_ | done
        clear K' hK
        refine aw_skipL (loopK_normal ?_ ?_)
        ·exact ⟨by simp [e1, f1, b1, e6, g1], by simp [e1, e2, f2, b2, g2], by simp [e3, f3, b5, e7, g5], by simp [e4, e8, bn, g8], by simp [e5, e9, dR, gd], by simp [e5r, e9r, gR], by simp [s6], by simp [s7], by simp [s8], by simp [s47], by simp [s48], i + 1, by simp [hw], by omega⟩
        ·simp [s49, hw]; omega
       ·repeat with_reducible refine aw_assoc ?_
        first | with_reducible refine aw_exit ?_ | with_reducible refine aw_exitL ?_
        refine loopK_exit (blockK_exit ?_)
        have x1 : ¬ nx = 1 := by omega
        have x2 : ¬ D = 1 := by omega
        have x3 : ¬ D = 2 := by omega
        have x4 : ¬ R = 1 := by omega
        have x5 : ¬ R = 2 := by omega
        have x6 : ¬ D = 5 := by omega
        have x7 : ¬ R = 5 := by omega
        repeat with_reducible refine aw_assoc ?_
        first | with_reducible refine aw_region0 (by decide +kernel) fun K' hK => ?_ | with_reducible refine aw_toS (aw_region0 (by decide +kernel) fun K' hK => ?_)
        simp [s6, s7, s8, g8, g1, g2]
        first | refine hK _ _ _ ?_ | done
        clear K' hK
        refine aw_ret ?_
        refine blockK_ret ?_
        refine roundK_ret (by simp [g5]) ?_
        exact k2 hv _ _ D R (by omega) (by omega) (by omega) (by simp) (by simp) (by simp [x2, x3, x6, gd]) (by simp [x4, x5, x7, gR]) (by simp)
   ·repeat with_reducible refine aw_assoc ?_
    first | with_reducible refine aw_region0 (by decide +kernel) fun K' hK => ?_ | with_reducible refine aw_toS (aw_region0 (by decide +kernel) fun K' hK => ?_)
    simp [t5, n0, g0, hv, n5']
    first | refine hK _ _ _ ?_ | done
    clear K' hK
    repeat with_reducible refine aw_assoc ?_
    first | with_reducible refine aw_condP fun A B hA hB => ?_ | with_reducible refine aw_toS (aw_condP fun A B hA hB => ?_)
    simp []
    refine ⟨fun hc => hA ?_, fun hc => hB ?_⟩ <;> clear hA hB A B <;> (try (simp at hc; done)) <;> (try (exfalso; simp at hc; omega)) <;> clear hc <;> (try with_reducible refine aw_skip ?_)
    first | with_reducible refine aw_skipL ?_ | skip
    refine blockK_normal ?_
    refine aw_skipL ?_
    refine roundK_normal (by simp) ?_
    exact k1 hv _ _ (by omega) (fun k hk => by repeat rw [Hp.upd_ne _ _ (by omega)]) (by simp)
  repeat with_reducible refine aw_assoc ?_
  first | with_reducible refine aw_region0 (by decide +kernel) fun K' hK => ?_ | with_reducible refine aw_toS (aw_region0 (by decide +kernel) fun K' hK => ?_)
  simp [g3]
  first | refine hK _ _ _ ?_ | done
  clear K' hK
  repeat with_reducible refine aw_assoc ?_
  first | with_reducible refine aw_block ?_ | with_reducible refine aw_toS (aw_block ?_)
  refine aw_loop (fun t' G' nx' => 6 ≤ nx' ∧ t' 0 = .yl 5 ∧ t' 1 = .ptr 3 0 ∧ t' 2 = .ptr 4 0 ∧ t' 6 = rowT Man.cells Lm ∧ t' 7 = iV Lm.length ∧ G' 0 = some (.var 23 v.cells) ∧ G' 1 = some (.var 27 manN) ∧ G' 2 = some (.var 4 [bV false]) ∧ G' 4 = some (.var 9 [sV n]) ∧ G' 5 = some (L.o .ready none) ∧ ∃ i : Nat, t' 8 = iV i ∧ i ≤ Lm.length ∧ findM Lm n v = findM (Lm.drop i) n v) (fun s _ _ => match s 8 with | .v (.int _ n) => Lm.length - n.toNat | _ => 0) ?_ ?_
  ·refine ⟨by omega, by simp, by simp, by simp, by simp, by simp, by simp [g0], by simp [g1], by simp [g2], by simp [g4], by simp, 0, by simp, by omega, by simp⟩
  ·rintro t' G' nx' - ⟨hnx, u0, u1, u2, u6, u7, h0, h1, h2, h4, h5, i, u8, hi, ht⟩
   have hw : IntKind.i64.wrap (↑i + 1) = ((i + 1 : Nat) : Int) := wrapS (by omega)
   have n0 : ¬ 0 = nx' := by omega
   have n1 : ¬ 1 = nx' := by omega
   have n2 : ¬ 2 = nx' := by omega
   have n4 : ¬ 4 = nx' := by omega
   have n5 : ¬ 5 = nx' := by omega
   repeat with_reducible refine aw_assoc ?_
   first | with_reducible refine aw_region0 (by decide +kernel) fun K' hK => ?_ | with_reducible refine aw_toS (aw_region0 (by decide +kernel) fun K' hK => ?_)
   simp [u7, u8]
   first | refine hK _ _ _ ?_ | done
   clear K' hK
   repeat with_reducible refine aw_assoc ?_
   first | with_reducible refine aw_condP fun A B hA hB => ?_ | with_reducible refine aw_toS (aw_condP fun A B hA hB => ?_)
   simp []
   refine ⟨fun hi2 => hA ?_, fun hi2 => hB ?_⟩ <;> clear hA hB A B <;> (try simp at hi2) <;> (try with_reducible refine aw_skip ?_)
   ·have hmm := hm _ (nth_mem hi2)
    have hstep := findM_drop (n := n) (v := v) hi2
    generalize hgm : nth Lm i = m at *
    repeat with_reducible refine aw_assoc ?_
    first | with_reducible refine aw_block ?_ | with_reducible refine aw_toS (aw_block ?_)
    repeat with_reducible refine aw_assoc ?_
    first | with_reducible refine aw_region0 (by decide +kernel) fun K' hK => ?_ | with_reducible refine aw_toS (aw_region0 (by decide +kernel) fun K' hK => ?_)
    simp [u6, u8, hi2, hgm]
    first | refine hK _ _ _ ?_ | done
    clear K' hK
    by_cases hn : m.name = n
    ·repeat with_reducible refine aw_assoc ?_
     first | with_reducible refine aw_region0 (by decide +kernel) fun K' hK => ?_ | with_reducible refine aw_toS (aw_region0 (by decide +kernel) fun K' hK => ?_)
     simp [u0, u2, n4, h4, hn]
     refine ⟨⟨_, _, _, _, _, _, _, show _ = some (L.o .ready none) by simp [n5, h5]⟩, hround m _ _ _ hmm (by omega) (by simp [n0, h0]) (by simp [n1, h1]) (by simp [n2, h2]) (by simp [n5, h5]) (fun hv G2 ny hny hG h5' => ?_) (fun hv G2 ny a b ha hb hab k1 k2 ka kb k5 => ?_)⟩
     ·simp
      first | refine hK _ _ _ ?_ | done
      clear K' hK
      repeat with_reducible refine aw_assoc ?_
      first | with_reducible refine aw_condP fun A B hA hB => ?_ | with_reducible refine aw_toS (aw_condP fun A B hA hB => ?_)
      simp []
      refine ⟨fun hc => hA ?_, fun hc => hB ?_⟩ <;> clear hA hB A B <;> (try (simp at hc; done)) <;> (try (exfalso; simp at hc; omega)) <;> clear hc <;> (try with_reducible refine aw_skip ?_)
      first | with_reducible refine aw_skipL ?_ | skip
      refine blockK_normal ?_
      repeat with_reducible refine aw_assoc ?_
      first | with_reducible refine aw_region0 (by decide +kernel) fun K' hK => ?_ | with_reducible refine aw_toS (aw_region0 (by decide +kernel) fun K' hK => ?_)
      simp [u8, hw]
      first | refine hK _ _ _ ?_ | done
      clear K' hK
      refine aw_skipL (loopK_normal ?_ ?_)
      ·exact ⟨by omega, by simp [u0], by simp [u1], by simp [u2], by simp [u6], by simp [u7], by rw [hG 0 (by omega)]; simp [n0, h0], by rw [hG 1 (by omega)]; simp [n1, h1], by rw [hG 2 (by omega)]; simp [n2, h2], by rw [hG 4 (by omega)]; simp [n4, h4], h5', i + 1, by simp [hw], by omega, by rw [ht, hstep, if_neg (by simp [hitM, hv])]⟩
      ·simp [u8, hw]; omega
     ·simp
      first | refine hK _ _ _ ?_ | done
      clear K' hK
      repeat with_reducible refine aw_assoc ?_
      first | with_reducible refine aw_condP fun A B hA hB => ?_ | with_reducible refine aw_toS (aw_condP fun A B hA hB => ?_)
      simp []
      refine ⟨fun hc => hA ?_, fun hc => hB ?_⟩ <;> clear hA hB A B <;> (try (simp at hc; done)) <;> (try (exfalso; simp at hc; omega)) <;> clear hc <;> (try with_reducible refine aw_skip ?_)
      refine aw_ret ?_
      refine blockK_ret ?_
      refine loopK_ret ?_
      refine blockK_ret ?_
      refine rangeK_ret (.inr rfl) k5 ?_
      rw [hLs]
      refine blockK_ret ?_
      have x1 : ¬ a = 5 := by omega
      have x2 : ¬ b = 5 := by omega
      have x3 : ¬ b = a := fun e => hab e.symm
      have hfm : findM Lm n v = some m := by rw [ht, hstep, if_pos (by simp [hitM, hn, hv])]
      rw [hfm]
      simp [Post, resA, res1, Tryz.f76, t6, t7, k1, k2, manR]
      refine ⟨[a, b], ?_, rfl, ?_⟩
      ·simp [Man.cellsR, expT, expM, expA, expL, exp1, x1, x2, x3, ka, kb]
      ·simp [rowOf, x1, x2, ka, kb]
    ·repeat with_reducible refine aw_assoc ?_
     first | with_reducible refine aw_region0 (by decide +kernel) fun K' hK => ?_ | with_reducible refine aw_toS (aw_region0 (by decide +kernel) fun K' hK => ?_)
     simp [u2, n4, h4, hn]
     first | refine hK _ _ _ ?_ | done
     clear K' hK
     repeat with_reducible refine aw_assoc ?_
     first | with_reducible refine aw_condP fun A B hA hB => ?_ | with_reducible refine aw_toS (aw_condP fun A B hA hB => ?_)
     simp []
     refine ⟨fun hc => hA ?_, fun hc => hB ?_⟩ <;> clear hA hB A B <;> (try (simp at hc; done)) <;> (try (exfalso; simp at hc; omega)) <;> clear hc <;> (try with_reducible refine aw_skip ?_)
     first | with_reducible refine aw_skipL ?_ | skip
     refine blockK_normal ?_
     repeat with_reducible refine aw_assoc ?_
     first | with_reducible refine aw_region0 (by decide +kernel) fun K' hK => ?_ | with_reducible refine aw_toS (aw_region0 (by decide +kernel) fun K' hK => ?_)
     simp [u8, hw]
     first | refine hK _ _ _ ?_ | done
     clear K' hK
     refine aw_skipL (loopK_normal ?_ ?_)
     ·exact ⟨by omega, by simp [u0], by simp [u1], by simp [u2], by simp [u6], by simp [u7], by simp [n0, h0], by simp [n1, h1], by simp [n2, h2], by simp [n4, h4], by simp [n5, h5], i + 1, by simp [hw], by omega, by rw [ht, hstep, if_neg (by simp [hitM, hn])]⟩
     ·simp [u8, hw]; omega
   ·repeat with_reducible refine aw_assoc ?_
    first | with_reducible refine aw_exit ?_ | with_reducible refine aw_exitL ?_
    refine loopK_exit (blockK_exit ?_)
    refine aw_skipL (rangeK_on (.inl rfl) (by simp [h5]) ?_)
    rw [hLs]
    refine blockK_normal ?_
    have hfm : findM Lm n v = none := by rw [ht, List.drop_of_length_le (by omega)]; rfl
    rw [hfm]
    repeat with_reducible refine aw_assoc ?_
    first | with_reducible refine aw_region0 (by decide +kernel) fun K' hK => ?_ | with_reducible refine aw_toS (aw_region0 (by decide +kernel) fun K' hK => ?_)
    simp [t6, t7, h1, h2]
    first | refine hK _ _ _ ?_ | done
    clear K' hK
    repeat with_reducible refine aw_assoc ?_
    first | with_reducible refine aw_ret ?_ | with_reducible refine aw_retL ?_ | with_reducible refine aw_skipL ?_
    simp [blockK, loopK, Post, resA, res1, expT, expA, exp1, expM, expL, okT, okA, ok1, rowOf, Tryz.f76, t6, t7, manR]
 ·cases findM Lm n v <;> rfl
end Go.Proofs.YtgipehooceecpaaGreatDoorAbs
namespace Go.Proofs.YtgipehooceecpaaGreatDoorAbs
set_option linter.unusedSimpArgs false
set_option linter.unusedVariables false
open Go Go.RowKit Go.Proofs
set_option maxRecDepth 100000
set_option maxHeartbeats 4000000
@[simp] theorem manR_shift (m : Man) (a n b k d : Nat) : List.map (shift1 d) (m.cellsR (.row a n) (.row b k)) = m.cellsR (.row (a + d) n) (.row (b + d) k) := rfl
theorem addJ_two (G : Hp) (nx : Nat) (p q : TypeId × List AV) : addJ G nx [p, q] = (G.upd nx (.row p.1 p.2)).upd (nx + 1) (.row q.1 q.2) := by
 funext i
 simp only [addJ, Hp.upd, List.length_cons, List.length_nil]
 by_cases h1 : i = nx + 1
 ·subst h1
  rw [if_pos (by omega), if_pos rfl, show nx + 1 - nx = 1 by omega]; rfl
 ·by_cases h : i = nx
  ·subst h
   rw [if_pos (by omega), if_neg h1, if_pos rfl, Nat.sub_self]; rfl
  ·rw [if_neg (by omega), if_neg h1, if_neg h]
theorem manR_end {P : Program} {G : Hp} {a b : Nat} {m : Man} (ok : Bool) (hab : a ≠ b) (ka : G a = some (.row 35 (flat Dep.cells m.deps))) (kb : G b = some (.row 96 (flat Ru.cells m.rules))) :
  ∃ x, expT P G (AV.tup [AV.agg (m.cellsR (AV.row a m.deps.length) (AV.row b m.rules.length)), bV ok]) = some (AV.tup [AV.agg (m.cellsR (AV.row 0 m.deps.length) (AV.row 1 m.rules.length)), bV ok], x) ∧
   okT (AV.tup [AV.agg (m.cellsR (AV.row 0 m.deps.length) (AV.row 1 m.rules.length)), bV ok]) = true ∧ [(35, flat Dep.cells m.deps), (96, flat Ru.cells m.rules)] = List.map (rowOf G) x := by
 have hba : ¬ b = a := fun e => hab e.symm
 refine ⟨[a, b], ?_, rfl, ?_⟩
 ·simp [Man.cellsR, expT, expM, expA, expL, exp1, hba, ka, kb]
 ·simp [rowOf, ka, kb]
def manVal (root : Man) (L : List Man) (t : List Pl) (i : Int) : Option Man := if holdsF t i = true then (if i = 0 then some root else findM L (nth t i.toNat).name (nth t i.toNat).ver) else none
theorem manVal_ok (root : Man) (hr : Man.okS root) (L : List Man) (hl : L.length ≤ 1000000000) (hm : ∀ m ∈ L, Man.okS m) (t : List Pl) (ht : OKs t) (i : Int) : CallsOK Tryz.prog 24 [.agg root.cells, rowT Man.cells L, rowT Pl.cells t, iV i] (manR (manVal root L t i)).1 (manR (manVal root L t i)).2 := by
 have htl := ht.1
 refine callsOK mixed Tryz.call24 Tryz.func24 rfl (by rw [Tryz.ntmps24]; simp) ?_ ?_
 ·rw [Tryz.ntmps24]
  repeat with_reducible refine aw_assoc ?_
  first | with_reducible refine aw_region0 (by decide +kernel) fun K' hK => ?_ | with_reducible refine aw_toS (aw_region0 (by decide +kernel) fun K' hK => ?_)
  simp []
  first | refine hK _ _ _ ?_ | done
  clear K' hK
  repeat with_reducible refine aw_assoc ?_
  first | with_reducible refine aw_block ?_ | with_reducible refine aw_toS (aw_block ?_)
  repeat with_reducible refine aw_assoc ?_
  first | with_reducible refine aw_region0 (by decide +kernel) fun K' hK => ?_ | with_reducible refine aw_toS (aw_region0 (by decide +kernel) fun K' hK => ?_)
  simp []
  refine acall_flat (check18_ok t ht) rfl (by simp) ?_
  by_cases hh : holdsF t i = true
  ·obtain ⟨hc, h0, h1⟩ := holdsF_inv hh
   have h0' : ¬ i < 0 := by omega
   have h1' : ¬ (t.length : Int) ≤ i := by omega
   simp [hc, h0', h1']
   first | refine hK _ _ _ ?_ | done
   clear K' hK
   repeat with_reducible refine aw_assoc ?_
   first | with_reducible refine aw_condP fun A B hA hB => ?_ | with_reducible refine aw_toS (aw_condP fun A B hA hB => ?_)
   simp []
   refine ⟨fun hc => hA ?_, fun hc => hB ?_⟩ <;> clear hA hB A B <;> (try (simp at hc; done)) <;> (try (exfalso; simp at hc; omega)) <;> clear hc <;> (try with_reducible refine aw_skip ?_)
   by_cases hz : i = 0
   ·repeat with_reducible refine aw_assoc ?_
    first | with_reducible refine aw_region0 (by decide +kernel) fun K' hK => ?_ | with_reducible refine aw_toS (aw_region0 (by decide +kernel) fun K' hK => ?_)
    simp [hz]
    first | refine hK _ _ _ ?_ | done
    clear K' hK
    repeat with_reducible refine aw_assoc ?_
    first | with_reducible refine aw_condP fun A B hA hB => ?_ | with_reducible refine aw_toS (aw_condP fun A B hA hB => ?_)
    simp []
    refine ⟨fun hc => hA ?_, fun hc => hB ?_⟩ <;> clear hA hB A B <;> (try (simp at hc; done)) <;> (try (exfalso; simp at hc; omega)) <;> clear hc <;> (try with_reducible refine aw_skip ?_)
    have hv : manVal root L t i = some root := by rw [manVal, if_pos hh, if_pos hz]
    rw [hv]
    repeat with_reducible refine aw_assoc ?_
    first | with_reducible refine aw_region0 (by decide +kernel) fun K' hK => ?_ | with_reducible refine aw_toS (aw_region0 (by decide +kernel) fun K' hK => ?_)
    simp []
    refine acall_new (own75_ok root hr) (by simp) ?_
    simp [addJ_two]
    first | refine hK _ _ _ ?_ | done
    clear K' hK
    repeat with_reducible refine aw_assoc ?_
    first | with_reducible refine aw_ret ?_ | with_reducible refine aw_retL ?_ | with_reducible refine aw_skipL ?_
    simp [blockK, loopK, Post, resA, res1, Tryz.f24, manR]
    exact manR_end true (by omega) (by simp) (by simp)
   ·repeat with_reducible refine aw_assoc ?_
    first | with_reducible refine aw_region0 (by decide +kernel) fun K' hK => ?_ | with_reducible refine aw_toS (aw_region0 (by decide +kernel) fun K' hK => ?_)
    simp [hz]
    first | refine hK _ _ _ ?_ | done
    clear K' hK
    repeat with_reducible refine aw_assoc ?_
    first | with_reducible refine aw_condP fun A B hA hB => ?_ | with_reducible refine aw_toS (aw_condP fun A B hA hB => ?_)
    simp [hz]
    refine ⟨fun hc => hA ?_, fun hc => hB ?_⟩ <;> clear hA hB A B <;> (try (simp at hc; done)) <;> (try (exfalso; simp at hc; omega)) <;> clear hc <;> (try with_reducible refine aw_skip ?_)
    first | with_reducible refine aw_skipL ?_ | skip
    refine blockK_normal ?_
    have hin : i.toNat < t.length := by omega
    have hcast : ((i.toNat : Nat) : Int) = i := by omega
    have hv : manVal root L t i = findM L (nth t i.toNat).name (nth t i.toNat).ver := by rw [manVal, if_pos hh, if_neg hz]
    have hfind := find76_ok L hl hm (nth t i.toNat).name (nth t i.toNat).ver
    rw [hv]
    generalize findM L (nth t i.toNat).name (nth t i.toNat).ver = r at *
    generalize hj : i.toNat = j at *
    cases r with
    | none =>
     repeat with_reducible refine aw_assoc ?_
     first | with_reducible refine aw_region1 (by decide +kernel) (by decide +kernel) fun K' hK => ?_ | with_reducible refine aw_toS (aw_region1 (by decide +kernel) (by decide +kernel) fun K' hK => ?_)
     simp [h0, h1, hin, hj]
     refine acall_new hfind (by simp) ?_
     simp [manR, addJ_nil]
     first | refine hK _ _ _ ?_ | done
     clear K' hK
     repeat with_reducible refine aw_assoc ?_
     first | with_reducible refine aw_ret ?_ | with_reducible refine aw_retL ?_ | with_reducible refine aw_skipL ?_
     simp [blockK, loopK, Post, resA, res1, expT, expA, exp1, expM, expL, okT, okA, ok1, rowOf, Tryz.f24, manR]
    | some m =>
     repeat with_reducible refine aw_assoc ?_
     first | with_reducible refine aw_region1 (by decide +kernel) (by decide +kernel) fun K' hK => ?_ | with_reducible refine aw_toS (aw_region1 (by decide +kernel) (by decide +kernel) fun K' hK => ?_)
     simp [h0, h1, hin, hj]
     refine acall_new hfind (by simp) ?_
     simp [manR, addJ_two]
     first | refine hK _ _ _ ?_ | done
     clear K' hK
     repeat with_reducible refine aw_assoc ?_
     first | with_reducible refine aw_ret ?_ | with_reducible refine aw_retL ?_ | with_reducible refine aw_skipL ?_
     simp [blockK, loopK, Post, resA, res1, Tryz.f24, manR]
     exact manR_end true (by omega) (by simp) (by simp)
  ·have hv : manVal root L t i = none := by rw [manVal, if_neg hh]
   by_cases hc : checkN t = 0
   ·by_cases h0 : i < 0
    ·simp [hc, h0]
     first | refine hK _ _ _ ?_ | done
     clear K' hK
     rw [hv]
     repeat with_reducible refine aw_assoc ?_
     first | with_reducible refine aw_condP fun A B hA hB => ?_ | with_reducible refine aw_toS (aw_condP fun A B hA hB => ?_)
     simp []
     refine ⟨fun hc => hA ?_, fun hc => hB ?_⟩ <;> clear hA hB A B <;> (try (simp at hc; done)) <;> (try (exfalso; simp at hc; omega)) <;> clear hc <;> (try with_reducible refine aw_skip ?_)
     repeat with_reducible refine aw_assoc ?_
     first | with_reducible refine aw_region0 (by decide +kernel) fun K' hK => ?_ | with_reducible refine aw_toS (aw_region0 (by decide +kernel) fun K' hK => ?_)
     simp []
     first | refine hK _ _ _ ?_ | done
     clear K' hK
     repeat with_reducible refine aw_assoc ?_
     first | with_reducible refine aw_ret ?_ | with_reducible refine aw_retL ?_ | with_reducible refine aw_skipL ?_
     simp [blockK, loopK, Post, resA, res1, expT, expA, exp1, expM, expL, okT, okA, ok1, rowOf, Tryz.f24, manR]
    ·have h1 : (t.length : Int) ≤ i := by
      rcases Int.lt_or_le i t.length with h | h
      ·exact absurd (by simp [holdsF, hc, h]; omega) hh
      ·exact h
     simp [hc, h0, h1]
     first | refine hK _ _ _ ?_ | done
     clear K' hK
     rw [hv]
     repeat with_reducible refine aw_assoc ?_
     first | with_reducible refine aw_condP fun A B hA hB => ?_ | with_reducible refine aw_toS (aw_condP fun A B hA hB => ?_)
     simp []
     refine ⟨fun hc => hA ?_, fun hc => hB ?_⟩ <;> clear hA hB A B <;> (try (simp at hc; done)) <;> (try (exfalso; simp at hc; omega)) <;> clear hc <;> (try with_reducible refine aw_skip ?_)
     repeat with_reducible refine aw_assoc ?_
     first | with_reducible refine aw_region0 (by decide +kernel) fun K' hK => ?_ | with_reducible refine aw_toS (aw_region0 (by decide +kernel) fun K' hK => ?_)
     simp []
     first | refine hK _ _ _ ?_ | done
     clear K' hK
     repeat with_reducible refine aw_assoc ?_
     first | with_reducible refine aw_ret ?_ | with_reducible refine aw_retL ?_ | with_reducible refine aw_skipL ?_
     simp [blockK, loopK, Post, resA, res1, expT, expA, exp1, expM, expL, okT, okA, ok1, rowOf, Tryz.f24, manR]
   ·simp [hc]
    first | refine hK _ _ _ ?_ | done
    clear K' hK
    rw [hv]
    repeat with_reducible refine aw_assoc ?_
    first | with_reducible refine aw_condP fun A B hA hB => ?_ | with_reducible refine aw_toS (aw_condP fun A B hA hB => ?_)
    simp []
    refine ⟨fun hc => hA ?_, fun hc => hB ?_⟩ <;> clear hA hB A B <;> (try (simp at hc; done)) <;> (try (exfalso; simp at hc; omega)) <;> clear hc <;> (try with_reducible refine aw_skip ?_)
    repeat with_reducible refine aw_assoc ?_
    first | with_reducible refine aw_region0 (by decide +kernel) fun K' hK => ?_ | with_reducible refine aw_toS (aw_region0 (by decide +kernel) fun K' hK => ?_)
    simp []
    first | refine hK _ _ _ ?_ | done
    clear K' hK
    repeat with_reducible refine aw_assoc ?_
    first | with_reducible refine aw_ret ?_ | with_reducible refine aw_retL ?_ | with_reducible refine aw_skipL ?_
    simp [blockK, loopK, Post, resA, res1, expT, expA, exp1, expM, expL, okT, okA, ok1, rowOf, Tryz.f24, manR]
 ·cases manVal root L t i <;> rfl
def toN (t : List Pl) (i : Int) (d : Dep) : Int := if i < 0 ∨ (t.length : Int) ≤ i then -1 else resolveN t (if d.kind = 4 ∧ 0 < i then (nth t i.toNat).par else i) d.name
theorem to28_ok (t : List Pl) (ht : OKs t) (i : Int) (d : Dep) : CallsOK Tryz.prog 28 [rowT Pl.cells t, iV i, .agg d.cells] (iV (toN t i d)) [] := by
 have htl := ht.1
 refine callsOK mixed Tryz.call28 Tryz.func28 rfl (by rw [Tryz.ntmps28]; simp) ?_ rfl
 rw [Tryz.ntmps28]
 repeat with_reducible refine aw_assoc ?_
 first | with_reducible refine aw_region0 (by decide +kernel) fun K' hK => ?_ | with_reducible refine aw_toS (aw_region0 (by decide +kernel) fun K' hK => ?_)
 simp []
 first | refine hK _ _ _ ?_ | done
 clear K' hK
 by_cases h0 : i < 0
 ·repeat with_reducible refine aw_assoc ?_
  first | with_reducible refine aw_region0 (by decide +kernel) fun K' hK => ?_ | with_reducible refine aw_toS (aw_region0 (by decide +kernel) fun K' hK => ?_)
  simp [h0]
  first | refine hK _ _ _ ?_ | done
  clear K' hK
  repeat with_reducible refine aw_assoc ?_
  first | with_reducible refine aw_condP fun A B hA hB => ?_ | with_reducible refine aw_toS (aw_condP fun A B hA hB => ?_)
  simp []
  refine ⟨fun hc => hA ?_, fun hc => hB ?_⟩ <;> clear hA hB A B <;> (try (simp at hc; done)) <;> (try (exfalso; simp at hc; omega)) <;> clear hc <;> (try with_reducible refine aw_skip ?_)
  repeat with_reducible refine aw_assoc ?_
  first | with_reducible refine aw_region0 (by decide +kernel) fun K' hK => ?_ | with_reducible refine aw_toS (aw_region0 (by decide +kernel) fun K' hK => ?_)
  simp []
  first | refine hK _ _ _ ?_ | done
  clear K' hK
  repeat with_reducible refine aw_assoc ?_
  first | with_reducible refine aw_ret ?_ | with_reducible refine aw_retL ?_ | with_reducible refine aw_skipL ?_
  simp [blockK, loopK, Post, resA, res1, expT, expA, exp1, expM, expL, okT, okA, ok1, rowOf, Tryz.f28]
  rw [toN, if_pos (.inl h0)]
 ·by_cases h1 : (t.length : Int) ≤ i
  ·repeat with_reducible refine aw_assoc ?_
   first | with_reducible refine aw_region0 (by decide +kernel) fun K' hK => ?_ | with_reducible refine aw_toS (aw_region0 (by decide +kernel) fun K' hK => ?_)
   simp [h0, h1]
   first | refine hK _ _ _ ?_ | done
   clear K' hK
   repeat with_reducible refine aw_assoc ?_
   first | with_reducible refine aw_condP fun A B hA hB => ?_ | with_reducible refine aw_toS (aw_condP fun A B hA hB => ?_)
   simp []
   refine ⟨fun hc => hA ?_, fun hc => hB ?_⟩ <;> clear hA hB A B <;> (try (simp at hc; done)) <;> (try (exfalso; simp at hc; omega)) <;> clear hc <;> (try with_reducible refine aw_skip ?_)
   repeat with_reducible refine aw_assoc ?_
   first | with_reducible refine aw_region0 (by decide +kernel) fun K' hK => ?_ | with_reducible refine aw_toS (aw_region0 (by decide +kernel) fun K' hK => ?_)
   simp []
   first | refine hK _ _ _ ?_ | done
   clear K' hK
   repeat with_reducible refine aw_assoc ?_
   first | with_reducible refine aw_ret ?_ | with_reducible refine aw_retL ?_ | with_reducible refine aw_skipL ?_
   simp [blockK, loopK, Post, resA, res1, expT, expA, exp1, expM, expL, okT, okA, ok1, rowOf, Tryz.f28]
   rw [toN, if_pos (.inr h1)]
  ·repeat with_reducible refine aw_assoc ?_
   first | with_reducible refine aw_region0 (by decide +kernel) fun K' hK => ?_ | with_reducible refine aw_toS (aw_region0 (by decide +kernel) fun K' hK => ?_)
   simp [h0, h1]
   first | refine hK _ _ _ ?_ | done
   clear K' hK
   repeat with_reducible refine aw_assoc ?_
   first | with_reducible refine aw_condP fun A B hA hB => ?_ | with_reducible refine aw_toS (aw_condP fun A B hA hB => ?_)
   simp []
   refine ⟨fun hc => hA ?_, fun hc => hB ?_⟩ <;> clear hA hB A B <;> (try (simp at hc; done)) <;> (try (exfalso; simp at hc; omega)) <;> clear hc <;> (try with_reducible refine aw_skip ?_)
   have hno : ¬ (i < 0 ∨ (t.length : Int) ≤ i) := by omega
   have hin : i.toNat < t.length := by omega
   have h0' : 0 ≤ i := by omega
   have h1' : i < (t.length : Int) := by omega
   have hv : toN t i d = resolveN t (if d.kind = 4 ∧ 0 < i then (nth t i.toNat).par else i) d.name := by rw [toN, if_neg hno]
   rw [hv]
   generalize hj : i.toNat = j at *
   by_cases c : d.kind = 4
   ·by_cases c2 : 0 < i
    ·repeat with_reducible refine aw_assoc ?_
     first | with_reducible refine aw_region0 (by decide +kernel) fun K' hK => ?_ | with_reducible refine aw_toS (aw_region0 (by decide +kernel) fun K' hK => ?_)
     simp [c, c2]
     first | refine hK _ _ _ ?_ | done
     clear K' hK
     repeat with_reducible refine aw_assoc ?_
     first | with_reducible refine aw_condP fun A B hA hB => ?_ | with_reducible refine aw_toS (aw_condP fun A B hA hB => ?_)
     simp [c, c2]
     refine ⟨fun hc => hA ?_, fun hc => hB ?_⟩ <;> clear hA hB A B <;> (try (simp at hc; done)) <;> (try (exfalso; simp at hc; omega)) <;> clear hc <;> (try with_reducible refine aw_skip ?_)
     repeat with_reducible refine aw_assoc ?_
     first | with_reducible refine aw_region0 (by decide +kernel) fun K' hK => ?_ | with_reducible refine aw_toS (aw_region0 (by decide +kernel) fun K' hK => ?_)
     simp [c, c2, h0', h1', hin, hj]
     first | refine hK _ _ _ ?_ | done
     clear K' hK
     repeat with_reducible refine aw_assoc ?_
     first | with_reducible refine aw_region0 (by decide +kernel) fun K' hK => ?_ | with_reducible refine aw_toS (aw_region0 (by decide +kernel) fun K' hK => ?_)
     simp []
     refine acall_flat (resolve19_ok t ht (nth t j).par d.name) rfl (by simp) ?_
     simp
     first | refine hK _ _ _ ?_ | done
     clear K' hK
     repeat with_reducible refine aw_assoc ?_
     first | with_reducible refine aw_ret ?_ | with_reducible refine aw_retL ?_ | with_reducible refine aw_skipL ?_
     simp [blockK, loopK, Post, resA, res1, expT, expA, exp1, expM, expL, okT, okA, ok1, rowOf, Tryz.f28, c, c2]
    ·repeat with_reducible refine aw_assoc ?_
     first | with_reducible refine aw_region0 (by decide +kernel) fun K' hK => ?_ | with_reducible refine aw_toS (aw_region0 (by decide +kernel) fun K' hK => ?_)
     simp [c, c2]
     first | refine hK _ _ _ ?_ | done
     clear K' hK
     repeat with_reducible refine aw_assoc ?_
     first | with_reducible refine aw_condP fun A B hA hB => ?_ | with_reducible refine aw_toS (aw_condP fun A B hA hB => ?_)
     simp [c, c2]
     refine ⟨fun hc => hA ?_, fun hc => hB ?_⟩ <;> clear hA hB A B <;> (try (simp at hc; done)) <;> (try (exfalso; simp at hc; omega)) <;> clear hc <;> (try with_reducible refine aw_skip ?_)
     repeat with_reducible refine aw_assoc ?_
     first | with_reducible refine aw_region0 (by decide +kernel) fun K' hK => ?_ | with_reducible refine aw_toS (aw_region0 (by decide +kernel) fun K' hK => ?_)
     simp []
     refine acall_flat (resolve19_ok t ht i d.name) rfl (by simp) ?_
     simp
     first | refine hK _ _ _ ?_ | done
     clear K' hK
     repeat with_reducible refine aw_assoc ?_
     first | with_reducible refine aw_ret ?_ | with_reducible refine aw_retL ?_ | with_reducible refine aw_skipL ?_
     simp [blockK, loopK, Post, resA, res1, expT, expA, exp1, expM, expL, okT, okA, ok1, rowOf, Tryz.f28, c, c2]
   ·repeat with_reducible refine aw_assoc ?_
    first | with_reducible refine aw_region0 (by decide +kernel) fun K' hK => ?_ | with_reducible refine aw_toS (aw_region0 (by decide +kernel) fun K' hK => ?_)
    simp [c]
    first | refine hK _ _ _ ?_ | done
    clear K' hK
    repeat with_reducible refine aw_assoc ?_
    first | with_reducible refine aw_condP fun A B hA hB => ?_ | with_reducible refine aw_toS (aw_condP fun A B hA hB => ?_)
    simp [c]
    refine ⟨fun hc => hA ?_, fun hc => hB ?_⟩ <;> clear hA hB A B <;> (try (simp at hc; done)) <;> (try (exfalso; simp at hc; omega)) <;> clear hc <;> (try with_reducible refine aw_skip ?_)
    repeat with_reducible refine aw_assoc ?_
    first | with_reducible refine aw_region0 (by decide +kernel) fun K' hK => ?_ | with_reducible refine aw_toS (aw_region0 (by decide +kernel) fun K' hK => ?_)
    simp []
    refine acall_flat (resolve19_ok t ht i d.name) rfl (by simp) ?_
    simp
    first | refine hK _ _ _ ?_ | done
    clear K' hK
    repeat with_reducible refine aw_assoc ?_
    first | with_reducible refine aw_ret ?_ | with_reducible refine aw_retL ?_ | with_reducible refine aw_skipL ?_
    simp [blockK, loopK, Post, resA, res1, expT, expA, exp1, expM, expL, okT, okA, ok1, rowOf, Tryz.f28, c]
theorem resN_lt (t : List Pl) (i : Int) (name : Bs) : resolveN t i name < t.length := by
 have : ∀ l : List Nat, resL t name l < t.length := by
  intro l
  induction l with
  | nil => simp only [resL]; omega
  | cons j l ih =>
   simp only [resL]
   cases h : chF t j name with
   | none => exact ih
   | some k =>
    have := (List.findIdx?_eq_some_iff_getElem.1 h).1
    show (k : Int) < _
    omega
 unfold resolveN
 split
 ·exact this _
 ·omega
theorem toN_lt (t : List Pl) (i : Int) (d : Dep) : toN t i d < t.length := by
 unfold toN
 split
 ·omega
 ·exact resN_lt _ _ _
def holdsV (t : List Pl) (i : Int) (d : Dep) : Bool := if holdsF t i = true then (if toN t i d < 0 then decide (d.kind = 3) else rgHolds (nth t (toN t i d).toNat).ver d.range) else false
theorem holds30_ok (t : List Pl) (ht : OKs t) (hv : ∀ p ∈ t, p.ver.pre.size ≤ 1000000) (i : Int) (d : Dep) (hd : Rg.sz d.range) : CallsOK Tryz.prog 30 [rowT Pl.cells t, iV i, .agg d.cells] (bV (holdsV t i d)) [] := by
 have htl := ht.1
 refine callsOK mixed Tryz.call30 Tryz.func30 rfl (by rw [Tryz.ntmps30]; simp) ?_ rfl
 rw [Tryz.ntmps30]
 repeat with_reducible refine aw_assoc ?_
 first | with_reducible refine aw_region0 (by decide +kernel) fun K' hK => ?_ | with_reducible refine aw_toS (aw_region0 (by decide +kernel) fun K' hK => ?_)
 simp []
 first | refine hK _ _ _ ?_ | done
 clear K' hK
 repeat with_reducible refine aw_assoc ?_
 first | with_reducible refine aw_region0 (by decide +kernel) fun K' hK => ?_ | with_reducible refine aw_toS (aw_region0 (by decide +kernel) fun K' hK => ?_)
 simp []
 refine acall_flat (check18_ok t ht) rfl (by simp) ?_
 by_cases hh : holdsF t i = true
 ·obtain ⟨hc, h0, h1⟩ := holdsF_inv hh
  have h0' : ¬ i < 0 := by omega
  have h1' : ¬ (t.length : Int) ≤ i := by omega
  simp [hc, h0', h1']
  first | refine hK _ _ _ ?_ | done
  clear K' hK
  repeat with_reducible refine aw_assoc ?_
  first | with_reducible refine aw_condP fun A B hA hB => ?_ | with_reducible refine aw_toS (aw_condP fun A B hA hB => ?_)
  simp []
  refine ⟨fun hc => hA ?_, fun hc => hB ?_⟩ <;> clear hA hB A B <;> (try (simp at hc; done)) <;> (try (exfalso; simp at hc; omega)) <;> clear hc <;> (try with_reducible refine aw_skip ?_)
  repeat with_reducible refine aw_assoc ?_
  first | with_reducible refine aw_region0 (by decide +kernel) fun K' hK => ?_ | with_reducible refine aw_toS (aw_region0 (by decide +kernel) fun K' hK => ?_)
  simp []
  refine acall_flat (to28_ok t ht i d) rfl (by simp) ?_
  simp
  first | refine hK _ _ _ ?_ | done
  clear K' hK
  have hlt := toN_lt t i d
  have hdef : holdsV t i d = if toN t i d < 0 then decide (d.kind = 3) else rgHolds (nth t (toN t i d).toNat).ver d.range := by rw [holdsV, if_pos hh]
  generalize toN t i d = k at *
  by_cases hk : k < 0
  ·repeat with_reducible refine aw_assoc ?_
   first | with_reducible refine aw_region0 (by decide +kernel) fun K' hK => ?_ | with_reducible refine aw_toS (aw_region0 (by decide +kernel) fun K' hK => ?_)
   simp [hk]
   first | refine hK _ _ _ ?_ | done
   clear K' hK
   repeat with_reducible refine aw_assoc ?_
   first | with_reducible refine aw_condP fun A B hA hB => ?_ | with_reducible refine aw_toS (aw_condP fun A B hA hB => ?_)
   simp []
   refine ⟨fun hc => hA ?_, fun hc => hB ?_⟩ <;> clear hA hB A B <;> (try (simp at hc; done)) <;> (try (exfalso; simp at hc; omega)) <;> clear hc <;> (try with_reducible refine aw_skip ?_)
   repeat with_reducible refine aw_assoc ?_
   first | with_reducible refine aw_region0 (by decide +kernel) fun K' hK => ?_ | with_reducible refine aw_toS (aw_region0 (by decide +kernel) fun K' hK => ?_)
   simp []
   refine acall_flat (needs17_ok d) rfl (by simp) ?_
   simp
   first | refine hK _ _ _ ?_ | done
   clear K' hK
   repeat with_reducible refine aw_assoc ?_
   first | with_reducible refine aw_ret ?_ | with_reducible refine aw_retL ?_ | with_reducible refine aw_skipL ?_
   simp [blockK, loopK, Post, resA, res1, expT, expA, exp1, expM, expL, okT, okA, ok1, rowOf, Tryz.f30]
   rw [hdef, if_pos hk]
  ·have hk0 : 0 ≤ k := by omega
   have hin : k.toNat < t.length := by omega
   rw [if_neg hk] at hdef
   repeat with_reducible refine aw_assoc ?_
   first | with_reducible refine aw_region0 (by decide +kernel) fun K' hK => ?_ | with_reducible refine aw_toS (aw_region0 (by decide +kernel) fun K' hK => ?_)
   simp [hk]
   first | refine hK _ _ _ ?_ | done
   clear K' hK
   repeat with_reducible refine aw_assoc ?_
   first | with_reducible refine aw_condP fun A B hA hB => ?_ | with_reducible refine aw_toS (aw_condP fun A B hA hB => ?_)
   simp []
   refine ⟨fun hc => hA ?_, fun hc => hB ?_⟩ <;> clear hA hB A B <;> (try (simp at hc; done)) <;> (try (exfalso; simp at hc; omega)) <;> clear hc <;> (try with_reducible refine aw_skip ?_)
   generalize hj : k.toNat = j at *
   repeat with_reducible refine aw_assoc ?_
   first | with_reducible refine aw_region1 (by decide +kernel) (by decide +kernel) fun K' hK => ?_ | with_reducible refine aw_toS (aw_region1 (by decide +kernel) (by decide +kernel) fun K' hK => ?_)
   simp [hk0, hlt, hin, hj]
   refine acall_flat (holds84_ok d.range (nth t j).ver hd (hv _ (nth_mem hin))) rfl (by simp [Rg.cells]) ?_
   simp
   first | refine hK _ _ _ ?_ | done
   clear K' hK
   repeat with_reducible refine aw_assoc ?_
   first | with_reducible refine aw_ret ?_ | with_reducible refine aw_retL ?_ | with_reducible refine aw_skipL ?_
   simp [blockK, loopK, Post, resA, res1, expT, expA, exp1, expM, expL, okT, okA, ok1, rowOf, Tryz.f30]
   exact hdef.symm
 ·have hdef : holdsV t i d = false := by rw [holdsV, if_neg hh]
  by_cases hc : checkN t = 0
  ·by_cases h0 : i < 0
   ·simp [hc, h0]
    first | refine hK _ _ _ ?_ | done
    clear K' hK
    repeat with_reducible refine aw_assoc ?_
    first | with_reducible refine aw_condP fun A B hA hB => ?_ | with_reducible refine aw_toS (aw_condP fun A B hA hB => ?_)
    simp []
    refine ⟨fun hc => hA ?_, fun hc => hB ?_⟩ <;> clear hA hB A B <;> (try (simp at hc; done)) <;> (try (exfalso; simp at hc; omega)) <;> clear hc <;> (try with_reducible refine aw_skip ?_)
    repeat with_reducible refine aw_assoc ?_
    first | with_reducible refine aw_region0 (by decide +kernel) fun K' hK => ?_ | with_reducible refine aw_toS (aw_region0 (by decide +kernel) fun K' hK => ?_)
    simp []
    first | refine hK _ _ _ ?_ | done
    clear K' hK
    repeat with_reducible refine aw_assoc ?_
    first | with_reducible refine aw_ret ?_ | with_reducible refine aw_retL ?_ | with_reducible refine aw_skipL ?_
    simp [blockK, loopK, Post, resA, res1, expT, expA, exp1, expM, expL, okT, okA, ok1, rowOf, Tryz.f30]
    exact hdef
   ·have h1 : (t.length : Int) ≤ i := by
     rcases Int.lt_or_le i t.length with h | h
     ·exact absurd (by simp [holdsF, hc, h]; omega) hh
     ·exact h
    simp [hc, h0, h1]
    first | refine hK _ _ _ ?_ | done
    clear K' hK
    repeat with_reducible refine aw_assoc ?_
    first | with_reducible refine aw_condP fun A B hA hB => ?_ | with_reducible refine aw_toS (aw_condP fun A B hA hB => ?_)
    simp []
    refine ⟨fun hc => hA ?_, fun hc => hB ?_⟩ <;> clear hA hB A B <;> (try (simp at hc; done)) <;> (try (exfalso; simp at hc; omega)) <;> clear hc <;> (try with_reducible refine aw_skip ?_)
    repeat with_reducible refine aw_assoc ?_
    first | with_reducible refine aw_region0 (by decide +kernel) fun K' hK => ?_ | with_reducible refine aw_toS (aw_region0 (by decide +kernel) fun K' hK => ?_)
    simp []
    first | refine hK _ _ _ ?_ | done
    clear K' hK
    repeat with_reducible refine aw_assoc ?_
    first | with_reducible refine aw_ret ?_ | with_reducible refine aw_retL ?_ | with_reducible refine aw_skipL ?_
    simp [blockK, loopK, Post, resA, res1, expT, expA, exp1, expM, expL, okT, okA, ok1, rowOf, Tryz.f30]
    exact hdef
  ·simp [hc]
   first | refine hK _ _ _ ?_ | done
   clear K' hK
   repeat with_reducible refine aw_assoc ?_
   first | with_reducible refine aw_condP fun A B hA hB => ?_ | with_reducible refine aw_toS (aw_condP fun A B hA hB => ?_)
   simp []
   refine ⟨fun hc => hA ?_, fun hc => hB ?_⟩ <;> clear hA hB A B <;> (try (simp at hc; done)) <;> (try (exfalso; simp at hc; omega)) <;> clear hc <;> (try with_reducible refine aw_skip ?_)
   repeat with_reducible refine aw_assoc ?_
   first | with_reducible refine aw_region0 (by decide +kernel) fun K' hK => ?_ | with_reducible refine aw_toS (aw_region0 (by decide +kernel) fun K' hK => ?_)
   simp []
   first | refine hK _ _ _ ?_ | done
   clear K' hK
   repeat with_reducible refine aw_assoc ?_
   first | with_reducible refine aw_ret ?_ | with_reducible refine aw_retL ?_ | with_reducible refine aw_skipL ?_
   simp [blockK, loopK, Post, resA, res1, expT, expA, exp1, expM, expL, okT, okA, ok1, rowOf, Tryz.f30]
   exact hdef
end Go.Proofs.YtgipehooceecpaaGreatDoorAbs
namespace Go.Proofs.YtgipehooceecpaaGreatDoorAbs
set_option linter.unusedSimpArgs false
set_option linter.unusedVariables false
open Go Go.RowKit Go.Proofs
set_option maxRecDepth 100000
set_option maxHeartbeats 4000000
@[simp] theorem o_makeFunc0 {P : Program} [Gl P] {s : Sl} {G : Hp} {nx : Nat} {f : FuncId} (caps : Array Operand) : evOp P s G nx (.makeFunc (.func f) #[] caps) = some (.fn f (caps.toList.map (evX s)), G, nx) := by simp [evOp]
@[simp] theorem treeOf_fn {P : Program} {G : Hp} (f : FuncId) (cs : List AV) : treeOf P G (.fn f cs) = none := rfl
@[simp] theorem frzOf_fn {G : Hp} (f : FuncId) (cs : List AV) : frzOf G (.fn f cs) = G := rfl
@[simp] theorem isFn_fn (f : FuncId) (cs : List AV) : isFn (.fn f cs) = true := rfl
theorem rng3 : [0, 1, 2] = List.range 3 := rfl
def AccI (G : Hp) (Z ny : Nat) (x : AV) (acc : List Int) : Prop := (x = .v (.slice none 0 0) ∧ acc = []) ∨ ∃ r, x = .row r acc.length ∧ G r = some (.row 3 (flat iC acc)) ∧ Z < r ∧ r < ny ∧ acc ≠ []
def valCodes (root : Man) (L : List Man) (t : List Pl) : List Int := [manCheck root true, idxCheck L, checkN t]
def fineV (root : Man) (L : List Man) (t : List Pl) (i : Int) : Bool := match manVal root L t i with
 | none => false
 | some m => (ofF m.deps root.rules (decide (i = 0))).all (holdsV t i)
def wrongL (root : Man) (L : List Man) (t : List Pl) : List Int := (belowL t 0).filter fun i => !fineV root L t i
def ValSz (root : Man) (L : List Man) (t : List Pl) : Prop := Man.sz root ∧ Man.okS root ∧ Idx.sz L ∧ (∀ m ∈ L, Man.okS m) ∧ OKs t ∧ ∀ p ∈ t, p.ver.pre.size ≤ 1000000
def codeV (root : Man) (L : List Man) (t : List Pl) : Int := orN (valCodes root L t)
def wrongR (root : Man) (L : List Man) (t : List Pl) : AV × Js :=
 if codeV root L t = 0 then (if wrongL root L t = [] then (.tup [.v (.slice none 0 0), iV 0], []) else (.tup [.row 0 (wrongL root L t).length, iV 0], [(3, flat iC (wrongL root L t))])) else (.tup [.row 0 0, iV (codeV root L t)], [(3, [])])
theorem manR_trees {G : Hp} {a b : Nat} {m : Man} (hba : ¬ b = a) (ka : G a = some (.row 35 (flat Dep.cells m.deps))) (kb : G b = some (.row 96 (flat Ru.cells m.rules))) : treesOf Tryz.prog G (m.cellsR (.row a m.deps.length) (.row b m.rules.length)) = some (m.cells, frzOf (frzOf G (.row a m.deps.length)) (.row b m.rules.length)) := by
 have c1 : Tryz.prog.cellsOf 35 = 3 := by kernel_rfl
 have c2 : Tryz.prog.cellsOf 96 = 2 := by kernel_rfl
 have h1 : treeOf Tryz.prog G (.row a m.deps.length) = some (rowT Dep.cells m.deps) := treeOf_of ka c1 rfl
 have h2 : treeOf Tryz.prog (frzOf G (.row a m.deps.length)) (.row b m.rules.length) = some (rowT Ru.cells m.rules) := (treeOf_frzne hba).trans (treeOf_of kb c2 rfl)
 have f : ∀ (x : Value) (G : Hp), frzOf G (.v x) = G := fun _ _ => rfl
 simp only [Man.cellsR, treesOf, treeOf_v, f, h1, h2]
 rfl
theorem manVal_mem {root : Man} {L : List Man} {t : List Pl} {i : Int} {m : Man} (h : manVal root L t i = some m) : m = root ∨ m ∈ L := by
 unfold manVal at h
 split at h
 ·split at h
  ·injection h with h; exact .inl h.symm
  ·exact .inr (List.mem_of_find?_eq_some h)
 ·cases h
theorem ofF_range {ds : List Dep} {rules : List Ru} {b : Bool} {d : Dep} (h : d ∈ ofF ds rules b) : (∃ e ∈ ds, d.range = e.range) ∨ ∃ e ∈ rules, d.range = e.range := by
 obtain ⟨n, hn, rfl⟩ := List.mem_map.1 h
 have hn2 : n ∈ namesOf (byM b ds) := (sortN_perm _).mem_iff.1 hn
 have hfd : findD (byM b ds) n ∈ ds := by
  cases hp : posM (byM b ds) n with
  | none => exact absurd hn2 (posM_none.1 hp)
  | some j =>
   have := posM_lt hp
   simp only [findD, hp]
   exact byM_mem (nth_mem this.1)
 unfold edgeOf
 cases ha : atF rules (findD (byM b ds) n).name with
 | none => exact .inl ⟨_, hfd, rfl⟩
 | some i =>
  have := (List.findIdx?_eq_some_iff_getElem.1 ha).1
  exact .inr ⟨_, nth_mem this, rfl⟩
theorem wrong35_ok (root : Man) (L : List Man) (t : List Pl) (h : ValSz root L t) : CallsOK Tryz.prog 35 [.agg root.cells, rowT Man.cells L, rowT Pl.cells t] (wrongR root L t).1 (wrongR root L t).2 := by
 obtain ⟨hrz, hro, hLz, hLo, ht, hv⟩ := h
 have hLl := hLz.1
 refine callsOK mixed Tryz.call35 Tryz.func35 rfl (by rw [Tryz.ntmps35]; simp) ?_ ?_
 ·rw [Tryz.ntmps35]
  repeat with_reducible refine aw_assoc ?_
  first | with_reducible refine aw_region0 (by decide +kernel) fun K' hK => ?_ | with_reducible refine aw_toS (aw_region0 (by decide +kernel) fun K' hK => ?_)
  simp []
  first | refine hK _ _ _ ?_ | done
  clear K' hK
  refine aw_scopeL ?_
  refine aw_gen (fun s G nx => s 3 = .ptr 0 0 ∧ s 4 = .ptr 1 0 ∧ s 5 = .ptr 2 0 ∧ nx = 4 ∧ G 0 = some (.var 27 root.cells) ∧ G 1 = some (.var 28 [rowT Man.cells L]) ∧ G 2 = some (.var 29 [rowT Pl.cells t])) ?_ ?_
  ·simp
   exact ⟨rfl, rfl⟩
  rintro s G nx ⟨s3, s4, s5, rfl, g0, g1, g2⟩
  repeat with_reducible refine aw_assoc ?_
  first | with_reducible refine aw_region0 (by decide +kernel) fun K' hK => ?_ | with_reducible refine aw_toS (aw_region0 (by decide +kernel) fun K' hK => ?_)
  simp [s3, s4, s5, rng3]
  first | refine hK _ _ _ ?_ | done
  clear K' hK
  repeat with_reducible refine aw_assoc ?_
  first | with_reducible refine aw_block ?_ | with_reducible refine aw_toS (aw_block ?_)
  refine aw_loop (fun s G nx => s 3 = .ptr 0 0 ∧ s 4 = .ptr 1 0 ∧ s 5 = .ptr 2 0 ∧ G 0 = some (.var 27 root.cells) ∧ G 1 = some (.var 28 [rowT Man.cells L]) ∧ G 2 = some (.var 29 [rowT Pl.cells t]) ∧ s 20 = .row 4 3 ∧ G 4 = some (.var 97 [.fn 87 [.ptr 0 0], .fn 88 [.ptr 1 0], .fn 89 [.ptr 2 0]]) ∧ s 21 = iV 3 ∧ ∃ i : Nat, s 22 = iV i ∧ i ≤ 3 ∧ orN (valCodes root L t) = orN ((valCodes root L t).drop i)) (fun s _ _ => match s 22 with | .v (.int _ n) => 3 - n.toNat | _ => 0) ?_ ?_
  ·exact ⟨by simp [s3], by simp [s4], by simp [s5], by simp [g0], by simp [g1], by simp [g2], by simp, by simp, by simp, 0, by simp, by omega, by simp⟩
  ·clear s3 s4 s5 g0 g1 g2
   rintro s G nx hf ⟨s3, s4, s5, g0, g1, g2, s20, g4, s21, i, s22, hi, ht2⟩
   have hw : IntKind.i64.wrap (↑i + 1) = ((i + 1 : Nat) : Int) := wrapS (by omega)
   repeat with_reducible refine aw_assoc ?_
   first | with_reducible refine aw_region0 (by decide +kernel) fun K' hK => ?_ | with_reducible refine aw_toS (aw_region0 (by decide +kernel) fun K' hK => ?_)
   simp [s21, s22]
   first | refine hK _ _ _ ?_ | done
   clear K' hK
   repeat with_reducible refine aw_assoc ?_
   first | with_reducible refine aw_condP fun A B hA hB => ?_ | with_reducible refine aw_toS (aw_condP fun A B hA hB => ?_)
   simp []
   refine ⟨fun hi2 => hA ?_, fun hi2 => hB ?_⟩ <;> clear hA hB A B <;> (try simp at hi2) <;> (try with_reducible refine aw_skip ?_)
   ·have hfin : ∀ c : Int, orN (valCodes root L t) = c → c ≠ 0 → wrongR root L t = (.tup [.row 0 0, iV c], [(3, [])]) := fun c h1 h2 => by rw [wrongR, codeV, h1, if_neg h2]
    have hcases : i = 0 ∨ i = 1 ∨ i = 2 := by omega
    have w1 : IntKind.i64.wrap 1 = 1 := wrap64 (by omega) (by omega)
    have w2 : IntKind.i64.wrap 2 = 2 := wrap64 (by omega) (by omega)
    have w3 : IntKind.i64.wrap 3 = 3 := wrap64 (by omega) (by omega)
    rcases hcases with rfl | rfl | rfl
    ·have hd : orN ((valCodes root L t).drop 0) = if manCheck root true = 0 then orN ((valCodes root L t).drop 1) else manCheck root true := rfl
     repeat with_reducible refine aw_assoc ?_
     first | with_reducible refine aw_block ?_ | with_reducible refine aw_toS (aw_block ?_)
     repeat with_reducible refine aw_assoc ?_
     first | with_reducible refine aw_region0 (by decide +kernel) fun K' hK => ?_ | with_reducible refine aw_toS (aw_region0 (by decide +kernel) fun K' hK => ?_)
     simp [s20, s22, g4]
     first | refine hK _ _ _ ?_ | done
     clear K' hK
     repeat with_reducible refine aw_assoc ?_
     first | with_reducible refine aw_region0 (by decide +kernel) fun K' hK => ?_ | with_reducible refine aw_toS (aw_region0 (by decide +kernel) fun K' hK => ?_)
     simp []
     refine acall_inlK (inlK mixed Tryz.call87 Tryz.func87 rfl (by rw [Tryz.ntmps87]; simp) fun hf => ?_)
     rw [Tryz.ntmps87]
     repeat with_reducible refine aw_assoc ?_
     first | with_reducible refine aw_region0 (by decide +kernel) fun K' hK => ?_ | with_reducible refine aw_toS (aw_region0 (by decide +kernel) fun K' hK => ?_)
     simp []
     first | refine hK _ _ _ ?_ | done
     clear K' hK
     repeat with_reducible refine aw_assoc ?_
     first | with_reducible refine aw_region0 (by decide +kernel) fun K' hK => ?_ | with_reducible refine aw_toS (aw_region0 (by decide +kernel) fun K' hK => ?_)
     simp [g0]
     refine acall_flat (manCheck_ok root hrz true) rfl (by simp) ?_
     simp
     first | refine hK _ _ _ ?_ | done
     clear K' hK
     repeat with_reducible refine aw_assoc ?_
     first | with_reducible refine aw_ret ?_ | with_reducible refine aw_retL ?_ | with_reducible refine aw_skipL ?_
     simp [blockK, loopK, Post, resA, res1, expT, expA, exp1, expM, expL, okT, okA, ok1, rowOf, Tryz.f87]
     first | refine hK _ _ _ ?_ | done
     clear K' hK
     by_cases c : manCheck root true = 0
     ·repeat with_reducible refine aw_assoc ?_
      first | with_reducible refine aw_region0 (by decide +kernel) fun K' hK => ?_ | with_reducible refine aw_toS (aw_region0 (by decide +kernel) fun K' hK => ?_)
      simp [c]
      first | refine hK _ _ _ ?_ | done
      clear K' hK
      repeat with_reducible refine aw_assoc ?_
      first | with_reducible refine aw_condP fun A B hA hB => ?_ | with_reducible refine aw_toS (aw_condP fun A B hA hB => ?_)
      simp [c]
      refine ⟨fun hc => hA ?_, fun hc => hB ?_⟩ <;> clear hA hB A B <;> (try (simp at hc; done)) <;> (try (exfalso; simp at hc; omega)) <;> clear hc <;> (try with_reducible refine aw_skip ?_)
      first | with_reducible refine aw_skipL ?_ | skip
      refine blockK_normal ?_
      repeat with_reducible refine aw_assoc ?_
      first | with_reducible refine aw_region0 (by decide +kernel) fun K' hK => ?_ | with_reducible refine aw_toS (aw_region0 (by decide +kernel) fun K' hK => ?_)
      simp [s22, w1, w2, w3]
      first | refine hK _ _ _ ?_ | done
      clear K' hK
      refine aw_skipL (loopK_normal ?_ ?_)
      ·exact ⟨by simp [s3], by simp [s4], by simp [s5], g0, g1, g2, by simp [s20], g4, by simp [s21], 1, by simp [w1, w2, w3], by omega, by rw [ht2, hd, if_pos c]⟩
      ·simp [s22, w1, w2, w3]
     ·repeat with_reducible refine aw_assoc ?_
      first | with_reducible refine aw_region0 (by decide +kernel) fun K' hK => ?_ | with_reducible refine aw_toS (aw_region0 (by decide +kernel) fun K' hK => ?_)
      simp [c]
      first | refine hK _ _ _ ?_ | done
      clear K' hK
      repeat with_reducible refine aw_assoc ?_
      first | with_reducible refine aw_condP fun A B hA hB => ?_ | with_reducible refine aw_toS (aw_condP fun A B hA hB => ?_)
      simp [c]
      refine ⟨fun hc => hA ?_, fun hc => hB ?_⟩ <;> clear hA hB A B <;> (try (simp at hc; done)) <;> (try (exfalso; simp at hc; omega)) <;> clear hc <;> (try with_reducible refine aw_skip ?_)
      repeat with_reducible refine aw_assoc ?_
      first | with_reducible refine aw_region0 (by decide +kernel) fun K' hK => ?_ | with_reducible refine aw_toS (aw_region0 (by decide +kernel) fun K' hK => ?_)
      simp []
      first | refine hK _ _ _ ?_ | done
      clear K' hK
      rw [hfin _ (by rw [ht2, hd, if_neg c]) c]
      repeat with_reducible refine aw_assoc ?_
      first | with_reducible refine aw_ret ?_ | with_reducible refine aw_retL ?_ | with_reducible refine aw_skipL ?_
      simp [blockK, loopK, Post, resA, res1, expT, expA, exp1, expM, expL, okT, okA, ok1, rowOf, Tryz.f35, scopeK]
    ·have hd : orN ((valCodes root L t).drop 1) = if idxCheck L = 0 then orN ((valCodes root L t).drop 2) else idxCheck L := rfl
     repeat with_reducible refine aw_assoc ?_
     first | with_reducible refine aw_block ?_ | with_reducible refine aw_toS (aw_block ?_)
     repeat with_reducible refine aw_assoc ?_
     first | with_reducible refine aw_region0 (by decide +kernel) fun K' hK => ?_ | with_reducible refine aw_toS (aw_region0 (by decide +kernel) fun K' hK => ?_)
     simp [s20, s22, g4]
     first | refine hK _ _ _ ?_ | done
     clear K' hK
     repeat with_reducible refine aw_assoc ?_
     first | with_reducible refine aw_region0 (by decide +kernel) fun K' hK => ?_ | with_reducible refine aw_toS (aw_region0 (by decide +kernel) fun K' hK => ?_)
     simp []
     refine acall_inlK (inlK mixed Tryz.call88 Tryz.func88 rfl (by rw [Tryz.ntmps88]; simp) fun hf => ?_)
     rw [Tryz.ntmps88]
     repeat with_reducible refine aw_assoc ?_
     first | with_reducible refine aw_region0 (by decide +kernel) fun K' hK => ?_ | with_reducible refine aw_toS (aw_region0 (by decide +kernel) fun K' hK => ?_)
     simp []
     first | refine hK _ _ _ ?_ | done
     clear K' hK
     repeat with_reducible refine aw_assoc ?_
     first | with_reducible refine aw_region0 (by decide +kernel) fun K' hK => ?_ | with_reducible refine aw_toS (aw_region0 (by decide +kernel) fun K' hK => ?_)
     simp [g1]
     refine acall_flat (idxCheck_ok L hLz) rfl (by simp) ?_
     simp
     first | refine hK _ _ _ ?_ | done
     clear K' hK
     repeat with_reducible refine aw_assoc ?_
     first | with_reducible refine aw_ret ?_ | with_reducible refine aw_retL ?_ | with_reducible refine aw_skipL ?_
     simp [blockK, loopK, Post, resA, res1, expT, expA, exp1, expM, expL, okT, okA, ok1, rowOf, Tryz.f88]
     first | refine hK _ _ _ ?_ | done
     clear K' hK
     by_cases c : idxCheck L = 0
     ·repeat with_reducible refine aw_assoc ?_
      first | with_reducible refine aw_region0 (by decide +kernel) fun K' hK => ?_ | with_reducible refine aw_toS (aw_region0 (by decide +kernel) fun K' hK => ?_)
      simp [c]
      first | refine hK _ _ _ ?_ | done
      clear K' hK
      repeat with_reducible refine aw_assoc ?_
      first | with_reducible refine aw_condP fun A B hA hB => ?_ | with_reducible refine aw_toS (aw_condP fun A B hA hB => ?_)
      simp [c]
      refine ⟨fun hc => hA ?_, fun hc => hB ?_⟩ <;> clear hA hB A B <;> (try (simp at hc; done)) <;> (try (exfalso; simp at hc; omega)) <;> clear hc <;> (try with_reducible refine aw_skip ?_)
      first | with_reducible refine aw_skipL ?_ | skip
      refine blockK_normal ?_
      repeat with_reducible refine aw_assoc ?_
      first | with_reducible refine aw_region0 (by decide +kernel) fun K' hK => ?_ | with_reducible refine aw_toS (aw_region0 (by decide +kernel) fun K' hK => ?_)
      simp [s22, w1, w2, w3]
      first | refine hK _ _ _ ?_ | done
      clear K' hK
      refine aw_skipL (loopK_normal ?_ ?_)
      ·exact ⟨by simp [s3], by simp [s4], by simp [s5], g0, g1, g2, by simp [s20], g4, by simp [s21], 2, by simp [w1, w2, w3], by omega, by rw [ht2, hd, if_pos c]⟩
      ·simp [s22, w1, w2, w3]
     ·repeat with_reducible refine aw_assoc ?_
      first | with_reducible refine aw_region0 (by decide +kernel) fun K' hK => ?_ | with_reducible refine aw_toS (aw_region0 (by decide +kernel) fun K' hK => ?_)
      simp [c]
      first | refine hK _ _ _ ?_ | done
      clear K' hK
      repeat with_reducible refine aw_assoc ?_
      first | with_reducible refine aw_condP fun A B hA hB => ?_ | with_reducible refine aw_toS (aw_condP fun A B hA hB => ?_)
      simp [c]
      refine ⟨fun hc => hA ?_, fun hc => hB ?_⟩ <;> clear hA hB A B <;> (try (simp at hc; done)) <;> (try (exfalso; simp at hc; omega)) <;> clear hc <;> (try with_reducible refine aw_skip ?_)
      repeat with_reducible refine aw_assoc ?_
      first | with_reducible refine aw_region0 (by decide +kernel) fun K' hK => ?_ | with_reducible refine aw_toS (aw_region0 (by decide +kernel) fun K' hK => ?_)
      simp []
      first | refine hK _ _ _ ?_ | done
      clear K' hK
      rw [hfin _ (by rw [ht2, hd, if_neg c]) c]
      repeat with_reducible refine aw_assoc ?_
      first | with_reducible refine aw_ret ?_ | with_reducible refine aw_retL ?_ | with_reducible refine aw_skipL ?_
      simp [blockK, loopK, Post, resA, res1, expT, expA, exp1, expM, expL, okT, okA, ok1, rowOf, Tryz.f35, scopeK]
    ·have hd : orN ((valCodes root L t).drop 2) = if checkN t = 0 then orN ((valCodes root L t).drop 3) else checkN t := rfl
     repeat with_reducible refine aw_assoc ?_
     first | with_reducible refine aw_block ?_ | with_reducible refine aw_toS (aw_block ?_)
     repeat with_reducible refine aw_assoc ?_
     first | with_reducible refine aw_region0 (by decide +kernel) fun K' hK => ?_ | with_reducible refine aw_toS (aw_region0 (by decide +kernel) fun K' hK => ?_)
     simp [s20, s22, g4]
     first | refine hK _ _ _ ?_ | done
     clear K' hK
     repeat with_reducible refine aw_assoc ?_
     first | with_reducible refine aw_region0 (by decide +kernel) fun K' hK => ?_ | with_reducible refine aw_toS (aw_region0 (by decide +kernel) fun K' hK => ?_)
     simp []
     refine acall_inlK (inlK mixed Tryz.call89 Tryz.func89 rfl (by rw [Tryz.ntmps89]; simp) fun hf => ?_)
     rw [Tryz.ntmps89]
     repeat with_reducible refine aw_assoc ?_
     first | with_reducible refine aw_region0 (by decide +kernel) fun K' hK => ?_ | with_reducible refine aw_toS (aw_region0 (by decide +kernel) fun K' hK => ?_)
     simp []
     first | refine hK _ _ _ ?_ | done
     clear K' hK
     repeat with_reducible refine aw_assoc ?_
     first | with_reducible refine aw_region0 (by decide +kernel) fun K' hK => ?_ | with_reducible refine aw_toS (aw_region0 (by decide +kernel) fun K' hK => ?_)
     simp [g2]
     refine acall_flat (check18_ok t ht) rfl (by simp) ?_
     simp
     first | refine hK _ _ _ ?_ | done
     clear K' hK
     repeat with_reducible refine aw_assoc ?_
     first | with_reducible refine aw_ret ?_ | with_reducible refine aw_retL ?_ | with_reducible refine aw_skipL ?_
     simp [blockK, loopK, Post, resA, res1, expT, expA, exp1, expM, expL, okT, okA, ok1, rowOf, Tryz.f89]
     first | refine hK _ _ _ ?_ | done
     clear K' hK
     by_cases c : checkN t = 0
     ·repeat with_reducible refine aw_assoc ?_
      first | with_reducible refine aw_region0 (by decide +kernel) fun K' hK => ?_ | with_reducible refine aw_toS (aw_region0 (by decide +kernel) fun K' hK => ?_)
      simp [c]
      first | refine hK _ _ _ ?_ | done
      clear K' hK
      repeat with_reducible refine aw_assoc ?_
      first | with_reducible refine aw_condP fun A B hA hB => ?_ | with_reducible refine aw_toS (aw_condP fun A B hA hB => ?_)
      simp [c]
      refine ⟨fun hc => hA ?_, fun hc => hB ?_⟩ <;> clear hA hB A B <;> (try (simp at hc; done)) <;> (try (exfalso; simp at hc; omega)) <;> clear hc <;> (try with_reducible refine aw_skip ?_)
      first | with_reducible refine aw_skipL ?_ | skip
      refine blockK_normal ?_
      repeat with_reducible refine aw_assoc ?_
      first | with_reducible refine aw_region0 (by decide +kernel) fun K' hK => ?_ | with_reducible refine aw_toS (aw_region0 (by decide +kernel) fun K' hK => ?_)
      simp [s22, w1, w2, w3]
      first | refine hK _ _ _ ?_ | done
      clear K' hK
      refine aw_skipL (loopK_normal ?_ ?_)
      ·exact ⟨by simp [s3], by simp [s4], by simp [s5], g0, g1, g2, by simp [s20], g4, by simp [s21], 3, by simp [w1, w2, w3], by omega, by rw [ht2, hd, if_pos c]⟩
      ·simp [s22, w1, w2, w3]
     ·repeat with_reducible refine aw_assoc ?_
      first | with_reducible refine aw_region0 (by decide +kernel) fun K' hK => ?_ | with_reducible refine aw_toS (aw_region0 (by decide +kernel) fun K' hK => ?_)
      simp [c]
      first | refine hK _ _ _ ?_ | done
      clear K' hK
      repeat with_reducible refine aw_assoc ?_
      first | with_reducible refine aw_condP fun A B hA hB => ?_ | with_reducible refine aw_toS (aw_condP fun A B hA hB => ?_)
      simp [c]
      refine ⟨fun hc => hA ?_, fun hc => hB ?_⟩ <;> clear hA hB A B <;> (try (simp at hc; done)) <;> (try (exfalso; simp at hc; omega)) <;> clear hc <;> (try with_reducible refine aw_skip ?_)
      repeat with_reducible refine aw_assoc ?_
      first | with_reducible refine aw_region0 (by decide +kernel) fun K' hK => ?_ | with_reducible refine aw_toS (aw_region0 (by decide +kernel) fun K' hK => ?_)
      simp []
      first | refine hK _ _ _ ?_ | done
      clear K' hK
      rw [hfin _ (by rw [ht2, hd, if_neg c]) c]
      repeat with_reducible refine aw_assoc ?_
      first | with_reducible refine aw_ret ?_ | with_reducible refine aw_retL ?_ | with_reducible refine aw_skipL ?_
      simp [blockK, loopK, Post, resA, res1, expT, expA, exp1, expM, expL, okT, okA, ok1, rowOf, Tryz.f35, scopeK]
   ·repeat with_reducible refine aw_assoc ?_
    first | with_reducible refine aw_exit ?_ | with_reducible refine aw_exitL ?_
    refine loopK_exit (blockK_exit ?_)
    have hi3 : i = 3 := by omega
    subst hi3
    have hc0 : codeV root L t = 0 := by rw [codeV, ht2]; rfl
    have hx0 : checkN t = 0 := by
     have h1 : orN (valCodes root L t) = 0 := hc0
     have h2 : orN (valCodes root L t) = if manCheck root true = 0 then (if idxCheck L = 0 then (if checkN t = 0 then 0 else checkN t) else idxCheck L) else manCheck root true := rfl
     rw [h2] at h1
     split at h1
     ·split at h1
      ·split at h1
       ·assumption
       ·exact h1
      ·rename_i h3; exact absurd h1 h3
     ·rename_i h3; exact absurd h1 h3
    have hn4 := fresh_lt hf g4
    clear hn4
    repeat with_reducible refine aw_assoc ?_
    first | with_reducible refine aw_region0 (by decide +kernel) fun K' hK => ?_ | with_reducible refine aw_toS (aw_region0 (by decide +kernel) fun K' hK => ?_)
    simp []
    first | refine hK _ _ _ ?_ | done
    clear K' hK
    have n0 : ¬ 0 = nx := by have := fresh_lt hf g0; omega
    have n1 : ¬ 1 = nx := by have := fresh_lt hf g1; omega
    have n2 : ¬ 2 = nx := by have := fresh_lt hf g2; omega
    have h4x : 4 < nx := fresh_lt hf g4
    refine aw_label ?_
    repeat with_reducible refine aw_assoc ?_
    first | with_reducible refine aw_region0 (by decide +kernel) fun K' hK => ?_ | with_reducible refine aw_toS (aw_region0 (by decide +kernel) fun K' hK => ?_)
    simp [s5, g2, n2]
    refine acall_new (below28_ok t ht 0) (by simp) ?_
    simp [addJ_one]
    refine acall_inlK (inlK mixed Tryz.call90 Tryz.func90 rfl (by rw [Tryz.ntmps90]; simp) fun hf => ?_)
    rw [Tryz.ntmps90]
    repeat with_reducible refine aw_assoc ?_
    first | with_reducible refine aw_region0 (by decide +kernel) fun K' hK => ?_ | with_reducible refine aw_toS (aw_region0 (by decide +kernel) fun K' hK => ?_)
    simp []
    first | refine hK _ _ _ ?_ | done
    clear K' hK
    repeat with_reducible refine aw_assoc ?_
    first | with_reducible refine aw_region0 (by decide +kernel) fun K' hK => ?_ | with_reducible refine aw_toS (aw_region0 (by decide +kernel) fun K' hK => ?_)
    simp []
    first | refine hK _ _ _ ?_ | done
    clear K' hK
    repeat with_reducible refine aw_assoc ?_
    first | with_reducible refine aw_ret ?_ | with_reducible refine aw_retL ?_ | with_reducible refine aw_skipL ?_
    simp [blockK, loopK, Post, resA, res1, expT, expA, exp1, expM, expL, okT, okA, ok1, rowOf, Tryz.f90]
    first | refine hK _ _ _ ?_ | done
    clear K' hK
    refine aw_gen (fun s G ny => s 3 = .ptr 0 0 ∧ s 4 = .ptr 1 0 ∧ s 5 = .ptr 2 0 ∧ s 11 = .ptr nx 0 ∧ s 34 = .fn 142 [.ptr (nx + 2) 0] ∧ ny = nx + 3 ∧ G 0 = some (.var 27 root.cells) ∧ G 1 = some (.var 28 [rowT Man.cells L]) ∧ G 2 = some (.var 29 [rowT Pl.cells t]) ∧ G nx = some (.var 49 [.v (.slice none 0 0)]) ∧ G (nx + 1) = some (.row 3 (flat iC (belowL t 0))) ∧ G (nx + 2) = some (.var 49 [.row (nx + 1) (belowL t 0).length])) ?_ ?_
    ·have a0 : ¬ 0 = nx + 1 := by omega
     have a1 : ¬ 1 = nx + 1 := by omega
     have a2 : ¬ 2 = nx + 1 := by omega
     have a3 : ¬ 1 = nx + 2 := by omega
     have a4 : ¬ 2 = nx + 2 := by omega
     have a5 : ¬ nx = 0 := by omega
     have a6 : ¬ nx = 1 := by omega
     have a7 : ¬ nx = nx + 1 + 1 := by omega
     refine ⟨by simp [s3], by simp [s4], by simp [s5], by simp, by simp, by omega, by simp [n0, g0], by simp [n1, a5, a3, g1], by simp [n2, n1, a4, a5, a6, g2], by simp [a7], by simp, by simp⟩
    clear s3 s4 s5 g0 g1 g2 g4 s20 s21 s22 ht2 hf hw hi hi2
    rintro s G ny ⟨s3, s4, s5, s11, s34, hny, g0, g1, g2, gA, gR, gV⟩
    generalize hA : nx = A at *
    generalize hR : A + 1 = R at *
    generalize hV : A + 2 = V at *
    subst hny
    generalize hZ : A + 3 = Z at *
    have vZ : ¬ V = Z := by omega
    have rZ : ¬ R = Z := by omega
    have aZ : ¬ A = Z := by omega
    have oZ0 : ¬ 0 = Z := by omega
    have oZ1 : ¬ 1 = Z := by omega
    have oZ2 : ¬ 2 = Z := by omega
    repeat with_reducible refine aw_assoc ?_
    first | with_reducible refine aw_block ?_ | with_reducible refine aw_toS (aw_block ?_)
    refine aw_range (f := 142) (fn := Tryz.f142) mixed s34 Tryz.call142 Tryz.func142 rfl (by rw [Tryz.ntmps142]; simp) rfl ?_
    rw [Tryz.ntmps142]
    generalize hL : (Lp.mk s 72 _ _ _) = Lq
    have hLs : Lq.s = s := by subst hL; rfl
    have hbl : (belowL t 0).length ≤ 1000000000 := by
     have htl := ht.1
     unfold belowL
     split
     ·unfold belowK
      rw [List.length_map]
      refine Nat.le_trans (List.length_filter_le _ _) ?_
      rw [List.length_range]; exact htl
     ·simp
    have hround : ∀ (p : Int) (x : AV) (acc : List Int) (K : AV → Hp → Nat → Prop) (G : Hp) (ny : Nat), acc.length ≤ 1000000000 → Z < ny → G 0 = some (.var 27 root.cells) → G 1 = some (.var 28 [rowT Man.cells L]) → G 2 = some (.var 29 [rowT Pl.cells t]) → G A = some (.var 49 [x]) → AccI G Z ny x acc → G Z = some (Lq.o .ready none) →
      (∀ G' ny' x', ny ≤ ny' → (∀ k, k < Z → k ≠ A → G' k = G k) → G' Z = some (Lq.o .ready none) → G' A = some (.var 49 [x']) → AccI G' Z ny' x' (acc ++ if fineV root L t p = true then [] else [p]) → K (bV true) G' ny') → YldK Tryz.prog Z [iV p] K G ny := by
     subst hL
     clear g0 g1 g2 gA gR gV
     intro p x acc K G ny hal hZn g0 g1 g2 gA hacc gZ k1
     refine yldK mixed gZ rfl (by simp) rfl rfl fun hf => ?_
     repeat with_reducible refine aw_assoc ?_
     first | with_reducible refine aw_region0 (by decide +kernel) fun K' hK => ?_ | with_reducible refine aw_toS (aw_region0 (by decide +kernel) fun K' hK => ?_)
     simp []
     first | refine hK _ _ _ ?_ | done
     clear K' hK
     refine ⟨rfl, gZ, ?_⟩
     dsimp only
     generalize (Lp.mk s 72 _ _ _) = Lq at gZ k1 ⊢
     repeat with_reducible refine aw_assoc ?_
     first | with_reducible refine aw_block ?_ | with_reducible refine aw_toS (aw_block ?_)
     have hmc := manVal_ok root hro L hLl hLo t ht p
     have hfine : fineV root L t p = match manVal root L t p with
      | none => false
      | some m => (ofF m.deps root.rules (decide (p = 0))).all (holdsV t p) := rfl
     have hmem := fun m (h : manVal root L t p = some m) => manVal_mem h
     generalize manVal root L t p = r at hmc hfine hmem
     cases r with
     | none =>
      repeat with_reducible refine aw_assoc ?_
      first | with_reducible refine aw_region0 (by decide +kernel) fun K' hK => ?_ | with_reducible refine aw_toS (aw_region0 (by decide +kernel) fun K' hK => ?_)
      simp [s3, s4, s5, oZ0, oZ1, oZ2, g0, g1, g2]
      refine acall_new hmc (by simp) ?_
      simp [manR, addJ_nil]
      first | refine hK _ _ _ ?_ | done
      clear K' hK
      repeat with_reducible refine aw_assoc ?_
      first | with_reducible refine aw_region0 (by decide +kernel) fun K' hK => ?_ | with_reducible refine aw_toS (aw_region0 (by decide +kernel) fun K' hK => ?_)
      simp []
      first | refine hK _ _ _ ?_ | done
      clear K' hK
      repeat with_reducible refine aw_assoc ?_
      first | with_reducible refine aw_condP fun A B hA hB => ?_ | with_reducible refine aw_toS (aw_condP fun A B hA hB => ?_)
      simp []
      refine ⟨fun hc => hA ?_, fun hc => hB ?_⟩ <;> clear hA hB A B <;> (try (simp at hc; done)) <;> (try (exfalso; simp at hc; omega)) <;> clear hc <;> (try with_reducible refine aw_skip ?_)
      have hfine : fineV root L t p = false := hfine
      have an : ¬ A = ny := by omega
      have an1 : ¬ A = ny + 1 := by omega
      have an2 : ¬ A = ny + 2 := by omega
      have an3 : ¬ A = ny + 1 + 1 := by omega
      have zn : ¬ Z = ny := by omega
      have za : ¬ Z = A := by omega
      have zn1 : ¬ Z = ny + 1 := by omega
      have zn2 : ¬ Z = ny + 1 + 1 := by omega
      rcases hacc with ⟨rfl, rfl⟩ | ⟨q, rfl, hq, hZq, hqn, hne⟩
      ·repeat with_reducible refine aw_assoc ?_
       first | with_reducible refine aw_region0 (by decide +kernel) fun K' hK => ?_ | with_reducible refine aw_toS (aw_region0 (by decide +kernel) fun K' hK => ?_)
       simp [s11, gA, aZ, an, an1, an3, treeOf_row, srcOf_row]
       first | refine hK _ _ _ ?_ | done
       clear K' hK
       repeat with_reducible refine aw_assoc ?_
       first | with_reducible refine aw_exit ?_ | with_reducible refine aw_exitL ?_
       repeat first | with_reducible refine blockK_exit ?_ | with_reducible refine blockK_pass (by decide) ?_
       refine aw_skipL (roundK_normal (by simp [zn, za, zn1, zn2]) ?_)
       refine k1 _ _ (.row (ny + 1 + 1) 1) (by omega) (fun k hk hkA => by repeat rw [Hp.upd_ne _ _ (by omega)]) (by simp) (by simp [aZ]) (.inr ⟨ny + 1 + 1, by simp [hfine], ?_, by omega, by omega, by simp [hfine]⟩)
       rw [hfine]
       rw [Hp.upd_ne _ _ (by omega), Hp.upd_ne _ _ (by omega), Hp.upd_self]; rfl
      ·have b1 : acc.length + 1 ≤ 9223372036854775807 := by omega
       have b2 : (acc.length + 1) * 8 ≤ 140737488355328 := by omega
       have qn : ¬ q = ny := by omega
       have qn1 : ¬ q = ny + 1 := by omega
       have qZ : ¬ q = Z := by omega
       have qA : ¬ q = A := by omega
       have Aq : ¬ A = q := by omega
       have Zq : ¬ Z = q := by omega
       repeat with_reducible refine aw_assoc ?_
       first | with_reducible refine aw_region0 (by decide +kernel) fun K' hK => ?_ | with_reducible refine aw_toS (aw_region0 (by decide +kernel) fun K' hK => ?_)
       simp [s11, gA, hq, aZ, an, an1, an3, qn, qn1, qZ, qA, Aq, b1, b2, treeOf_row, srcOf_row]
       first | refine hK _ _ _ ?_ | done
       clear K' hK
       repeat with_reducible refine aw_assoc ?_
       first | with_reducible refine aw_exit ?_ | with_reducible refine aw_exitL ?_
       repeat first | with_reducible refine blockK_exit ?_ | with_reducible refine blockK_pass (by decide) ?_
       refine aw_skipL (roundK_normal (by simp [zn, za, zn1, zn2, Zq]) ?_)
       refine k1 _ _ (.row (ny + 1 + 1) (acc.length + 1)) (by omega) (fun k hk hkA => by repeat rw [Hp.upd_ne _ _ (by omega)]) (by simp) (by simp [aZ]) (.inr ⟨ny + 1 + 1, by simp [hfine], ?_, by omega, by omega, by simp [hfine]⟩)
       rw [hfine, Hp.upd_ne _ _ (by omega), Hp.upd_ne _ _ (by omega), Hp.upd_self, if_neg (by simp), ← flat_snoc]; rfl
     | some m =>
      repeat with_reducible refine aw_assoc ?_
      first | with_reducible refine aw_region0 (by decide +kernel) fun K' hK => ?_ | with_reducible refine aw_toS (aw_region0 (by decide +kernel) fun K' hK => ?_)
      simp [s3, s4, s5, oZ0, oZ1, oZ2, g0, g1, g2]
      refine acall_new hmc (by simp) ?_
      simp [manR, addJ_two, Nat.add_comm 1 ny]
      first | refine hK _ _ _ ?_ | done
      clear K' hK
      repeat with_reducible refine aw_assoc ?_
      first | with_reducible refine aw_region0 (by decide +kernel) fun K' hK => ?_ | with_reducible refine aw_toS (aw_region0 (by decide +kernel) fun K' hK => ?_)
      simp []
      first | refine hK _ _ _ ?_ | done
      clear K' hK
      repeat with_reducible refine aw_assoc ?_
      first | with_reducible refine aw_condP fun A B hA hB => ?_ | with_reducible refine aw_toS (aw_condP fun A B hA hB => ?_)
      simp []
      refine ⟨fun hc => hA ?_, fun hc => hB ?_⟩ <;> clear hA hB A B <;> (try (simp at hc; done)) <;> (try (exfalso; simp at hc; omega)) <;> clear hc <;> (try with_reducible refine aw_skip ?_)
      refine aw_gen (fun u H nz => u 3 = .ptr 0 0 ∧ u 4 = .ptr 1 0 ∧ u 5 = .ptr 2 0 ∧ u 11 = .ptr A 0 ∧ u 12 = iV p ∧ u 13 = .ptr (ny + 2) 0 ∧ nz = ny + 3 ∧ (∀ k, k < Z → H k = G k) ∧ H Z = some (Lq.o .busy none) ∧ (∀ k, Z < k → k < ny → H k = G k) ∧ H ny = some (.row 35 (flat Dep.cells m.deps)) ∧ H (ny + 1) = some (.row 96 (flat Ru.cells m.rules)) ∧ H (ny + 2) = some (.var 27 (m.cellsR (.row ny m.deps.length) (.row (ny + 1) m.rules.length)))) ?_ ?_
      ·have zn : ¬ Z = ny := by omega
       have zn1 : ¬ Z = ny + 1 := by omega
       have zn2 : ¬ Z = ny + 2 := by omega
       exact ⟨by simp [s3], by simp [s4], by simp [s5], by simp [s11], by simp, by simp, by omega, fun k hk => by repeat rw [Hp.upd_ne _ _ (by omega)], by simp [zn, zn1, zn2], fun k h1 h2 => by repeat rw [Hp.upd_ne _ _ (by omega)], by simp, by simp, by simp⟩
      clear hf
      rintro u H nz ⟨u3, u4, u5, u11, u12, u13, rfl, hHl, hHZ, hHu, hkd, hku, hkm⟩
      have hmz : Man.sz m ∧ Man.okS m := by
       rcases hmem m rfl with rfl | hin
       ·exact ⟨hrz, hro⟩
       ·exact ⟨hLz.2 _ hin, hLo _ hin⟩
      have z0 : ¬ 0 = ny := by omega
      have z1 : ¬ 0 = ny + 1 := by omega
      have z2 : ¬ 0 = ny + 2 := by omega
      have h0 : H 0 = some (.var 27 root.cells) := by rw [hHl 0 (by omega)]; exact g0
      have hT := manR_trees (show ¬ ny + 1 = ny by omega) hkd hku
      repeat with_reducible refine aw_assoc ?_
      first | with_reducible refine aw_region0 (by decide +kernel) fun K' hK => ?_ | with_reducible refine aw_toS (aw_region0 (by decide +kernel) fun K' hK => ?_)
      simp [u3, u12, u13, hkm, h0]
      refine acall_new (of10_ok m root.rules (decide (p = 0)) hmz.2.1 hro.2) (by simp [hT]) ?_
      simp [addJ_one, hT]
      first | refine hK _ _ _ ?_ | done
      clear K' hK
      have hfine : fineV root L t p = (ofF m.deps root.rules (decide (p = 0))).all (holdsV t p) := hfine
      have hEz : ∀ d ∈ ofF m.deps root.rules (decide (p = 0)), Rg.sz d.range := fun d hd => by
       rcases ofF_range hd with ⟨e, he, h⟩ | ⟨e, he, h⟩
       ·rw [h]; exact (hmz.1.2.2.1.2 e he).2
       ·rw [h]; exact (hrz.2.2.2.2 e he).2
      have hEl : (ofF m.deps root.rules (decide (p = 0))).length ≤ 1000000000 := by
       have h1 := byM_len (decide (p = 0)) m.deps
       have h2 := hmz.1.2.2.1.1
       unfold ofF
       rw [List.length_map, (sortN_perm _).length_eq]
       simp only [namesOf, List.length_map]
       omega
      generalize ofF m.deps root.rules (decide (p = 0)) = E at *
      repeat with_reducible refine aw_assoc ?_
      first | with_reducible refine aw_block ?_ | with_reducible refine aw_toS (aw_block ?_)
      refine aw_loop (fun u H nz => u 5 = .ptr 2 0 ∧ u 11 = .ptr A 0 ∧ u 12 = iV p ∧ (∀ k, k < Z → H k = G k) ∧ H Z = some (Lq.o .busy none) ∧ (∀ k, Z < k → k < ny → H k = G k) ∧ u 55 = .row (ny + 3) E.length ∧ H (ny + 3) = some (.row 35 (flat Dep.cells E)) ∧ u 56 = iV E.length ∧ ny + 4 ≤ nz ∧ ∃ j : Nat, u 57 = iV j ∧ j ≤ E.length ∧ (E.take j).all (holdsV t p) = true) (fun s _ _ => match s 57 with | .v (.int _ n) => E.length - n.toNat | _ => 0) ?_ ?_
      ·have e1 : ¬ Z = ny + 3 := by omega
       have e2 : ¬ Z = ny := by omega
       have e3 : ¬ Z = ny + 1 := by omega
       exact ⟨by simp [u5], by simp [u11], by simp [u12], fun k hk => by rw [Hp.upd_ne _ _ (by omega), frzOf_ne (by omega), frzOf_ne (by omega)]; exact hHl k hk, by simp [e1, e2, e3, hHZ], fun k h1 h2 => by rw [Hp.upd_ne _ _ (by omega), frzOf_ne (by omega), frzOf_ne (by omega)]; exact hHu k h1 h2, by simp, by simp, by simp, by omega, 0, by simp, by omega, by simp⟩
      ·clear u3 u4 u5 u11 u12 u13 hHl hHZ hHu hkd hku hkm h0
       rintro u H nz hf ⟨u5, u11, u12, hHl, hHZ, hHu, u55, hkE, u56, hnz, j, u57, hj, hjt⟩
       have hw : IntKind.i64.wrap (↑j + 1) = ((j + 1 : Nat) : Int) := wrapS (by omega)
       repeat with_reducible refine aw_assoc ?_
       first | with_reducible refine aw_region0 (by decide +kernel) fun K' hK => ?_ | with_reducible refine aw_toS (aw_region0 (by decide +kernel) fun K' hK => ?_)
       simp [u56, u57]
       first | refine hK _ _ _ ?_ | done
       clear K' hK
       repeat with_reducible refine aw_assoc ?_
       first | with_reducible refine aw_condP fun A B hA hB => ?_ | with_reducible refine aw_toS (aw_condP fun A B hA hB => ?_)
       simp []
       refine ⟨fun hj2 => hA ?_, fun hj2 => hB ?_⟩ <;> clear hA hB A B <;> (try simp at hj2) <;> (try with_reducible refine aw_skip ?_)
       ·have hstep := all_take1 (p := holdsV t p) hj2
        have hdz := hEz _ (nth_mem hj2)
        have hfalse : holdsV t p (nth E j) = false → fineV root L t p = false := fun h => by rw [hfine]; exact all_false hj2 h
        generalize hgd : nth E j = d at *
        have h2 : H 2 = some (.var 29 [rowT Pl.cells t]) := by rw [hHl 2 (by omega)]; exact g2
        have hn2 : ¬ 2 = nz := by omega
        have e3 : ¬ ny + 3 = nz := by omega
        repeat with_reducible refine aw_assoc ?_
        first | with_reducible refine aw_block ?_ | with_reducible refine aw_toS (aw_block ?_)
        repeat with_reducible refine aw_assoc ?_
        first | with_reducible refine aw_region0 (by decide +kernel) fun K' hK => ?_ | with_reducible refine aw_toS (aw_region0 (by decide +kernel) fun K' hK => ?_)
        simp [u55, u57, hj2, hkE, hgd]
        first | refine hK _ _ _ ?_ | done
        clear K' hK
        repeat with_reducible refine aw_assoc ?_
        first | with_reducible refine aw_region0 (by decide +kernel) fun K' hK => ?_ | with_reducible refine aw_toS (aw_region0 (by decide +kernel) fun K' hK => ?_)
        simp [u5, u12, h2, hn2]
        refine acall_flat (holds30_ok t ht hv p d hdz) rfl (by first | rfl | (simp []; done) | (simp []; rfl) | (simp []; exact ⟨rfl, rfl⟩)) ?_
        by_cases hd : holdsV t p d = true
        ·simp [hd]
         first | refine hK _ _ _ ?_ | done
         clear K' hK
         repeat with_reducible refine aw_assoc ?_
         first | with_reducible refine aw_condP fun A B hA hB => ?_ | with_reducible refine aw_toS (aw_condP fun A B hA hB => ?_)
         simp []
         refine ⟨fun hc => hA ?_, fun hc => hB ?_⟩ <;> clear hA hB A B <;> (try (simp at hc; done)) <;> (try (exfalso; simp at hc; omega)) <;> clear hc <;> (try with_reducible refine aw_skip ?_)
         first | with_reducible refine aw_skipL ?_ | skip
         refine blockK_normal ?_
         repeat with_reducible refine aw_assoc ?_
         first | with_reducible refine aw_region0 (by decide +kernel) fun K' hK => ?_ | with_reducible refine aw_toS (aw_region0 (by decide +kernel) fun K' hK => ?_)
         simp [u57, hw]
         first | refine hK _ _ _ ?_ | done
         clear K' hK
         refine aw_skipL (loopK_normal ?_ ?_)
         ·exact ⟨by simp [u5], by simp [u11], by simp [u12], fun k hk => by rw [Hp.upd_ne _ _ (by omega), Hp.upd_ne _ _ (by omega)]; exact hHl k hk, by rw [Hp.upd_ne _ _ (by omega), Hp.upd_ne _ _ (by omega)]; exact hHZ, fun k h1 h2 => by rw [Hp.upd_ne _ _ (by omega), Hp.upd_ne _ _ (by omega)]; exact hHu k h1 h2, by simp [u55], by rw [Hp.upd_ne _ _ (by omega), Hp.upd_ne _ _ (by omega)]; exact hkE, by simp [u56], by omega, j + 1, by simp [hw], by omega, by rw [hstep, hjt, hd]; rfl⟩
         ·simp [u57, hw]; omega
        ·simp [hd]
         first | refine hK _ _ _ ?_ | done
         clear K' hK
         repeat with_reducible refine aw_assoc ?_
         first | with_reducible refine aw_condP fun A B hA hB => ?_ | with_reducible refine aw_toS (aw_condP fun A B hA hB => ?_)
         simp []
         refine ⟨fun hc => hA ?_, fun hc => hB ?_⟩ <;> clear hA hB A B <;> (try (simp at hc; done)) <;> (try (exfalso; simp at hc; omega)) <;> clear hc <;> (try with_reducible refine aw_skip ?_)
         have hfine2 : fineV root L t p = false := hfalse (by simpa using hd)
         have hA2 : H A = some (.var 49 [x]) := by rw [hHl A (by omega)]; exact gA
         have an : ¬ A = nz := by omega
         have an1 : ¬ A = nz + 1 := by omega
         have an3 : ¬ A = nz + 1 + 1 := by omega
         have zn : ¬ Z = nz := by omega
         have za : ¬ Z = A := by omega
         have zn1 : ¬ Z = nz + 1 := by omega
         have zn2 : ¬ Z = nz + 1 + 1 := by omega
         rcases hacc with ⟨rfl, rfl⟩ | ⟨q, rfl, hq, hZq, hqn, hne⟩
         ·repeat with_reducible refine aw_assoc ?_
          first | with_reducible refine aw_region0 (by decide +kernel) fun K' hK => ?_ | with_reducible refine aw_toS (aw_region0 (by decide +kernel) fun K' hK => ?_)
          simp [u11, u12, hA2, an, an1, an3, treeOf_row, srcOf_row]
          first | refine hK _ _ _ ?_ | done
          clear K' hK
          repeat with_reducible refine aw_assoc ?_
          first | with_reducible refine aw_exit ?_ | with_reducible refine aw_exitL ?_
          repeat first | with_reducible refine blockK_exit ?_ | with_reducible refine blockK_pass (by decide) ?_ | with_reducible refine loopK_exit ?_
          refine aw_skipL (roundK_normal (by simp [zn, za, zn1, zn2, hHZ]) ?_)
          refine k1 _ _ (.row (nz + 1 + 1) 1) (by omega) (fun k hk hkA => by (repeat rw [Hp.upd_ne _ _ (by omega)]); exact hHl k hk) (by simp) (by simp [aZ]) (.inr ⟨nz + 1 + 1, by simp [hfine2], ?_, by omega, by omega, by simp [hfine2]⟩)
          rw [hfine2, Hp.upd_ne _ _ (by omega), Hp.upd_ne _ _ (by omega), Hp.upd_self]; rfl
         ·have hq2 : H q = some (.row 3 (flat iC acc)) := by rw [hHu q hZq hqn]; exact hq
          have b1 : acc.length + 1 ≤ 9223372036854775807 := by omega
          have b2 : (acc.length + 1) * 8 ≤ 140737488355328 := by omega
          have qn : ¬ q = nz := by omega
          have qn1 : ¬ q = nz + 1 := by omega
          have qZ : ¬ q = Z := by omega
          have qA : ¬ q = A := by omega
          have Aq : ¬ A = q := by omega
          have Zq : ¬ Z = q := by omega
          repeat with_reducible refine aw_assoc ?_
          first | with_reducible refine aw_region0 (by decide +kernel) fun K' hK => ?_ | with_reducible refine aw_toS (aw_region0 (by decide +kernel) fun K' hK => ?_)
          simp [u11, u12, hA2, hq2, an, an1, an3, qn, qn1, qZ, qA, Aq, b1, b2, treeOf_row, srcOf_row]
          first | refine hK _ _ _ ?_ | done
          clear K' hK
          repeat with_reducible refine aw_assoc ?_
          first | with_reducible refine aw_exit ?_ | with_reducible refine aw_exitL ?_
          repeat first | with_reducible refine blockK_exit ?_ | with_reducible refine blockK_pass (by decide) ?_ | with_reducible refine loopK_exit ?_
          refine aw_skipL (roundK_normal (by simp [zn, za, zn1, zn2, Zq, hHZ]) ?_)
          refine k1 _ _ (.row (nz + 1 + 1) (acc.length + 1)) (by omega) (fun k hk hkA => by (repeat rw [Hp.upd_ne _ _ (by omega)]); exact hHl k hk) (by simp) (by simp [aZ]) (.inr ⟨nz + 1 + 1, by simp [hfine2], ?_, by omega, by omega, by simp [hfine2]⟩)
          rw [hfine2, Hp.upd_ne _ _ (by omega), Hp.upd_ne _ _ (by omega), Hp.upd_self, if_neg (by simp), ← flat_snoc]; rfl
       ·repeat with_reducible refine aw_assoc ?_
        first | with_reducible refine aw_exit ?_ | with_reducible refine aw_exitL ?_
        refine loopK_exit (blockK_exit ?_)
        have hjE : j = E.length := by omega
        subst hjE
        rw [List.take_length] at hjt
        have hfine2 : fineV root L t p = true := by rw [hfine]; exact hjt
        first | with_reducible refine aw_skipL ?_ | skip
        refine blockK_normal ?_
        refine aw_skipL (roundK_normal hHZ ?_)
        refine k1 _ _ x (by omega) (fun k hk hkA => by rw [Hp.upd_ne _ _ (by omega)]; exact hHl k hk) (by simp) (by rw [Hp.upd_ne _ _ (by omega), hHl A (by omega)]; exact gA) ?_
        rw [hfine2, if_pos rfl, List.append_nil]
        rcases hacc with h | ⟨q, hx, hq, hZq, hqn, hne⟩
        ·exact .inl h
        ·exact .inr ⟨q, hx, by rw [Hp.upd_ne _ _ (by omega), hHu q hZq hqn]; exact hq, hZq, by omega, hne⟩
    repeat with_reducible refine aw_assoc ?_
    first | with_reducible refine aw_region0 (by decide +kernel) fun K' hK => ?_ | with_reducible refine aw_toS (aw_region0 (by decide +kernel) fun K' hK => ?_)
    simp [gV, vZ, rZ, gR]
    first | refine hK _ _ _ ?_ | done
    clear K' hK
    repeat with_reducible refine aw_assoc ?_
    first | with_reducible refine aw_block ?_ | with_reducible refine aw_toS (aw_block ?_)
    refine aw_loop (fun t' G' ny => Z < ny ∧ t' 0 = .yl Z ∧ t' 5 = .row R (belowL t 0).length ∧ t' 6 = iV (belowL t 0).length ∧ G' 0 = some (.var 27 root.cells) ∧ G' 1 = some (.var 28 [rowT Man.cells L]) ∧ G' 2 = some (.var 29 [rowT Pl.cells t]) ∧ G' R = some (.row 3 (flat iC (belowL t 0))) ∧ G' Z = some (Lq.o .ready none) ∧ ∃ (i : Nat) (x : AV), t' 7 = iV i ∧ i ≤ (belowL t 0).length ∧ G' A = some (.var 49 [x]) ∧ AccI G' Z ny x (((belowL t 0).take i).filter fun p => !fineV root L t p)) (fun s _ _ => match s 7 with | .v (.int _ n) => (belowL t 0).length - n.toNat | _ => 0) ?_ ?_
    ·exact ⟨by omega, by simp, by simp, by simp, by simp [oZ0, g0], by simp [oZ1, g1], by simp [oZ2, g2], by simp [rZ, gR], by simp, 0, _, by simp, by omega, by simp [aZ, gA], .inl ⟨rfl, by simp⟩⟩
    ·rintro t' G' ny - ⟨hZn, u0, u5, u6, h0, h1, h2, hR', hZ', i, x, u7, hi, hA', hacc⟩
     have hw : IntKind.i64.wrap (↑i + 1) = ((i + 1 : Nat) : Int) := wrapS (by omega)
     repeat with_reducible refine aw_assoc ?_
     first | with_reducible refine aw_region0 (by decide +kernel) fun K' hK => ?_ | with_reducible refine aw_toS (aw_region0 (by decide +kernel) fun K' hK => ?_)
     simp [u6, u7]
     first | refine hK _ _ _ ?_ | done
     clear K' hK
     repeat with_reducible refine aw_assoc ?_
     first | with_reducible refine aw_condP fun A B hA hB => ?_ | with_reducible refine aw_toS (aw_condP fun A B hA hB => ?_)
     simp []
     refine ⟨fun hi2 => hA ?_, fun hi2 => hB ?_⟩ <;> clear hA hB A B <;> (try simp at hi2) <;> (try with_reducible refine aw_skip ?_)
     ·have hst : ((belowL t 0).take (i + 1)).filter (fun p => !fineV root L t p) = ((belowL t 0).take i).filter (fun p => !fineV root L t p) ++ if fineV root L t (nth (belowL t 0) i) = true then [] else [nth (belowL t 0) i] := by
       rw [List.take_add_one, List.getElem?_eq_getElem hi2, List.filter_append, ← nth_eq hi2]
       congr 1
       cases hf2 : fineV root L t (nth (belowL t 0) i) <;> simp [hf2]
      repeat with_reducible refine aw_assoc ?_
      first | with_reducible refine aw_block ?_ | with_reducible refine aw_toS (aw_block ?_)
      repeat with_reducible refine aw_assoc ?_
      first | with_reducible refine aw_region0 (by decide +kernel) fun K' hK => ?_ | with_reducible refine aw_toS (aw_region0 (by decide +kernel) fun K' hK => ?_)
      simp [u5, u7, hi2, hR']
      first | refine hK _ _ _ ?_ | done
      clear K' hK
      repeat with_reducible refine aw_assoc ?_
      first | with_reducible refine aw_region0 (by decide +kernel) fun K' hK => ?_ | with_reducible refine aw_toS (aw_region0 (by decide +kernel) fun K' hK => ?_)
      simp [u0]
      refine ⟨⟨_, _, _, _, _, _, _, hZ'⟩, hround (nth (belowL t 0) i) x _ _ _ _ (Nat.le_trans (List.length_filter_le _ _) (by rw [List.length_take]; omega)) hZn h0 h1 h2 hA' hacc hZ' (fun G2 ny2 x' hn2 hG h5' hA2 hacc2 => ?_)⟩
      simp
      first | refine hK _ _ _ ?_ | done
      clear K' hK
      repeat with_reducible refine aw_assoc ?_
      first | with_reducible refine aw_condP fun A B hA hB => ?_ | with_reducible refine aw_toS (aw_condP fun A B hA hB => ?_)
      simp []
      refine ⟨fun hc => hA ?_, fun hc => hB ?_⟩ <;> clear hA hB A B <;> (try (simp at hc; done)) <;> (try (exfalso; simp at hc; omega)) <;> clear hc <;> (try with_reducible refine aw_skip ?_)
      first | with_reducible refine aw_skipL ?_ | skip
      refine blockK_normal ?_
      repeat with_reducible refine aw_assoc ?_
      first | with_reducible refine aw_region0 (by decide +kernel) fun K' hK => ?_ | with_reducible refine aw_toS (aw_region0 (by decide +kernel) fun K' hK => ?_)
      simp [u7, hw]
      first | refine hK _ _ _ ?_ | done
      clear K' hK
      refine aw_skipL (loopK_normal ?_ ?_)
      ·exact ⟨by omega, by simp [u0], by simp [u5], by simp [u6], by rw [hG 0 (by omega) (by omega)]; exact h0, by rw [hG 1 (by omega) (by omega)]; exact h1, by rw [hG 2 (by omega) (by omega)]; exact h2, by rw [hG R (by omega) (by omega)]; exact hR', h5', i + 1, x', by simp [hw], by omega, hA2, by rw [hst]; exact hacc2⟩
      ·simp [u7, hw]; omega
     ·repeat with_reducible refine aw_assoc ?_
      first | with_reducible refine aw_exit ?_ | with_reducible refine aw_exitL ?_
      refine loopK_exit (blockK_exit ?_)
      rw [List.take_of_length_le (by omega)] at hacc
      have hacc : AccI G' Z ny x (wrongL root L t) := hacc
      refine aw_skipL (rangeK_on (.inl rfl) hZ' ?_)
      rw [hLs]
      refine blockK_normal ?_
      rcases hacc with ⟨rfl, hnil⟩ | ⟨r, rfl, hr, hZr, hrn, hne⟩
      ·have hR1 : wrongR root L t = (.tup [.v (.slice none 0 0), iV 0], []) := by rw [wrongR, if_pos hc0, if_pos hnil]
       rw [hR1]
       repeat with_reducible refine aw_assoc ?_
       first | with_reducible refine aw_region0 (by decide +kernel) fun K' hK => ?_ | with_reducible refine aw_toS (aw_region0 (by decide +kernel) fun K' hK => ?_)
       simp [s11, aZ, hA']
       first | refine hK _ _ _ ?_ | done
       clear K' hK
       repeat with_reducible refine aw_assoc ?_
       first | with_reducible refine aw_ret ?_ | with_reducible refine aw_retL ?_ | with_reducible refine aw_skipL ?_
       simp [blockK, loopK, Post, resA, res1, expT, expA, exp1, expM, expL, okT, okA, ok1, rowOf, Tryz.f35, scopeK]
      ·have hR1 : wrongR root L t = (.tup [.row 0 (wrongL root L t).length, iV 0], [(3, flat iC (wrongL root L t))]) := by rw [wrongR, if_pos hc0, if_neg hne]
       rw [hR1]
       have q1 : ¬ r = Z := by omega
       repeat with_reducible refine aw_assoc ?_
       first | with_reducible refine aw_region0 (by decide +kernel) fun K' hK => ?_ | with_reducible refine aw_toS (aw_region0 (by decide +kernel) fun K' hK => ?_)
       simp [s11, aZ, hA']
       first | refine hK _ _ _ ?_ | done
       clear K' hK
       repeat with_reducible refine aw_assoc ?_
       first | with_reducible refine aw_ret ?_ | with_reducible refine aw_retL ?_ | with_reducible refine aw_skipL ?_
       simp [blockK, loopK, Post, resA, res1, expT, expA, exp1, expM, expL, okT, okA, ok1, rowOf, Tryz.f35, scopeK, q1, hr]
 ·unfold wrongR
  split
  ·split <;> rfl
  ·rfl
def validN (root : Man) (L : List Man) (t : List Pl) : Bool := decide (codeV root L t = 0) && decide (wrongL root L t = [])
theorem valid38_ok (root : Man) (L : List Man) (t : List Pl) (h : ValSz root L t) : CallsOK Tryz.prog 38 [.agg root.cells, rowT Man.cells L, rowT Pl.cells t] (bV (validN root L t)) [] := by
 have hW := wrong35_ok root L t h
 refine callsOK mixed Tryz.call38 Tryz.func38 rfl (by rw [Tryz.ntmps38]; simp) ?_ rfl
 rw [Tryz.ntmps38]
 repeat with_reducible refine aw_assoc ?_
 first | with_reducible refine aw_region0 (by decide +kernel) fun K' hK => ?_ | with_reducible refine aw_toS (aw_region0 (by decide +kernel) fun K' hK => ?_)
 simp []
 first | refine hK _ _ _ ?_ | done
 clear K' hK
 by_cases c : codeV root L t = 0
 ·by_cases w : wrongL root L t = []
  ·rw [wrongR, if_pos c, if_pos w] at hW
   repeat with_reducible refine aw_assoc ?_
   first | with_reducible refine aw_region0 (by decide +kernel) fun K' hK => ?_ | with_reducible refine aw_toS (aw_region0 (by decide +kernel) fun K' hK => ?_)
   simp []
   refine acall_new hW (by simp) ?_
   simp [addJ_nil]
   first | refine hK _ _ _ ?_ | done
   clear K' hK
   repeat with_reducible refine aw_assoc ?_
   first | with_reducible refine aw_region0 (by decide +kernel) fun K' hK => ?_ | with_reducible refine aw_toS (aw_region0 (by decide +kernel) fun K' hK => ?_)
   simp []
   first | refine hK _ _ _ ?_ | done
   clear K' hK
   repeat with_reducible refine aw_assoc ?_
   first | with_reducible refine aw_ret ?_ | with_reducible refine aw_retL ?_ | with_reducible refine aw_skipL ?_
   simp [blockK, loopK, Post, resA, res1, expT, expA, exp1, expM, expL, okT, okA, ok1, rowOf, Tryz.f38]
   simp [validN, c, w]
  ·rw [wrongR, if_pos c, if_neg w] at hW
   have hl : ¬ (wrongL root L t).length = 0 := fun e => w (List.eq_nil_of_length_eq_zero e)
   repeat with_reducible refine aw_assoc ?_
   first | with_reducible refine aw_region0 (by decide +kernel) fun K' hK => ?_ | with_reducible refine aw_toS (aw_region0 (by decide +kernel) fun K' hK => ?_)
   simp []
   refine acall_new hW (by simp) ?_
   simp [addJ_one]
   first | refine hK _ _ _ ?_ | done
   clear K' hK
   repeat with_reducible refine aw_assoc ?_
   first | with_reducible refine aw_region0 (by decide +kernel) fun K' hK => ?_ | with_reducible refine aw_toS (aw_region0 (by decide +kernel) fun K' hK => ?_)
   simp [hl, w]
   first | refine hK _ _ _ ?_ | done
   clear K' hK
   repeat with_reducible refine aw_assoc ?_
   first | with_reducible refine aw_ret ?_ | with_reducible refine aw_retL ?_ | with_reducible refine aw_skipL ?_
   simp [blockK, loopK, Post, resA, res1, expT, expA, exp1, expM, expL, okT, okA, ok1, rowOf, Tryz.f38]
   simp [validN, c, w]
 ·rw [wrongR, if_neg c] at hW
  repeat with_reducible refine aw_assoc ?_
  first | with_reducible refine aw_region0 (by decide +kernel) fun K' hK => ?_ | with_reducible refine aw_toS (aw_region0 (by decide +kernel) fun K' hK => ?_)
  simp []
  refine acall_new hW (by simp) ?_
  simp [addJ_one]
  first | refine hK _ _ _ ?_ | done
  clear K' hK
  repeat with_reducible refine aw_assoc ?_
  first | with_reducible refine aw_region0 (by decide +kernel) fun K' hK => ?_ | with_reducible refine aw_toS (aw_region0 (by decide +kernel) fun K' hK => ?_)
  simp [c]
  first | refine hK _ _ _ ?_ | done
  clear K' hK
  repeat with_reducible refine aw_assoc ?_
  first | with_reducible refine aw_ret ?_ | with_reducible refine aw_retL ?_ | with_reducible refine aw_skipL ?_
  simp [blockK, loopK, Post, resA, res1, expT, expA, exp1, expM, expL, okT, okA, ok1, rowOf, Tryz.f38]
  simp [validN, c]
end Go.Proofs.YtgipehooceecpaaGreatDoorAbs
namespace Go.Proofs.YtgipehooceecpaaGreatDoorAbs
set_option linter.unusedSimpArgs false
set_option linter.unusedVariables false
open Go Go.RowKit Go.Proofs
set_option maxRecDepth 100000
set_option maxHeartbeats 4000000
def bigI (L : List Man) : Bool := decide (110 < L.length) || L.any bigM
theorem big73_ok (L : List Man) (hl : L.length ≤ 9223372036854775807) : CallsOK Tryz.prog 73 [rowT Man.cells L] (bV (bigI L)) [] := by
 refine callsOK mixed Tryz.call73 Tryz.func73 rfl (by rw [Tryz.ntmps73]; simp) ?_ rfl
 rw [Tryz.ntmps73]
 repeat with_reducible refine aw_assoc ?_
 first | with_reducible refine aw_region0 (by decide +kernel) fun K' hK => ?_ | with_reducible refine aw_toS (aw_region0 (by decide +kernel) fun K' hK => ?_)
 simp []
 first | refine hK _ _ _ ?_ | done
 clear K' hK
 repeat with_reducible refine aw_assoc ?_
 first | with_reducible refine aw_region0 (by decide +kernel) fun K' hK => ?_ | with_reducible refine aw_toS (aw_region0 (by decide +kernel) fun K' hK => ?_)
 simp []
 first | refine hK _ _ _ ?_ | done
 clear K' hK
 repeat with_reducible refine aw_assoc ?_
 first | with_reducible refine aw_condP fun A B hA hB => ?_ | with_reducible refine aw_toS (aw_condP fun A B hA hB => ?_)
 simp []
 refine ⟨fun h1 => hA ?_, fun h1 => hB ?_⟩ <;> clear hA hB A B <;> (try simp at h1) <;> (try with_reducible refine aw_skip ?_)
 ·repeat with_reducible refine aw_assoc ?_
  first | with_reducible refine aw_region0 (by decide +kernel) fun K' hK => ?_ | with_reducible refine aw_toS (aw_region0 (by decide +kernel) fun K' hK => ?_)
  simp []
  first | refine hK _ _ _ ?_ | done
  clear K' hK
  repeat with_reducible refine aw_assoc ?_
  first | with_reducible refine aw_ret ?_ | with_reducible refine aw_retL ?_ | with_reducible refine aw_skipL ?_
  simp [blockK, loopK, Post, resA, res1, expT, expA, exp1, expM, expL, okT, okA, ok1, rowOf, Tryz.f73]
  simp [bigI]; left; omega
 ·repeat with_reducible refine aw_assoc ?_
  first | with_reducible refine aw_region0 (by decide +kernel) fun K' hK => ?_ | with_reducible refine aw_toS (aw_region0 (by decide +kernel) fun K' hK => ?_)
  simp []
  first | refine hK _ _ _ ?_ | done
  clear K' hK
  repeat with_reducible refine aw_assoc ?_
  first | with_reducible refine aw_block ?_ | with_reducible refine aw_toS (aw_block ?_)
  refine aw_loop (fun s G nx => s 0 = rowT Man.cells L ∧ ∃ i : Nat, s 3 = iV i ∧ i ≤ L.length ∧ (L.take i).any bigM = false) (fun s _ _ => match s 3 with | .v (.int _ n) => L.length - n.toNat | _ => 0) ?_ ?_
  ·exact ⟨by simp, 0, by simp, by omega, by simp⟩
  ·rintro s G nx - ⟨s0, i, s3, hi, ht⟩
   have hw : IntKind.i64.wrap (↑i + 1) = ((i + 1 : Nat) : Int) := wrapS (by omega)
   repeat with_reducible refine aw_assoc ?_
   first | with_reducible refine aw_region0 (by decide +kernel) fun K' hK => ?_ | with_reducible refine aw_toS (aw_region0 (by decide +kernel) fun K' hK => ?_)
   simp [s0, s3]
   first | refine hK _ _ _ ?_ | done
   clear K' hK
   repeat with_reducible refine aw_assoc ?_
   first | with_reducible refine aw_condP fun A B hA hB => ?_ | with_reducible refine aw_toS (aw_condP fun A B hA hB => ?_)
   simp []
   refine ⟨fun hi2 => hA ?_, fun hi2 => hB ?_⟩ <;> clear hA hB A B <;> (try simp at hi2) <;> (try with_reducible refine aw_skip ?_)
   ·repeat with_reducible refine aw_assoc ?_
    first | with_reducible refine aw_block ?_ | with_reducible refine aw_toS (aw_block ?_)
    repeat with_reducible refine aw_assoc ?_
    first | with_reducible refine aw_region0 (by decide +kernel) fun K' hK => ?_ | with_reducible refine aw_toS (aw_region0 (by decide +kernel) fun K' hK => ?_)
    simp [s0, s3, hi2]
    refine acall_flat (big22_ok (nth L i)) rfl (by simp) ?_
    simp
    first | refine hK _ _ _ ?_ | done
    clear K' hK
    by_cases c : bigM (nth L i) = true
    ·repeat with_reducible refine aw_assoc ?_
     first | with_reducible refine aw_condP fun A B hA hB => ?_ | with_reducible refine aw_toS (aw_condP fun A B hA hB => ?_)
     simp [c]
     refine ⟨fun hc => hA ?_, fun hc => hB ?_⟩ <;> clear hA hB A B <;> (try (simp at hc; done)) <;> (try (exfalso; simp at hc; omega)) <;> clear hc <;> (try with_reducible refine aw_skip ?_)
     repeat with_reducible refine aw_assoc ?_
     first | with_reducible refine aw_region0 (by decide +kernel) fun K' hK => ?_ | with_reducible refine aw_toS (aw_region0 (by decide +kernel) fun K' hK => ?_)
     simp []
     first | refine hK _ _ _ ?_ | done
     clear K' hK
     repeat with_reducible refine aw_assoc ?_
     first | with_reducible refine aw_ret ?_ | with_reducible refine aw_retL ?_ | with_reducible refine aw_skipL ?_
     simp [blockK, loopK, Post, resA, res1, expT, expA, exp1, expM, expL, okT, okA, ok1, rowOf, Tryz.f73]
     simp only [bigI, Bool.or_eq_true, List.any_eq_true]
     exact .inr ⟨_, nth_mem hi2, c⟩
    ·repeat with_reducible refine aw_assoc ?_
     first | with_reducible refine aw_condP fun A B hA hB => ?_ | with_reducible refine aw_toS (aw_condP fun A B hA hB => ?_)
     simp [c]
     refine ⟨fun hc => hA ?_, fun hc => hB ?_⟩ <;> clear hA hB A B <;> (try (simp at hc; done)) <;> (try (exfalso; simp at hc; omega)) <;> clear hc <;> (try with_reducible refine aw_skip ?_)
     first | with_reducible refine aw_skipL ?_ | skip
     refine blockK_normal ?_
     repeat with_reducible refine aw_assoc ?_
     first | with_reducible refine aw_region0 (by decide +kernel) fun K' hK => ?_ | with_reducible refine aw_toS (aw_region0 (by decide +kernel) fun K' hK => ?_)
     simp [s3, hw]
     first | refine hK _ _ _ ?_ | done
     clear K' hK
     refine aw_skipL (loopK_normal ?_ ?_)
     ·exact ⟨by simp [s0], i + 1, by simp [hw], by omega, any_take hi2 ht (by simpa using c)⟩
     ·simp [s3, hw]; omega
   ·repeat with_reducible refine aw_assoc ?_
    first | with_reducible refine aw_exit ?_ | with_reducible refine aw_exitL ?_
    refine loopK_exit (blockK_exit ?_)
    rw [List.take_of_length_le (by omega)] at ht
    repeat with_reducible refine aw_assoc ?_
    first | with_reducible refine aw_region0 (by decide +kernel) fun K' hK => ?_ | with_reducible refine aw_toS (aw_region0 (by decide +kernel) fun K' hK => ?_)
    simp []
    first | refine hK _ _ _ ?_ | done
    clear K' hK
    repeat with_reducible refine aw_assoc ?_
    first | with_reducible refine aw_ret ?_ | with_reducible refine aw_retL ?_ | with_reducible refine aw_skipL ?_
    simp [blockK, loopK, Post, resA, res1, expT, expA, exp1, expM, expL, okT, okA, ok1, rowOf, Tryz.f73]
    simp only [bigI, ht, Bool.or_false, decide_eq_false_iff_not]; omega
def bigW (root : Man) (L : List Man) (t : List Pl) : Bool := bigM root || (bigI L || bigT t)
theorem big21_ok (root : Man) (L : List Man) (t : List Pl) (hl : L.length ≤ 9223372036854775807) (ht : t.length ≤ 9223372036854775807) : CallsOK Tryz.prog 21 [.agg root.cells, rowT Man.cells L, rowT Pl.cells t] (bV (bigW root L t)) [] := by
 refine callsOK mixed Tryz.call21 Tryz.func21 rfl (by rw [Tryz.ntmps21]; simp) ?_ rfl
 rw [Tryz.ntmps21]
 repeat with_reducible refine aw_assoc ?_
 first | with_reducible refine aw_region0 (by decide +kernel) fun K' hK => ?_ | with_reducible refine aw_toS (aw_region0 (by decide +kernel) fun K' hK => ?_)
 simp []
 first | refine hK _ _ _ ?_ | done
 clear K' hK
 repeat with_reducible refine aw_assoc ?_
 first | with_reducible refine aw_region0 (by decide +kernel) fun K' hK => ?_ | with_reducible refine aw_toS (aw_region0 (by decide +kernel) fun K' hK => ?_)
 simp []
 refine acall_flat (big22_ok root) rfl (by simp) ?_
 by_cases c1 : bigM root = true
 ·simp [c1]
  first | refine hK _ _ _ ?_ | done
  clear K' hK
  repeat with_reducible refine aw_assoc ?_
  first | with_reducible refine aw_ret ?_ | with_reducible refine aw_retL ?_ | with_reducible refine aw_skipL ?_
  simp [blockK, loopK, Post, resA, res1, expT, expA, exp1, expM, expL, okT, okA, ok1, rowOf, Tryz.f21]
  simp [bigW, c1]
 ·simp [c1]
  refine acall_flat (big73_ok L hl) rfl (by simp) ?_
  by_cases c2 : bigI L = true
  ·simp [c2]
   first | refine hK _ _ _ ?_ | done
   clear K' hK
   repeat with_reducible refine aw_assoc ?_
   first | with_reducible refine aw_ret ?_ | with_reducible refine aw_retL ?_ | with_reducible refine aw_skipL ?_
   simp [blockK, loopK, Post, resA, res1, expT, expA, exp1, expM, expL, okT, okA, ok1, rowOf, Tryz.f21]
   simp [bigW, c2]
  ·simp [c2]
   refine acall_flat (big30_ok t ht) rfl (by simp) ?_
   simp
   first | refine hK _ _ _ ?_ | done
   clear K' hK
   repeat with_reducible refine aw_assoc ?_
   first | with_reducible refine aw_ret ?_ | with_reducible refine aw_retL ?_ | with_reducible refine aw_skipL ?_
   simp [blockK, loopK, Post, resA, res1, expT, expA, exp1, expM, expL, okT, okA, ok1, rowOf, Tryz.f21]
   simp [bigW, c1, c2]
end Go.Proofs.YtgipehooceecpaaGreatDoorAbs
