/- All that the tree's statements over the references stand on. -/
import Derived.Test.YtomidniaekeafaaGreatDoorY8
import Derived.Test.YtomidniaekeafaaGreatDoorY7
import Derived.Test.YtomidniaekeafaaGreatDoorRows
import Derived.Deep.DeepHandedRow
import Derived.Deep.DeepWitnessRowRef
import Derived.Lib.LaidIn
import Derived.Stop.LaidErr
import Derived.Shelf.Vars
import Derived.MakeChecks
/- TreeChecks. -/
namespace Go.Proofs.YtomidniaekeafaaGreatDoorAbs
set_option linter.unusedSimpArgs false
set_option linter.unusedVariables false
open Go Go.RowKit Go.Proofs
set_option maxRecDepth 100000
set_option maxHeartbeats 1000000
@[simp] theorem eqlB (a b : Bool) : evBin Tryz.prog .eql 4 (.bool a) (.bool b) = some (.bool (a == b)) := by
  cases a <;> cases b <;> kernel_rfl
theorem own11_ok (t : List Pl) (hl : t.length ≤ 1000000000) : CallsOK Tryz.prog 11 [rowT Pl.cells t] (.row 0 t.length) [(34, flat Pl.cells t)] := by
  refine callsOK mixed Tryz.call11 Tryz.func11 rfl (by rw [Tryz.ntmps11]; simp) ?_ rfl
  rw [Tryz.ntmps11]
  have b1 : t.length ≤ 9223372036854775807 := by omega
  have b2 : t.length * 64 ≤ 140737488355328 := by omega
  have hfl : (flat Pl.cells t).length = t.length * 6 := flat_len
  repeat with_reducible refine aw_assoc ?_
  first | with_reducible refine aw_region0 (by decide +kernel) fun K' hK => ?_ | with_reducible refine aw_toS (aw_region0 (by decide +kernel) fun K' hK => ?_)
  simp []
  first | refine hK _ _ _ ?_ | done
  clear K' hK
  repeat with_reducible refine aw_assoc ?_
  first | with_reducible refine aw_region0 (by decide +kernel) fun K' hK => ?_ | with_reducible refine aw_toS (aw_region0 (by decide +kernel) fun K' hK => ?_)
  simp []
  first | refine hK _ _ _ ?_ | done
  clear K' hK
  repeat with_reducible refine aw_assoc ?_
  first | with_reducible refine aw_region0 (by decide +kernel) fun K' hK => ?_ | with_reducible refine aw_toS (aw_region0 (by decide +kernel) fun K' hK => ?_)
  simp [b1, b2, hfl]
  first | refine hK _ _ _ ?_ | done
  clear K' hK
  repeat with_reducible refine aw_assoc ?_
  first | with_reducible refine aw_region0 (by decide +kernel) fun K' hK => ?_ | with_reducible refine aw_toS (aw_region0 (by decide +kernel) fun K' hK => ?_)
  simp []
  first | refine hK _ _ _ ?_ | done
  clear K' hK
  repeat with_reducible refine aw_assoc ?_
  first | with_reducible refine aw_ret ?_ | with_reducible refine aw_retL ?_ | with_reducible refine aw_skipL ?_
  simp [blockK, loopK, Post, resA, res1, expT, expA, exp1, expM, expL, okT, okA, ok1, rowOf, Tryz.f11]
/-- A row of the call's own, frozen or not. -/
def OwnAt (G : Hp) (r : Nat) (t : List Pl) : Prop := G r = some (.row 34 (flat Pl.cells t)) ∨ G r = some (.frz 34 (flat Pl.cells t))
theorem OwnAt.tree {G : Hp} {r : Nat} {t : List Pl} (h : OwnAt G r t) : treeOf Tryz.prog G (.row r t.length) = some (rowT Pl.cells t) := by
  rcases h with h | h
  · exact treeOf_of h c34 rfl
  · exact treeOf_of' h c34 rfl
theorem OwnAt.frz {G : Hp} {r n : Nat} {t : List Pl} (h : OwnAt G r t) : ∃ G', frzOf G (.row r n) = G' ∧ OwnAt G' r t ∧ ∀ j, j ≠ r → G' j = G j := by
  rcases h with h | h
  · cases t with
    | nil => exact ⟨G, by rw [frzOf_row, h]; rfl, .inl h, fun _ _ => rfl⟩
    | cons p t => exact ⟨_, frz_new h (by simp), .inr (by simp), fun j hj => Hp.upd_ne _ _ hj⟩
  · exact ⟨G, frz_old h, .inr h, fun _ _ => rfl⟩
theorem checks8_ok (t : List Pl) (i : Int) (name : Bs) (hl : t.length ≤ 9223372036854775807) : CallsOK Tryz.prog 8 [rowT Pl.cells t, iV i, sV name] (bV true) [] := by
  refine callsOK mixed Tryz.call8 Tryz.func8 rfl (by rw [Tryz.ntmps8]; simp) ?_ rfl
  rw [Tryz.ntmps8]
  repeat with_reducible refine aw_assoc ?_
  first | with_reducible refine aw_region0 (by decide +kernel) fun K' hK => ?_ | with_reducible refine aw_toS (aw_region0 (by decide +kernel) fun K' hK => ?_)
  simp []
  first | refine hK _ _ _ ?_ | done
  clear K' hK
  repeat with_reducible refine aw_assoc ?_
  first | with_reducible refine aw_region0 (by decide +kernel) fun K' hK => ?_ | with_reducible refine aw_toS (aw_region0 (by decide +kernel) fun K' hK => ?_)
  simp []
  refine acall_flat (large10_ok t name v0 hl) rfl (by first | rfl | (simp []; done) | (simp []; rfl) | (simp []; exact ⟨rfl, rfl⟩)) ?_
  cases hlg : largeF t name v0 with
  | true =>
    simp
    first | refine hK _ _ _ ?_ | done
    clear K' hK
    repeat with_reducible refine aw_assoc ?_
    first | with_reducible refine aw_condP fun A B hA hB => ?_ | with_reducible refine aw_toS (aw_condP fun A B hA hB => ?_)
    simp []
    refine ⟨fun hc => hA ?_, fun hc => hB ?_⟩ <;> clear hA hB A B <;> (try (simp at hc; done)) <;> (try (exfalso; simp at hc; omega)) <;> clear hc <;> (try with_reducible refine aw_skip ?_)
    repeat with_reducible refine aw_assoc ?_
    first | with_reducible refine aw_region0 (by decide +kernel) fun K' hK => ?_ | with_reducible refine aw_toS (aw_region0 (by decide +kernel) fun K' hK => ?_)
    simp []
    first | refine hK _ _ _ ?_ | done
    clear K' hK
    repeat with_reducible refine aw_assoc ?_
    first | with_reducible refine aw_ret ?_ | with_reducible refine aw_retL ?_ | with_reducible refine aw_skipL ?_
    simp [blockK, loopK, Post, resA, res1, expT, expA, exp1, expM, expL, okT, okA, ok1, rowOf, Tryz.f8]
  | false =>
    obtain ⟨ht, hn, hv⟩ := large_not hlg
    have hsz : name.size ≤ 1000000000 := by omega
    simp
    first | refine hK _ _ _ ?_ | done
    clear K' hK
    repeat with_reducible refine aw_assoc ?_
    first | with_reducible refine aw_condP fun A B hA hB => ?_ | with_reducible refine aw_toS (aw_condP fun A B hA hB => ?_)
    simp []
    refine ⟨fun hc => hA ?_, fun hc => hB ?_⟩ <;> clear hA hB A B <;> (try (simp at hc; done)) <;> (try (exfalso; simp at hc; omega)) <;> clear hc <;> (try with_reducible refine aw_skip ?_)
    repeat with_reducible refine aw_assoc ?_
    first | with_reducible refine aw_region0 (by decide +kernel) fun K' hK => ?_ | with_reducible refine aw_toS (aw_region0 (by decide +kernel) fun K' hK => ?_)
    simp []
    refine acall_new (own11_ok t ht.1) (by first | rfl | (simp []; done) | (simp []; rfl) | (simp []; exact ⟨rfl, rfl⟩)) ?_
    simp [addJ_one]
    first | refine hK _ _ _ ?_ | done
    clear K' hK
    refine aw_gen (fun s G nx => nx = 1 ∧ s 0 = rowT Pl.cells t ∧ s 1 = iV i ∧ s 2 = sV name ∧ s 7 = .row 0 t.length ∧ OwnAt G 0 t) ?_ ?_
    · simp
      exact .inl (by simp)
    rintro s G nx ⟨rfl, s0, s1, s2, s7, hown⟩
    have htr := hown.tree
    repeat with_reducible refine aw_assoc ?_
    first | with_reducible refine aw_region0 (by decide +kernel) fun K' hK => ?_ | with_reducible refine aw_toS (aw_region0 (by decide +kernel) fun K' hK => ?_)
    simp [s0, s1]
    refine acall_flat (path21_ok t ht i) rfl (by first | rfl | (simp []; done) | (simp []; rfl) | (simp []; exact ⟨rfl, rfl⟩)) ?_
    simp
    first | refine hK _ _ _ ?_ | done
    clear K' hK
    repeat with_reducible refine aw_assoc ?_
    first | with_reducible refine aw_region0 (by decide +kernel) fun K' hK => ?_ | with_reducible refine aw_toS (aw_region0 (by decide +kernel) fun K' hK => ?_)
    simp [s7, s1]
    refine acall_flat (path23_ok t ht i) rfl (by first | rfl | (simp [htr]; done) | (simp [htr]; rfl) | (simp [htr]; exact ⟨rfl, rfl⟩)) ?_
    simp
    first | refine hK _ _ _ ?_ | done
    clear K' hK
    repeat with_reducible refine aw_assoc ?_
    first | with_reducible refine aw_region0 (by decide +kernel) fun K' hK => ?_ | with_reducible refine aw_toS (aw_region0 (by decide +kernel) fun K' hK => ?_)
    simp [s0, s2]
    refine acall_flat (find22_ok t ht name hsz) rfl (by first | rfl | (simp []; done) | (simp []; rfl) | (simp []; exact ⟨rfl, rfl⟩)) ?_
    simp
    first | refine hK _ _ _ ?_ | done
    clear K' hK
    repeat with_reducible refine aw_assoc ?_
    first | with_reducible refine aw_region0 (by decide +kernel) fun K' hK => ?_ | with_reducible refine aw_toS (aw_region0 (by decide +kernel) fun K' hK => ?_)
    simp [s7, s2]
    refine acall_flat (find24_ok t ht name) rfl (by first | rfl | (simp [htr]; done) | (simp [htr]; rfl) | (simp [htr]; exact ⟨rfl, rfl⟩)) ?_
    simp
    first | refine hK _ _ _ ?_ | done
    clear K' hK
    repeat with_reducible refine aw_assoc ?_
    first | with_reducible refine aw_region0 (by decide +kernel) fun K' hK => ?_ | with_reducible refine aw_toS (aw_region0 (by decide +kernel) fun K' hK => ?_)
    simp [s0]
    refine acall_flat (check18_ok t ht) rfl (by first | rfl | (simp []; done) | (simp []; rfl) | (simp []; exact ⟨rfl, rfl⟩)) ?_
    simp [s7]
    refine acall_flat (check25_ok t ht) rfl (by first | rfl | (simp [htr]; done) | (simp [htr]; rfl) | (simp [htr]; exact ⟨rfl, rfl⟩)) ?_
    simp [s0, s1, s2]
    refine acall_flat (resolve19_ok t ht i name) rfl (by first | rfl | (simp []; done) | (simp []; rfl) | (simp []; exact ⟨rfl, rfl⟩)) ?_
    simp [s7, s1, s2]
    refine acall_flat (resolve26_ok t ht i name) rfl (by first | rfl | (simp [htr]; done) | (simp [htr]; rfl) | (simp [htr]; exact ⟨rfl, rfl⟩)) ?_
    simp
    first | refine hK _ _ _ ?_ | done
    clear K' hK
    refine aw_gen (fun s G nx => nx = 1 ∧ s 0 = rowT Pl.cells t ∧ s 1 = iV i ∧ s 7 = .row 0 t.length ∧ OwnAt G 0 t ∧ s 12 = iV ((findF t name).getD 0) ∧ s 14 = iV ((findF t name).getD 0) ∧ s 13 = bV (findF t name).isSome ∧ s 15 = bV (findF t name).isSome ∧ s 16 = bV true) ?_ ?_
    · simp [s0, s1, s7]
      exact hown
    rintro s G nx ⟨rfl, s0, s1, s7, hown, s12, s14, s13, s15, s16⟩
    have hb := below28_ok t ht i
    have hb2 := below29_ok t ht i
    have hbl : (belowL t i).length ≤ 1000000000 := by
      unfold belowL
      split
      · have := belowK_len (t := t) (i := i.toNat) (k := t.length)
        have := ht.1
        omega
      · simp
    generalize belowL t i = bl at hb hb2 hbl
    repeat with_reducible refine aw_assoc ?_
    first | with_reducible refine aw_region0 (by decide +kernel) fun K' hK => ?_ | with_reducible refine aw_toS (aw_region0 (by decide +kernel) fun K' hK => ?_)
    simp []
    refine acall_flat stands17_ok rfl (by first | rfl | (simp []; done) | (simp []; rfl) | (simp []; exact ⟨rfl, rfl⟩)) ?_
    simp [s12, s13, s14, s15, s16, s0, s1]
    refine acall_new hb (by first | rfl | (simp []; done) | (simp []; rfl) | (simp []; exact ⟨rfl, rfl⟩)) ?_
    simp [addJ_one, s7, s1]
    have hown2 : OwnAt (G.upd 1 (.row 3 (flat iC bl))) 0 t := by
      rcases hown with h | h
      · exact .inl (by simp [h])
      · exact .inr (by simp [h])
    refine acall_new hb2 (by first | rfl | (simp [hown2.tree]; done) | (simp [hown2.tree]; rfl) | (simp [hown2.tree]; exact ⟨rfl, rfl⟩)) ?_
    obtain ⟨G2, he, hown3, hk⟩ := hown2.frz (n := t.length)
    have g1 : G2 1 = some (.row 3 (flat iC bl)) := by rw [hk 1 (by omega)]; simp
    simp [addJ_one, hown2.tree, he, s7]
    have g3 : OwnAt ((G2.upd 2 (.row 3 (flat iC bl)))) 0 t := by
      rcases hown3 with h | h
      · exact .inl (by simp [h])
      · exact .inr (by simp [h])
    have c3 : Tryz.prog.cellsOf 3 = 1 := by kernel_rfl
    have t1 : treeOf Tryz.prog (G2.upd 2 (.row 3 (flat iC bl))) (.row 1 bl.length) = some (rowT iC bl) := treeOf_of (by simp [g1]) c3 rfl
    have t2 : treeOf Tryz.prog (G2.upd 2 (.row 3 (flat iC bl))) (.row 2 bl.length) = some (rowT iC bl) := treeOf_of (by simp) c3 rfl
    refine acall_flat (ints27_ok bl bl hbl) rfl (by first | rfl | (simp [t1, t2]; done) | (simp [t1, t2]; rfl) | (simp [t1, t2]; exact ⟨rfl, rfl⟩)) ?_
    simp [s0, s7]
    refine acall_flat (same16_ok t t ht.1) rfl (by first | rfl | (simp [g3.tree]; done) | (simp [g3.tree]; rfl) | (simp [g3.tree]; exact ⟨rfl, rfl⟩)) ?_
    simp
    first | refine hK _ _ _ ?_ | done
    clear K' hK
    repeat with_reducible refine aw_assoc ?_
    first | with_reducible refine aw_ret ?_ | with_reducible refine aw_retL ?_ | with_reducible refine aw_skipL ?_
    simp [blockK, loopK, Post, resA, res1, expT, expA, exp1, expM, expL, okT, okA, ok1, rowOf, Tryz.f8]
end Go.Proofs.YtomidniaekeafaaGreatDoorAbs
/- hoggetref15: Add, Without, Cut. -/
namespace Go.Proofs.YtomidniaekeafaaGreatDoorAbs
set_option linter.unusedSimpArgs false
set_option linter.unusedVariables false
open Go Go.RowKit Go.Proofs
set_option maxRecDepth 100000
set_option maxHeartbeats 1000000
theorem hgt_eq {t : List Pl} (i : Nat) : (12 ≤ heightN t i) ↔ ¬ (upN t i).length ≤ 12 := by
  unfold heightN; omega
theorem add13_ok (t : List Pl) (ht : OKs t) (i : Int) (name : Bs) (v : Ver) (hn : name.size ≤ 4000000000) (hv : v.pre.size ≤ 4000000000) :
    CallsOK Tryz.prog 13 [rowT Pl.cells t, iV i, sV name, .agg v.cells] (.tup [.row 0 (addR t i name v).length, iV (addI t i name v), iV (addCode t i name v)]) [(34, flat Pl.cells (addR t i name v))] := by
  refine callsOK mixed Tryz.call13 Tryz.func13 rfl (by rw [Tryz.ntmps13]; simp) ?_ rfl
  rw [Tryz.ntmps13]
  have hl := ht.1
  repeat with_reducible refine aw_assoc ?_
  first | with_reducible refine aw_region0 (by decide +kernel) fun K' hK => ?_ | with_reducible refine aw_toS (aw_region0 (by decide +kernel) fun K' hK => ?_)
  simp []
  first | refine hK _ _ _ ?_ | done
  clear K' hK
  repeat with_reducible refine aw_assoc ?_
  first | with_reducible refine aw_region0 (by decide +kernel) fun K' hK => ?_ | with_reducible refine aw_toS (aw_region0 (by decide +kernel) fun K' hK => ?_)
  simp []
  refine acall_flat (check25_ok t ht) rfl (by first | rfl | (simp []; done) | (simp []; rfl) | (simp []; exact ⟨rfl, rfl⟩)) ?_
  simp
  first | refine hK _ _ _ ?_ | done
  clear K' hK
  by_cases c0 : checkN t = 0
  case neg =>
    have e : addCode t i name v = checkN t := by rw [addCode, if_pos c0]
    have hne : ¬ addCode t i name v = 0 := by rw [e]; exact c0
    repeat with_reducible refine aw_assoc ?_
    first | with_reducible refine aw_region0 (by decide +kernel) fun K' hK => ?_ | with_reducible refine aw_toS (aw_region0 (by decide +kernel) fun K' hK => ?_)
    simp [c0]
    first | refine hK _ _ _ ?_ | done
    clear K' hK
    repeat with_reducible refine aw_assoc ?_
    first | with_reducible refine aw_condP fun A B hA hB => ?_ | with_reducible refine aw_toS (aw_condP fun A B hA hB => ?_)
    simp []
    refine ⟨fun hc => hA ?_, fun hc => hB ?_⟩ <;> clear hA hB A B <;> (try (simp at hc; done)) <;> (try (exfalso; simp at hc; omega)) <;> clear hc <;> (try with_reducible refine aw_skip ?_)
    repeat with_reducible refine aw_assoc ?_
    first | with_reducible refine aw_region0 (by decide +kernel) fun K' hK => ?_ | with_reducible refine aw_toS (aw_region0 (by decide +kernel) fun K' hK => ?_)
    simp []
    first | refine hK _ _ _ ?_ | done
    clear K' hK
    repeat with_reducible refine aw_assoc ?_
    first | with_reducible refine aw_ret ?_ | with_reducible refine aw_retL ?_ | with_reducible refine aw_skipL ?_
    simp [blockK, loopK, Post, resA, res1, expT, expA, exp1, expM, expL, okT, okA, ok1, rowOf, Tryz.f13]
    have eR : addR t i name v = [] := by rw [addR, if_neg hne]
    have eI : addI t i name v = 0 := by rw [addI, if_neg hne]
    rw [eR, eI, e]
    simp
    rfl
  have g := check_iff.1 c0
  repeat with_reducible refine aw_assoc ?_
  first | with_reducible refine aw_region0 (by decide +kernel) fun K' hK => ?_ | with_reducible refine aw_toS (aw_region0 (by decide +kernel) fun K' hK => ?_)
  simp [c0]
  first | refine hK _ _ _ ?_ | done
  clear K' hK
  repeat with_reducible refine aw_assoc ?_
  first | with_reducible refine aw_condP fun A B hA hB => ?_ | with_reducible refine aw_toS (aw_condP fun A B hA hB => ?_)
  simp []
  refine ⟨fun hc => hA ?_, fun hc => hB ?_⟩ <;> clear hA hB A B <;> (try (simp at hc; done)) <;> (try (exfalso; simp at hc; omega)) <;> clear hc <;> (try with_reducible refine aw_skip ?_)
  by_cases c1 : i < 0
  · have e : addCode t i name v = 151 := by simp [addCode, c0, show ¬ 0 ≤ i by omega]
    repeat with_reducible refine aw_assoc ?_
    first | with_reducible refine aw_region0 (by decide +kernel) fun K' hK => ?_ | with_reducible refine aw_toS (aw_region0 (by decide +kernel) fun K' hK => ?_)
    simp [c1]
    first | refine hK _ _ _ ?_ | done
    clear K' hK
    repeat with_reducible refine aw_assoc ?_
    first | with_reducible refine aw_condP fun A B hA hB => ?_ | with_reducible refine aw_toS (aw_condP fun A B hA hB => ?_)
    simp []
    refine ⟨fun hc => hA ?_, fun hc => hB ?_⟩ <;> clear hA hB A B <;> (try (simp at hc; done)) <;> (try (exfalso; simp at hc; omega)) <;> clear hc <;> (try with_reducible refine aw_skip ?_)
    repeat with_reducible refine aw_assoc ?_
    first | with_reducible refine aw_region0 (by decide +kernel) fun K' hK => ?_ | with_reducible refine aw_toS (aw_region0 (by decide +kernel) fun K' hK => ?_)
    simp []
    first | refine hK _ _ _ ?_ | done
    clear K' hK
    repeat with_reducible refine aw_assoc ?_
    first | with_reducible refine aw_ret ?_ | with_reducible refine aw_retL ?_ | with_reducible refine aw_skipL ?_
    simp [blockK, loopK, Post, resA, res1, expT, expA, exp1, expM, expL, okT, okA, ok1, rowOf, Tryz.f13]
    simp [addR, addI, e]
    rfl
  by_cases c2 : (t.length : Int) ≤ i
  · have e : addCode t i name v = 151 := by simp [addCode, c0, show ¬ i < t.length by omega]
    repeat with_reducible refine aw_assoc ?_
    first | with_reducible refine aw_region0 (by decide +kernel) fun K' hK => ?_ | with_reducible refine aw_toS (aw_region0 (by decide +kernel) fun K' hK => ?_)
    simp [c1, c2]
    first | refine hK _ _ _ ?_ | done
    clear K' hK
    repeat with_reducible refine aw_assoc ?_
    first | with_reducible refine aw_condP fun A B hA hB => ?_ | with_reducible refine aw_toS (aw_condP fun A B hA hB => ?_)
    simp []
    refine ⟨fun hc => hA ?_, fun hc => hB ?_⟩ <;> clear hA hB A B <;> (try (simp at hc; done)) <;> (try (exfalso; simp at hc; omega)) <;> clear hc <;> (try with_reducible refine aw_skip ?_)
    repeat with_reducible refine aw_assoc ?_
    first | with_reducible refine aw_region0 (by decide +kernel) fun K' hK => ?_ | with_reducible refine aw_toS (aw_region0 (by decide +kernel) fun K' hK => ?_)
    simp []
    first | refine hK _ _ _ ?_ | done
    clear K' hK
    repeat with_reducible refine aw_assoc ?_
    first | with_reducible refine aw_ret ?_ | with_reducible refine aw_retL ?_ | with_reducible refine aw_skipL ?_
    simp [blockK, loopK, Post, resA, res1, expT, expA, exp1, expM, expL, okT, okA, ok1, rowOf, Tryz.f13]
    simp [addR, addI, e]
    rfl
  obtain ⟨n, rfl⟩ : ∃ n : Nat, i = n := ⟨i.toNat, by omega⟩
  have hlt : n < t.length := by omega
  repeat with_reducible refine aw_assoc ?_
  first | with_reducible refine aw_region0 (by decide +kernel) fun K' hK => ?_ | with_reducible refine aw_toS (aw_region0 (by decide +kernel) fun K' hK => ?_)
  simp [c1, c2]
  first | refine hK _ _ _ ?_ | done
  clear K' hK
  repeat with_reducible refine aw_assoc ?_
  first | with_reducible refine aw_condP fun A B hA hB => ?_ | with_reducible refine aw_toS (aw_condP fun A B hA hB => ?_)
  simp []
  refine ⟨fun hc => hA ?_, fun hc => hB ?_⟩ <;> clear hA hB A B <;> (try (simp at hc; done)) <;> (try (exfalso; simp at hc; omega)) <;> clear hc <;> (try with_reducible refine aw_skip ?_)
  repeat with_reducible refine aw_assoc ?_
  refine aw_cut (fun s G nx => s 0 = rowT Pl.cells t ∧ s 1 = iV n ∧ s 2 = sV name ∧ s 7 = .ptr 0 0 ∧ G 0 = some (.var 24 v.cells) ∧ nx = 2 ∧ s 33 = bV (!rightF name v)) ?_ ?_
  · repeat with_reducible refine aw_assoc ?_
    first | with_reducible refine aw_region0 (by decide +kernel) fun K' hK => ?_ | with_reducible refine aw_toS (aw_region0 (by decide +kernel) fun K' hK => ?_)
    simp []
    refine acall_flat (good36_ok name (by omega)) rfl (by first | rfl | (simp []; done) | (simp []; rfl) | (simp []; exact ⟨rfl, rfl⟩)) ?_
    cases c3 : goodF (bsL name) with
    | false =>
      simp
      first | refine hK _ _ _ ?_ | done
      clear K' hK
      with_reducible refine aw_end ?_
      simp [rightF_eq, c3]
    | true =>
      simp
      refine acall_flat (right37_ok v hv) rfl (by first | rfl | (simp []; done) | (simp []; rfl) | (simp []; exact ⟨rfl, rfl⟩)) ?_
      simp
      first | refine hK _ _ _ ?_ | done
      clear K' hK
      with_reducible refine aw_end ?_
      simp [rightF_eq, c3]
  rintro s G nx ⟨s0, s1, s2, s7, g0, rfl, s33⟩
  cases c3 : rightF name v with
  | false =>
    have e : addCode t n name v = 1 := by simp [addCode, c0, hlt, c3]
    rw [c3] at s33
    repeat with_reducible refine aw_assoc ?_
    first | with_reducible refine aw_condP fun A B hA hB => ?_ | with_reducible refine aw_toS (aw_condP fun A B hA hB => ?_)
    simp [s33]
    refine ⟨fun hc => hA ?_, fun hc => hB ?_⟩ <;> clear hA hB A B <;> (try (simp at hc; done)) <;> (try (exfalso; simp at hc; omega)) <;> clear hc <;> (try with_reducible refine aw_skip ?_)
    repeat with_reducible refine aw_assoc ?_
    first | with_reducible refine aw_region0 (by decide +kernel) fun K' hK => ?_ | with_reducible refine aw_toS (aw_region0 (by decide +kernel) fun K' hK => ?_)
    simp []
    first | refine hK _ _ _ ?_ | done
    clear K' hK
    repeat with_reducible refine aw_assoc ?_
    first | with_reducible refine aw_ret ?_ | with_reducible refine aw_retL ?_ | with_reducible refine aw_skipL ?_
    simp [blockK, loopK, Post, resA, res1, expT, expA, exp1, expM, expL, okT, okA, ok1, rowOf, Tryz.f13]
    simp [addR, addI, e]
    rfl
  | true =>
  rw [c3] at s33
  repeat with_reducible refine aw_assoc ?_
  first | with_reducible refine aw_condP fun A B hA hB => ?_ | with_reducible refine aw_toS (aw_condP fun A B hA hB => ?_)
  simp [s33]
  refine ⟨fun hc => hA ?_, fun hc => hB ?_⟩ <;> clear hA hB A B <;> (try (simp at hc; done)) <;> (try (exfalso; simp at hc; omega)) <;> clear hc <;> (try with_reducible refine aw_skip ?_)
  repeat with_reducible refine aw_assoc ?_
  first | with_reducible refine aw_region0 (by decide +kernel) fun K' hK => ?_ | with_reducible refine aw_toS (aw_region0 (by decide +kernel) fun K' hK => ?_)
  simp [s0, s1, s2]
  refine acall_flat (child38_ok t hl t.length (Nat.le_refl _) n name) rfl (by first | rfl | (simp []; done) | (simp []; rfl) | (simp []; exact ⟨rfl, rfl⟩)) ?_
  rw [chR_eq g (by omega)]
  cases c4 : chF t n name with
  | some k =>
    have e : addCode t n name v = 152 := by simp [addCode, c0, hlt, c3, c4]
    have h4 : (0 : Int) ≤ atI (some k) := by simp [atI]
    simp [h4]
    first | refine hK _ _ _ ?_ | done
    clear K' hK
    repeat with_reducible refine aw_assoc ?_
    first | with_reducible refine aw_condP fun A B hA hB => ?_ | with_reducible refine aw_toS (aw_condP fun A B hA hB => ?_)
    simp []
    refine ⟨fun hc => hA ?_, fun hc => hB ?_⟩ <;> clear hA hB A B <;> (try (simp at hc; done)) <;> (try (exfalso; simp at hc; omega)) <;> clear hc <;> (try with_reducible refine aw_skip ?_)
    repeat with_reducible refine aw_assoc ?_
    first | with_reducible refine aw_region0 (by decide +kernel) fun K' hK => ?_ | with_reducible refine aw_toS (aw_region0 (by decide +kernel) fun K' hK => ?_)
    simp []
    first | refine hK _ _ _ ?_ | done
    clear K' hK
    repeat with_reducible refine aw_assoc ?_
    first | with_reducible refine aw_ret ?_ | with_reducible refine aw_retL ?_ | with_reducible refine aw_skipL ?_
    simp [blockK, loopK, Post, resA, res1, expT, expA, exp1, expM, expL, okT, okA, ok1, rowOf, Tryz.f13]
    simp [addR, addI, e]
    rfl
  | none =>
  have h4 : ¬ (0 : Int) ≤ atI none := by simp [atI]
  simp [h4]
  first | refine hK _ _ _ ?_ | done
  clear K' hK
  repeat with_reducible refine aw_assoc ?_
  first | with_reducible refine aw_condP fun A B hA hB => ?_ | with_reducible refine aw_toS (aw_condP fun A B hA hB => ?_)
  simp []
  refine ⟨fun hc => hA ?_, fun hc => hB ?_⟩ <;> clear hA hB A B <;> (try (simp at hc; done)) <;> (try (exfalso; simp at hc; omega)) <;> clear hc <;> (try with_reducible refine aw_skip ?_)
  by_cases c5 : (200 : Int) ≤ t.length
  · have e : addCode t n name v = 2 := by simp [addCode, c0, hlt, c3, c4, show 200 ≤ t.length by omega]
    repeat with_reducible refine aw_assoc ?_
    first | with_reducible refine aw_region0 (by decide +kernel) fun K' hK => ?_ | with_reducible refine aw_toS (aw_region0 (by decide +kernel) fun K' hK => ?_)
    simp [s0, c5]
    first | refine hK _ _ _ ?_ | done
    clear K' hK
    repeat with_reducible refine aw_assoc ?_
    first | with_reducible refine aw_condP fun A B hA hB => ?_ | with_reducible refine aw_toS (aw_condP fun A B hA hB => ?_)
    simp []
    refine ⟨fun hc => hA ?_, fun hc => hB ?_⟩ <;> clear hA hB A B <;> (try (simp at hc; done)) <;> (try (exfalso; simp at hc; omega)) <;> clear hc <;> (try with_reducible refine aw_skip ?_)
    repeat with_reducible refine aw_assoc ?_
    first | with_reducible refine aw_region0 (by decide +kernel) fun K' hK => ?_ | with_reducible refine aw_toS (aw_region0 (by decide +kernel) fun K' hK => ?_)
    simp []
    first | refine hK _ _ _ ?_ | done
    clear K' hK
    repeat with_reducible refine aw_assoc ?_
    first | with_reducible refine aw_ret ?_ | with_reducible refine aw_retL ?_ | with_reducible refine aw_skipL ?_
    simp [blockK, loopK, Post, resA, res1, expT, expA, exp1, expM, expL, okT, okA, ok1, rowOf, Tryz.f13]
    simp [addR, addI, e]
    rfl
  repeat with_reducible refine aw_assoc ?_
  first | with_reducible refine aw_region0 (by decide +kernel) fun K' hK => ?_ | with_reducible refine aw_toS (aw_region0 (by decide +kernel) fun K' hK => ?_)
  simp [s0, s1, c5]
  refine acall_flat (height39_ok t hl n hlt (g.pre hlt)) rfl (by first | rfl | (simp []; done) | (simp []; rfl) | (simp []; exact ⟨rfl, rfl⟩)) ?_
  by_cases c6 : 12 ≤ heightN t n
  · have e : addCode t n name v = 2 := by simp [addCode, c0, hlt, c3, c4, c6]
    simp [c6]
    first | refine hK _ _ _ ?_ | done
    clear K' hK
    repeat with_reducible refine aw_assoc ?_
    first | with_reducible refine aw_condP fun A B hA hB => ?_ | with_reducible refine aw_toS (aw_condP fun A B hA hB => ?_)
    simp []
    refine ⟨fun hc => hA ?_, fun hc => hB ?_⟩ <;> clear hA hB A B <;> (try (simp at hc; done)) <;> (try (exfalso; simp at hc; omega)) <;> clear hc <;> (try with_reducible refine aw_skip ?_)
    repeat with_reducible refine aw_assoc ?_
    first | with_reducible refine aw_region0 (by decide +kernel) fun K' hK => ?_ | with_reducible refine aw_toS (aw_region0 (by decide +kernel) fun K' hK => ?_)
    simp []
    first | refine hK _ _ _ ?_ | done
    clear K' hK
    repeat with_reducible refine aw_assoc ?_
    first | with_reducible refine aw_ret ?_ | with_reducible refine aw_retL ?_ | with_reducible refine aw_skipL ?_
    simp [blockK, loopK, Post, resA, res1, expT, expA, exp1, expM, expL, okT, okA, ok1, rowOf, Tryz.f13]
    simp [addR, addI, e]
    rfl
  have e : addCode t n name v = 0 := by simp [addCode, c0, hlt, c3, c4, c6]; omega
  simp [c6]
  first | refine hK _ _ _ ?_ | done
  clear K' hK
  repeat with_reducible refine aw_assoc ?_
  first | with_reducible refine aw_condP fun A B hA hB => ?_ | with_reducible refine aw_toS (aw_condP fun A B hA hB => ?_)
  simp []
  refine ⟨fun hc => hA ?_, fun hc => hB ?_⟩ <;> clear hA hB A B <;> (try (simp at hc; done)) <;> (try (exfalso; simp at hc; omega)) <;> clear hc <;> (try with_reducible refine aw_skip ?_)
  repeat with_reducible refine aw_assoc ?_
  first | with_reducible refine aw_region0 (by decide +kernel) fun K' hK => ?_ | with_reducible refine aw_toS (aw_region0 (by decide +kernel) fun K' hK => ?_)
  simp [s0]
  refine acall_new (own11_ok t hl) (by first | rfl | (simp []; done) | (simp []; rfl) | (simp []; exact ⟨rfl, rfl⟩)) ?_
  simp [addJ_one]
  first | refine hK _ _ _ ?_ | done
  clear K' hK
  have b1 : t.length + 1 ≤ 9223372036854775807 := by omega
  have b2 : (t.length + 1) * 64 ≤ 140737488355328 := by omega
  repeat with_reducible refine aw_assoc ?_
  first | with_reducible refine aw_region0 (by decide +kernel) fun K' hK => ?_ | with_reducible refine aw_toS (aw_region0 (by decide +kernel) fun K' hK => ?_)
  simp [s1, s2, s7, g0, b1, b2, treeOf_row, srcOf_row, Ver.cells, src_sl]
  first | refine hK _ _ _ ?_ | done
  clear K' hK
  repeat with_reducible refine aw_assoc ?_
  first | with_reducible refine aw_region0 (by decide +kernel) fun K' hK => ?_ | with_reducible refine aw_toS (aw_region0 (by decide +kernel) fun K' hK => ?_)
  simp [s0]
  first | refine hK _ _ _ ?_ | done
  clear K' hK
  repeat with_reducible refine aw_assoc ?_
  first | with_reducible refine aw_ret ?_ | with_reducible refine aw_retL ?_ | with_reducible refine aw_skipL ?_
  simp [blockK, loopK, Post, resA, res1, expT, expA, exp1, expM, expL, okT, okA, ok1, rowOf, Tryz.f13]
  have e1 : addR t n name v = t ++ [⟨n, name, v⟩] := by rw [addR, if_pos e]; rfl
  refine ⟨[4], ⟨⟨by rw [e1]; simp, by rw [addI, if_pos e], e.symm⟩, rfl⟩, ?_⟩
  rw [e1, ← flat_snoc]
  rfl
theorem without41_ok (t : List Pl) (g : Good t) (ht : OKs t) (n : Nat) (hn1 : 1 ≤ n) (hn : n < t.length) : CallsOK Tryz.prog 41 [rowT Pl.cells t, iV n] (.row 0 (cutT t n t.length).length) [(34, flat Pl.cells (cutT t n t.length))] := by
  refine callsOK mixed Tryz.call41 Tryz.func41 rfl (by rw [Tryz.ntmps41]; simp) ?_ rfl
  rw [Tryz.ntmps41]
  have hl := ht.1
  repeat with_reducible refine aw_assoc ?_
  first | with_reducible refine aw_region0 (by decide +kernel) fun K' hK => ?_ | with_reducible refine aw_toS (aw_region0 (by decide +kernel) fun K' hK => ?_)
  simp []
  first | refine hK _ _ _ ?_ | done
  clear K' hK
  repeat with_reducible refine aw_assoc ?_
  first | with_reducible refine aw_region0 (by decide +kernel) fun K' hK => ?_ | with_reducible refine aw_toS (aw_region0 (by decide +kernel) fun K' hK => ?_)
  simp []
  first | refine hK _ _ _ ?_ | done
  clear K' hK
  have hmk : evMake Tryz.prog ((Hp.upd (fun _ => none) 0 (.row 34 [])).upd 1 (.row 34 [])) 2 48 (iV t.length) (iV t.length) = some (.row 2 t.length, ((Hp.upd (fun _ => none) 0 (.row 34 [])).upd 1 (.row 34 [])).upd 2 (.row 3 (flat iC (List.replicate t.length 0))), 3) := by
    simp only [evMake, elI48]
    rw [if_pos ⟨trivial, by omega, by omega, by omega⟩, Int.toNat_natCast, made_iC]
  repeat with_reducible refine aw_assoc ?_
  first | with_reducible refine aw_region0 (by decide +kernel) fun K' hK => ?_ | with_reducible refine aw_toS (aw_region0 (by decide +kernel) fun K' hK => ?_)
  simp [hmk]
  first | refine hK _ _ _ ?_ | done
  clear K' hK
  repeat with_reducible refine aw_assoc ?_
  first | with_reducible refine aw_region0 (by decide +kernel) fun K' hK => ?_ | with_reducible refine aw_toS (aw_region0 (by decide +kernel) fun K' hK => ?_)
  simp []
  first | refine hK _ _ _ ?_ | done
  clear K' hK
  repeat with_reducible refine aw_assoc ?_
  first | with_reducible refine aw_block ?_ | with_reducible refine aw_toS (aw_block ?_)
  refine aw_loop (fun s G nx => s 0 = rowT Pl.cells t ∧ s 1 = iV n ∧ s 6 = .row 2 t.length ∧ 3 ≤ nx ∧ ∃ (k r : Nat) (ν : List Int), s 7 = iV k ∧ k ≤ t.length ∧ s 5 = .row r (cutT t n k).length ∧ G r = some (.row 34 (flat Pl.cells (cutT t n k))) ∧ r ≠ 2 ∧ r < nx ∧ G 2 = some (.row 3 (flat iC ν)) ∧ ν.length = t.length ∧ ∀ j, j < k → underF t j n = false → nth ν j = rkN t n j) (fun s _ _ => match s 7 with | .v (.int _ n) => t.length - n.toNat | _ => 0) ?_ ?_
  · exact ⟨by simp, by simp, by simp, by omega, 0, 1, List.replicate t.length 0, by simp, by omega, by simp [cutT, keptN], by simp [cutT, keptN], by omega, by omega, by simp, by simp, fun j hj => by omega⟩
  · rintro s G nx - ⟨s0, s1, s6, hnx, k, r, ν, s7, hk, s5, hr, hr2, hrn, h2, hν, hval⟩
    have hw : IntKind.i64.wrap (↑k + 1) = ((k + 1 : Nat) : Int) := wrapS (by omega)
    have o7 := s7
    repeat with_reducible refine aw_assoc ?_
    first | with_reducible refine aw_region0 (by decide +kernel) fun K' hK => ?_ | with_reducible refine aw_toS (aw_region0 (by decide +kernel) fun K' hK => ?_)
    simp [s0, s7]
    first | refine hK _ _ _ ?_ | done
    clear K' hK
    repeat with_reducible refine aw_assoc ?_
    first | with_reducible refine aw_condP fun A B hA hB => ?_ | with_reducible refine aw_toS (aw_condP fun A B hA hB => ?_)
    simp []
    refine ⟨fun hi2 => hA ?_, fun hi2 => hB ?_⟩ <;> clear hA hB A B <;> (try simp at hi2) <;> (try with_reducible refine aw_skip ?_)
    · repeat with_reducible refine aw_assoc ?_
      first | with_reducible refine aw_block ?_ | with_reducible refine aw_toS (aw_block ?_)
      repeat with_reducible refine aw_assoc ?_
      first | with_reducible refine aw_region0 (by decide +kernel) fun K' hK => ?_ | with_reducible refine aw_toS (aw_region0 (by decide +kernel) fun K' hK => ?_)
      simp [s0, s1, s7]
      refine acall_flat (under50_ok t g k hi2 n) rfl (by first | rfl | (simp []; done) | (simp []; rfl) | (simp []; exact ⟨rfl, rfl⟩)) ?_
      simp
      first | refine hK _ _ _ ?_ | done
      clear K' hK
      cases hun : underF t k n with
      | true =>
        have e1 : keptN t n (k + 1) = keptN t n k := by rw [kept_succ, hun]; simp
        have e2 : cutT t n (k + 1) = cutT t n k := by rw [cutT, e1]; rfl
        repeat with_reducible refine aw_assoc ?_
        first | with_reducible refine aw_condP fun A B hA hB => ?_ | with_reducible refine aw_toS (aw_condP fun A B hA hB => ?_)
        simp []
        refine ⟨fun hc => hA ?_, fun hc => hB ?_⟩ <;> clear hA hB A B <;> (try (simp at hc; done)) <;> (try (exfalso; simp at hc; omega)) <;> clear hc <;> (try with_reducible refine aw_skip ?_)
        refine aw_exit (blockK_exit ?_)
        repeat with_reducible refine aw_assoc ?_
        first | with_reducible refine aw_region0 (by decide +kernel) fun K' hK => ?_ | with_reducible refine aw_toS (aw_region0 (by decide +kernel) fun K' hK => ?_)
        simp [s7, hw]
        first | refine hK _ _ _ ?_ | done
        clear K' hK
        refine aw_skipL (loopK_normal ?_ ?_)
        · refine ⟨by simp [s0], by simp [s1], by simp [s6], hnx, k + 1, r, ν, by simp [hw], by omega, by rw [e2]; simp [s5], by rw [e2]; exact hr, hr2, hrn, h2, hν, fun j hj hu => ?_⟩
          rcases Nat.lt_or_ge j k with h | h
          · exact hval j h hu
          · have : j = k := by omega
            subst this
            rw [hun] at hu; cases hu
        · simp [o7, hw]; omega
      | false =>
        repeat with_reducible refine aw_assoc ?_
        first | with_reducible refine aw_condP fun A B hA hB => ?_ | with_reducible refine aw_toS (aw_condP fun A B hA hB => ?_)
        simp []
        refine ⟨fun hc => hA ?_, fun hc => hB ?_⟩ <;> clear hA hB A B <;> (try (simp at hc; done)) <;> (try (exfalso; simp at hc; omega)) <;> clear hc <;> (try with_reducible refine aw_skip ?_)
        generalize hp : nth t k = p
        have hpp : p.par = parN t k := by rw [← hp]; rfl
        have hL : (cutT t n k).length = rkN t n k := cut_len
        have hle := kept_le (t := t) (i := n) (k := k)
        have hlt : (cutT t n k).length ≤ k := by rw [cutT_len]; exact hle
        have hcell : iV (renum t n (parN t k)) :: p.cells.tail = (cutP t n k).cells := by rw [← hp]; rfl
        have hT : cutT t n (k + 1) = cutT t n k ++ [cutP t n k] := by
          have hk1 : keptN t n (k + 1) = keptN t n k ++ [k] := by rw [kept_succ, hun]; rfl
          rw [cutT, cutT, hk1, List.map_append]; rfl
        repeat with_reducible refine aw_assoc ?_
        refine aw_cut (fun u H ny => u 0 = rowT Pl.cells t ∧ u 1 = iV n ∧ u 5 = .row r (cutT t n k).length ∧ u 6 = .row 2 t.length ∧ u 7 = iV k ∧ u 8 = .ptr nx 0 ∧ ny = nx + 1 ∧ H r = some (.row 34 (flat Pl.cells (cutT t n k))) ∧ H 2 = some (.row 3 (flat iC ν)) ∧ H nx = some (.var 34 p.cells)) ?_ ?_
        · repeat with_reducible refine aw_assoc ?_
          first | with_reducible refine aw_region0 (by decide +kernel) fun K' hK => ?_ | with_reducible refine aw_toS (aw_region0 (by decide +kernel) fun K' hK => ?_)
          simp [s0, s7, hi2, hp]
          first | refine hK _ _ _ ?_ | done
          clear K' hK
          with_reducible refine aw_end ?_
          exact ⟨by simp [s0], by simp [s1], by simp [s5], by simp [s6], by simp [s7], by simp, rfl, by (repeat rw [Hp.upd_ne _ _ (by omega)]); exact hr, by (repeat rw [Hp.upd_ne _ _ (by omega)]); exact h2, by simp⟩
        rintro u H ny ⟨u0, u1, u5, u6, u7, u8, rfl, hr, h2, hx⟩
        repeat with_reducible refine aw_assoc ?_
        with_reducible refine aw_un ?_
        refine aw_cut (fun u H ny => u 0 = rowT Pl.cells t ∧ u 1 = iV n ∧ u 5 = .row r (cutT t n k).length ∧ u 6 = .row 2 t.length ∧ u 7 = iV k ∧ u 8 = .ptr nx 0 ∧ ny = nx + 1 ∧ H r = some (.row 34 (flat Pl.cells (cutT t n k))) ∧ H 2 = some (.row 3 (flat iC ν)) ∧ H nx = some (.var 34 (cutP t n k).cells)) ?_ ?_
        · by_cases hk0 : (0 : Int) < k
          · have hpar := g.par k (by omega) hi2
            obtain ⟨q, hq⟩ : ∃ q : Nat, parN t k = q := ⟨(parN t k).toNat, by omega⟩
            have hpq : p.par = q := by rw [hpp, hq]
            have huq := under_par g hi2 (by omega) hun
            rw [hq, Int.toNat_natCast] at huq
            have hvq := hval q (by omega) huq
            have hq3 : q < ν.length := by omega
            have hq4 : q < t.length := by omega
            have hren : renum t n (parN t k) = rkN t n q := by rw [hq, renum_nn (by omega), Int.toNat_natCast]
            rw [hren] at hcell
            have n2 : ¬ nx = 2 := by omega
            have n3 : ¬ 2 = nx := by omega
            repeat with_reducible refine aw_assoc ?_
            first | with_reducible refine aw_region0 (by decide +kernel) fun K' hK => ?_ | with_reducible refine aw_toS (aw_region0 (by decide +kernel) fun K' hK => ?_)
            simp [u7, hk0]
            first | refine hK _ _ _ ?_ | done
            clear K' hK
            repeat with_reducible refine aw_assoc ?_
            first | with_reducible refine aw_condP fun A B hA hB => ?_ | with_reducible refine aw_toS (aw_condP fun A B hA hB => ?_)
            simp []
            refine ⟨fun hc => hA ?_, fun hc => hB ?_⟩ <;> clear hA hB A B <;> (try (simp at hc; done)) <;> (try (exfalso; simp at hc; omega)) <;> clear hc <;> (try with_reducible refine aw_skip ?_)
            repeat with_reducible refine aw_assoc ?_
            first | with_reducible refine aw_region0 (by decide +kernel) fun K' hK => ?_ | with_reducible refine aw_toS (aw_region0 (by decide +kernel) fun K' hK => ?_)
            simp [u6, u8, hx, hpq, h2, hq3, hq4, hvq, n2, n3, hcell]
            first | refine hK _ _ _ ?_ | done
            clear K' hK
            with_reducible refine aw_end ?_
            exact ⟨by simp [u0], by simp [u1], by simp [u5], by simp [u6], by simp [u7], by simp [u8], rfl, by (repeat rw [Hp.upd_ne _ _ (by omega)]); exact hr, by (repeat rw [Hp.upd_ne _ _ (by omega)]); exact h2, by simp⟩
          · have : k = 0 := by omega
            subst this
            have hren : renum t n (parN t 0) = p.par := by rw [hpp, root_par g.root]; rfl
            rw [hren] at hcell
            have hc2 : p.cells = (cutP t n 0).cells := hcell
            repeat with_reducible refine aw_assoc ?_
            first | with_reducible refine aw_region0 (by decide +kernel) fun K' hK => ?_ | with_reducible refine aw_toS (aw_region0 (by decide +kernel) fun K' hK => ?_)
            simp [u7]
            first | refine hK _ _ _ ?_ | done
            clear K' hK
            repeat with_reducible refine aw_assoc ?_
            first | with_reducible refine aw_condP fun A B hA hB => ?_ | with_reducible refine aw_toS (aw_condP fun A B hA hB => ?_)
            simp []
            refine ⟨fun hc => hA ?_, fun hc => hB ?_⟩ <;> clear hA hB A B <;> (try (simp at hc; done)) <;> (try (exfalso; simp at hc; omega)) <;> clear hc <;> (try with_reducible refine aw_skip ?_)
            with_reducible refine aw_end ?_
            rw [← hc2]
            exact ⟨by simp [u0], by simp [u1], by simp [u5], by simp [u6], by simp [u7], by simp [u8], rfl, hr, h2, hx⟩
        rintro u H ny ⟨u0, u1, u5, u6, u7, u8, rfl, hr, h2, hx⟩
        have b1 : (cutT t n k).length + 1 ≤ 9223372036854775807 := by omega
        have b2 : ((cutT t n k).length + 1) * 64 ≤ 140737488355328 := by omega
        have hkν : k < ν.length := by omega
        have hput : putO (flat iC ν) 1 k 0 [iV (cutT t n k).length] = flat iC (ν.set k (cutT t n k).length) := putO_flat hkν _
        have n2 : ¬ nx = 2 := by omega
        have n3 : ¬ 2 = nx := by omega
        have n4 : ¬ r = nx := by omega
        have n5 : ¬ nx = r := by omega
        have n6 : ¬ r = 2 := hr2
        have n7 : ¬ 2 = r := fun h => hr2 h.symm
        have n8 : ¬ r = nx + 1 := by omega
        have n9 : ¬ 2 = nx + 1 := by omega
        have na : ¬ nx + 1 = 2 := by omega
        repeat with_reducible refine aw_assoc ?_
        first | with_reducible refine aw_region0 (by decide +kernel) fun K' hK => ?_ | with_reducible refine aw_toS (aw_region0 (by decide +kernel) fun K' hK => ?_)
        simp [u5, u6, u7, hr, h2, hi2, hkν, hput, n6, n7]
        first | refine hK _ _ _ ?_ | done
        clear K' hK
        repeat with_reducible refine aw_assoc ?_
        first | with_reducible refine aw_region0 (by decide +kernel) fun K' hK => ?_ | with_reducible refine aw_toS (aw_region0 (by decide +kernel) fun K' hK => ?_)
        simp [u5, u8, hx, hr, n2, n3, n4, n5, n6, n7, n8, n9, b1, b2, treeOf_row, srcOf_row]
        first | refine hK _ _ _ ?_ | done
        clear K' hK
        first | with_reducible refine aw_skipL ?_ | skip
        refine blockK_normal ?_
        repeat with_reducible refine aw_assoc ?_
        first | with_reducible refine aw_region0 (by decide +kernel) fun K' hK => ?_ | with_reducible refine aw_toS (aw_region0 (by decide +kernel) fun K' hK => ?_)
        simp [u7, hw]
        first | refine hK _ _ _ ?_ | done
        clear K' hK
        refine aw_skipL (loopK_normal ?_ ?_)
        · refine ⟨by simp [u0], by simp [u1], by simp [u6], by omega, k + 1, nx + 1 + 1, ν.set k (cutT t n k).length, by simp [hw], by omega, ?_, ?_, by omega, by omega, ?_, by simpa using hν, fun j hj hu => ?_⟩
          · rw [hT]; simp
          · rw [hT, Hp.upd_self, ← flat_snoc]
          · rw [Hp.upd_ne _ _ (by omega), Hp.upd_ne _ _ n7, Hp.upd_ne _ _ n9, Hp.upd_self]
          · rw [nth_setG hkν]
            by_cases h : j = k
            · rw [if_pos h, h, hL]
            · rw [if_neg h]
              exact hval j (by omega) hu
        · simp [o7, hw]; omega
    · repeat with_reducible refine aw_assoc ?_
      first | with_reducible refine aw_exit ?_ | with_reducible refine aw_exitL ?_
      refine loopK_exit (blockK_exit ?_)
      have : k = t.length := by omega
      subst this
      repeat with_reducible refine aw_assoc ?_
      first | with_reducible refine aw_region0 (by decide +kernel) fun K' hK => ?_ | with_reducible refine aw_toS (aw_region0 (by decide +kernel) fun K' hK => ?_)
      simp [s5]
      first | refine hK _ _ _ ?_ | done
      clear K' hK
      repeat with_reducible refine aw_assoc ?_
      first | with_reducible refine aw_ret ?_ | with_reducible refine aw_retL ?_ | with_reducible refine aw_skipL ?_
      simp [blockK, loopK, Post, resA, res1, expT, expA, exp1, expM, expL, okT, okA, ok1, rowOf, Tryz.f41, hr]
theorem cut15_ok (t : List Pl) (ht : OKs t) (i : Int) : CallsOK Tryz.prog 15 [rowT Pl.cells t, iV i] (.tup [.row 0 (cutR t i).length, iV (cutCode t i)]) [(34, flat Pl.cells (cutR t i))] := by
  refine callsOK mixed Tryz.call15 Tryz.func15 rfl (by rw [Tryz.ntmps15]; simp) ?_ rfl
  rw [Tryz.ntmps15]
  repeat with_reducible refine aw_assoc ?_
  first | with_reducible refine aw_region0 (by decide +kernel) fun K' hK => ?_ | with_reducible refine aw_toS (aw_region0 (by decide +kernel) fun K' hK => ?_)
  simp []
  first | refine hK _ _ _ ?_ | done
  clear K' hK
  repeat with_reducible refine aw_assoc ?_
  first | with_reducible refine aw_region0 (by decide +kernel) fun K' hK => ?_ | with_reducible refine aw_toS (aw_region0 (by decide +kernel) fun K' hK => ?_)
  simp []
  refine acall_flat (check25_ok t ht) rfl (by first | rfl | (simp []; done) | (simp []; rfl) | (simp []; exact ⟨rfl, rfl⟩)) ?_
  simp
  first | refine hK _ _ _ ?_ | done
  clear K' hK
  by_cases c0 : checkN t = 0
  case neg =>
    have e1 : cutCode t i = checkN t := by simp [cutCode, c0]
    have e2 : cutR t i = [] := by rw [cutR, e1, if_neg c0]
    repeat with_reducible refine aw_assoc ?_
    first | with_reducible refine aw_region0 (by decide +kernel) fun K' hK => ?_ | with_reducible refine aw_toS (aw_region0 (by decide +kernel) fun K' hK => ?_)
    simp [c0]
    first | refine hK _ _ _ ?_ | done
    clear K' hK
    repeat with_reducible refine aw_assoc ?_
    first | with_reducible refine aw_condP fun A B hA hB => ?_ | with_reducible refine aw_toS (aw_condP fun A B hA hB => ?_)
    simp []
    refine ⟨fun hc => hA ?_, fun hc => hB ?_⟩ <;> clear hA hB A B <;> (try (simp at hc; done)) <;> (try (exfalso; simp at hc; omega)) <;> clear hc <;> (try with_reducible refine aw_skip ?_)
    repeat with_reducible refine aw_assoc ?_
    first | with_reducible refine aw_region0 (by decide +kernel) fun K' hK => ?_ | with_reducible refine aw_toS (aw_region0 (by decide +kernel) fun K' hK => ?_)
    simp []
    first | refine hK _ _ _ ?_ | done
    clear K' hK
    repeat with_reducible refine aw_assoc ?_
    first | with_reducible refine aw_ret ?_ | with_reducible refine aw_retL ?_ | with_reducible refine aw_skipL ?_
    simp [blockK, loopK, Post, resA, res1, expT, expA, exp1, expM, expL, okT, okA, ok1, rowOf, Tryz.f15]
    rw [e1, e2]
    simp
    rfl
  have g := check_iff.1 c0
  repeat with_reducible refine aw_assoc ?_
  first | with_reducible refine aw_region0 (by decide +kernel) fun K' hK => ?_ | with_reducible refine aw_toS (aw_region0 (by decide +kernel) fun K' hK => ?_)
  simp [c0]
  first | refine hK _ _ _ ?_ | done
  clear K' hK
  repeat with_reducible refine aw_assoc ?_
  first | with_reducible refine aw_condP fun A B hA hB => ?_ | with_reducible refine aw_toS (aw_condP fun A B hA hB => ?_)
  simp []
  refine ⟨fun hc => hA ?_, fun hc => hB ?_⟩ <;> clear hA hB A B <;> (try (simp at hc; done)) <;> (try (exfalso; simp at hc; omega)) <;> clear hc <;> (try with_reducible refine aw_skip ?_)
  by_cases c1 : i < 1
  · have e1 : cutCode t i = 151 := by simp [cutCode, c0]; omega
    have e2 : cutR t i = [] := by rw [cutR, e1]; rfl
    repeat with_reducible refine aw_assoc ?_
    first | with_reducible refine aw_region0 (by decide +kernel) fun K' hK => ?_ | with_reducible refine aw_toS (aw_region0 (by decide +kernel) fun K' hK => ?_)
    simp [c1]
    first | refine hK _ _ _ ?_ | done
    clear K' hK
    repeat with_reducible refine aw_assoc ?_
    first | with_reducible refine aw_condP fun A B hA hB => ?_ | with_reducible refine aw_toS (aw_condP fun A B hA hB => ?_)
    simp []
    refine ⟨fun hc => hA ?_, fun hc => hB ?_⟩ <;> clear hA hB A B <;> (try (simp at hc; done)) <;> (try (exfalso; simp at hc; omega)) <;> clear hc <;> (try with_reducible refine aw_skip ?_)
    repeat with_reducible refine aw_assoc ?_
    first | with_reducible refine aw_region0 (by decide +kernel) fun K' hK => ?_ | with_reducible refine aw_toS (aw_region0 (by decide +kernel) fun K' hK => ?_)
    simp []
    first | refine hK _ _ _ ?_ | done
    clear K' hK
    repeat with_reducible refine aw_assoc ?_
    first | with_reducible refine aw_ret ?_ | with_reducible refine aw_retL ?_ | with_reducible refine aw_skipL ?_
    simp [blockK, loopK, Post, resA, res1, expT, expA, exp1, expM, expL, okT, okA, ok1, rowOf, Tryz.f15]
    rw [e1, e2]
    simp
    rfl
  by_cases c2 : (t.length : Int) ≤ i
  · have e1 : cutCode t i = 151 := by simp [cutCode, c0]; omega
    have e2 : cutR t i = [] := by rw [cutR, e1]; rfl
    repeat with_reducible refine aw_assoc ?_
    first | with_reducible refine aw_region0 (by decide +kernel) fun K' hK => ?_ | with_reducible refine aw_toS (aw_region0 (by decide +kernel) fun K' hK => ?_)
    simp [c1, c2]
    first | refine hK _ _ _ ?_ | done
    clear K' hK
    repeat with_reducible refine aw_assoc ?_
    first | with_reducible refine aw_condP fun A B hA hB => ?_ | with_reducible refine aw_toS (aw_condP fun A B hA hB => ?_)
    simp []
    refine ⟨fun hc => hA ?_, fun hc => hB ?_⟩ <;> clear hA hB A B <;> (try (simp at hc; done)) <;> (try (exfalso; simp at hc; omega)) <;> clear hc <;> (try with_reducible refine aw_skip ?_)
    repeat with_reducible refine aw_assoc ?_
    first | with_reducible refine aw_region0 (by decide +kernel) fun K' hK => ?_ | with_reducible refine aw_toS (aw_region0 (by decide +kernel) fun K' hK => ?_)
    simp []
    first | refine hK _ _ _ ?_ | done
    clear K' hK
    repeat with_reducible refine aw_assoc ?_
    first | with_reducible refine aw_ret ?_ | with_reducible refine aw_retL ?_ | with_reducible refine aw_skipL ?_
    simp [blockK, loopK, Post, resA, res1, expT, expA, exp1, expM, expL, okT, okA, ok1, rowOf, Tryz.f15]
    rw [e1, e2]
    simp
    rfl
  obtain ⟨n, rfl⟩ : ∃ n : Nat, i = n := ⟨i.toNat, by omega⟩
  have e1 : cutCode t n = 0 := by
    have h1 : 1 ≤ (n : Int) ∧ (n : Int) < t.length := by omega
    rw [cutCode, if_neg (by simp [c0]), if_pos h1]
  have e2 : cutR t n = cutT t n t.length := by rw [cutR, e1]; rfl
  repeat with_reducible refine aw_assoc ?_
  first | with_reducible refine aw_region0 (by decide +kernel) fun K' hK => ?_ | with_reducible refine aw_toS (aw_region0 (by decide +kernel) fun K' hK => ?_)
  simp [c1, c2]
  first | refine hK _ _ _ ?_ | done
  clear K' hK
  repeat with_reducible refine aw_assoc ?_
  first | with_reducible refine aw_condP fun A B hA hB => ?_ | with_reducible refine aw_toS (aw_condP fun A B hA hB => ?_)
  simp []
  refine ⟨fun hc => hA ?_, fun hc => hB ?_⟩ <;> clear hA hB A B <;> (try (simp at hc; done)) <;> (try (exfalso; simp at hc; omega)) <;> clear hc <;> (try with_reducible refine aw_skip ?_)
  repeat with_reducible refine aw_assoc ?_
  first | with_reducible refine aw_region0 (by decide +kernel) fun K' hK => ?_ | with_reducible refine aw_toS (aw_region0 (by decide +kernel) fun K' hK => ?_)
  simp []
  refine acall_new (without41_ok t g ht n (by omega) (by omega)) (by first | rfl | (simp []; done) | (simp []; rfl) | (simp []; exact ⟨rfl, rfl⟩)) ?_
  simp [addJ_one]
  first | refine hK _ _ _ ?_ | done
  clear K' hK
  repeat with_reducible refine aw_assoc ?_
  first | with_reducible refine aw_ret ?_ | with_reducible refine aw_retL ?_ | with_reducible refine aw_skipL ?_
  simp [blockK, loopK, Post, resA, res1, expT, expA, exp1, expM, expL, okT, okA, ok1, rowOf, Tryz.f15]
  rw [e1, e2]
  exact ⟨[1], ⟨⟨rfl, rfl⟩, rfl⟩, rfl⟩
end Go.Proofs.YtomidniaekeafaaGreatDoorAbs
/- TreeMakes. -/
namespace Go.Proofs.YtomidniaekeafaaGreatDoorAbs
set_option linter.unusedSimpArgs false
set_option linter.unusedVariables false
open Go Go.RowKit Go.Proofs
set_option maxRecDepth 100000
set_option maxHeartbeats 1000000
theorem putO_fld {α : Type} [Inhabited α] {c : α → List AV} {w : Nat} [Wid c w] {l : List α} {i f : Nat} {ts : List AV} {a : α} (h : i < l.length) (hf : f + ts.length ≤ w) (ha : c a = splice (c (nth l i)) f ts) : putO (flat c l) w i f ts = flat c (l.set i a) := by
  unfold putO
  unfold splice at ha ⊢
  unfold flat
  induction l generalizing i with
  | nil => simp at h
  | cons b l ih =>
    have hb : (c b).length = w := Wid.len b
    cases i with
    | zero =>
      have e : nth (b :: l) 0 = b := rfl
      rw [e] at ha
      rw [List.flatMap_cons, List.set_cons_zero, List.flatMap_cons, ha, Nat.zero_mul, Nat.zero_add]
      rw [List.take_append_of_le_length (by omega), List.drop_append_of_le_length (by omega)]
      simp
    | succ i =>
      have e : nth (b :: l) (i + 1) = nth l i := rfl
      rw [e] at ha
      have ih := ih (i := i) (by simpa using h) ha
      rw [List.flatMap_cons, List.set_cons_succ, List.flatMap_cons, ← ih]
      have e1 : (i + 1) * w + f = w + (i * w + f) := by rw [Nat.add_mul]; omega
      rw [e1, List.take_append, List.drop_append, hb]
      rw [List.take_of_length_le (by omega), List.drop_eq_nil_of_le (by omega)]
      have e2 : w + (i * w + f) - w = i * w + f := by omega
      have e3 : w + (i * w + f) + ts.length - w = i * w + f + ts.length := by omega
      rw [e2, e3]; simp
def smB : Bs := ⟨#[115, 109, 117, 100, 103, 101]⟩
theorem put_name {l : List Pl} {i : Nat} (h : i < l.length) : putO (flat Pl.cells l) 6 i 1 [sV smB] = flat Pl.cells (l.set i { nth l i with name := smB }) :=
  putO_fld h (by decide) rfl
theorem makes3_ok (t : List Pl) (i : Int) (name : Bs) (v : Ver) (hl : t.length ≤ 9223372036854775807) : CallsOK Tryz.prog 3 [rowT Pl.cells t, iV i, sV name, .agg v.cells] (bV true) [] := by
  refine callsOK mixed Tryz.call3 Tryz.func3 rfl (by rw [Tryz.ntmps3]; simp) ?_ rfl
  rw [Tryz.ntmps3]
  repeat with_reducible refine aw_assoc ?_
  first | with_reducible refine aw_region0 (by decide +kernel) fun K' hK => ?_ | with_reducible refine aw_toS (aw_region0 (by decide +kernel) fun K' hK => ?_)
  simp []
  first | refine hK _ _ _ ?_ | done
  clear K' hK
  repeat with_reducible refine aw_assoc ?_
  first | with_reducible refine aw_region0 (by decide +kernel) fun K' hK => ?_ | with_reducible refine aw_toS (aw_region0 (by decide +kernel) fun K' hK => ?_)
  simp []
  refine acall_flat (large10_ok t name v hl) rfl (by first | rfl | (simp []; done) | (simp []; rfl) | (simp []; exact ⟨rfl, rfl⟩)) ?_
  cases hlg : largeF t name v with
  | true =>
    simp
    first | refine hK _ _ _ ?_ | done
    clear K' hK
    repeat with_reducible refine aw_assoc ?_
    first | with_reducible refine aw_condP fun A B hA hB => ?_ | with_reducible refine aw_toS (aw_condP fun A B hA hB => ?_)
    simp []
    refine ⟨fun hc => hA ?_, fun hc => hB ?_⟩ <;> clear hA hB A B <;> (try (simp at hc; done)) <;> (try (exfalso; simp at hc; omega)) <;> clear hc <;> (try with_reducible refine aw_skip ?_)
    repeat with_reducible refine aw_assoc ?_
    first | with_reducible refine aw_region0 (by decide +kernel) fun K' hK => ?_ | with_reducible refine aw_toS (aw_region0 (by decide +kernel) fun K' hK => ?_)
    simp []
    first | refine hK _ _ _ ?_ | done
    clear K' hK
    repeat with_reducible refine aw_assoc ?_
    first | with_reducible refine aw_ret ?_ | with_reducible refine aw_retL ?_ | with_reducible refine aw_skipL ?_
    simp [blockK, loopK, Post, resA, res1, expT, expA, exp1, expM, expL, okT, okA, ok1, rowOf, Tryz.f3]
  | false =>
    obtain ⟨ht, hn, hv⟩ := large_not hlg
    have hA := add12_ok t ht i name v (by omega) (by omega)
    have hB := add13_ok t ht i name v (by omega) (by omega)
    have hC := cut14_ok t ht i
    have hD := cut15_ok t ht i
    have hta := (oks_addR (i := i) ht (b := name) (v := v) (by omega) (by omega)).1
    have htc := (oks_cutR (i := i) ht).1
    generalize addR t i name v = a at hA hB hta
    generalize addI t i name v = ai at hA hB
    generalize addCode t i name v = ac at hA hB
    generalize cutR t i = c at hC hD htc
    generalize cutCode t i = cc at hC hD
    simp
    first | refine hK _ _ _ ?_ | done
    clear K' hK
    repeat with_reducible refine aw_assoc ?_
    first | with_reducible refine aw_condP fun A B hA hB => ?_ | with_reducible refine aw_toS (aw_condP fun A B hA hB => ?_)
    simp []
    refine ⟨fun hc => hA ?_, fun hc => hB ?_⟩ <;> clear hA hB A B <;> (try (simp at hc; done)) <;> (try (exfalso; simp at hc; omega)) <;> clear hc <;> (try with_reducible refine aw_skip ?_)
    repeat with_reducible refine aw_assoc ?_
    first | with_reducible refine aw_region0 (by decide +kernel) fun K' hK => ?_ | with_reducible refine aw_toS (aw_region0 (by decide +kernel) fun K' hK => ?_)
    simp []
    refine acall_new (own11_ok t ht.1) (by first | rfl | (simp []; done) | (simp []; rfl) | (simp []; exact ⟨rfl, rfl⟩)) ?_
    simp [addJ_one]
    first | refine hK _ _ _ ?_ | done
    clear K' hK
    repeat with_reducible refine aw_assoc ?_
    first | with_reducible refine aw_region0 (by decide +kernel) fun K' hK => ?_ | with_reducible refine aw_toS (aw_region0 (by decide +kernel) fun K' hK => ?_)
    simp []
    refine acall_new hA (by first | rfl | (simp []; done) | (simp []; rfl) | (simp []; exact ⟨rfl, rfl⟩)) ?_
    simp [addJ_one]
    first | refine hK _ _ _ ?_ | done
    clear K' hK
    refine aw_gen (fun s G nx => nx = 3 ∧ s 0 = rowT Pl.cells t ∧ s 1 = iV i ∧ s 2 = sV name ∧ s 7 = .ptr 0 0 ∧ s 9 = .row 1 t.length ∧ s 10 = .row 2 a.length ∧ s 11 = iV ai ∧ s 12 = iV ac ∧ G 0 = some (.var 24 v.cells) ∧ OwnAt G 1 t ∧ G 2 = some (.row 34 (flat Pl.cells a))) ?_ ?_
    · simp
      exact .inl (by simp)
    rintro s G nx ⟨rfl, s0, s1, s2, s7, s9, s10, s11, s12, g0, hown, g2⟩
    obtain ⟨G2, he, hown2, hk⟩ := hown.frz (n := t.length)
    repeat with_reducible refine aw_assoc ?_
    first | with_reducible refine aw_region0 (by decide +kernel) fun K' hK => ?_ | with_reducible refine aw_toS (aw_region0 (by decide +kernel) fun K' hK => ?_)
    simp [s9, s1, s2, s7, g0]
    refine acall_new hB (by first | rfl | (simp [hown.tree]; done) | (simp [hown.tree]; rfl) | (simp [hown.tree]; exact ⟨rfl, rfl⟩)) ?_
    simp [addJ_one, hown.tree, he]
    first | refine hK _ _ _ ?_ | done
    clear K' hK
    refine aw_gen (fun s G nx => nx = 4 ∧ s 0 = rowT Pl.cells t ∧ s 1 = iV i ∧ s 9 = .row 1 t.length ∧ s 10 = .row 2 a.length ∧ s 11 = iV ai ∧ s 12 = iV ac ∧ s 13 = .row 3 a.length ∧ s 14 = iV ai ∧ s 15 = iV ac ∧ OwnAt G 1 t ∧ G 2 = some (.row 34 (flat Pl.cells a)) ∧ G 3 = some (.row 34 (flat Pl.cells a))) ?_ ?_
    · simp [s0, s1, s9, s10, s11, s12]
      refine ⟨?_, by rw [hk 2 (by omega)]; exact g2⟩
      rcases hown2 with h | h
      · exact .inl (by simp [h])
      · exact .inr (by simp [h])
    clear hown hown2 he hk
    rintro s G nx ⟨rfl, s0, s1, s9, s10, s11, s12, s13, s14, s15, hown, g2, g3⟩
    repeat with_reducible refine aw_assoc ?_
    first | with_reducible refine aw_region0 (by decide +kernel) fun K' hK => ?_ | with_reducible refine aw_toS (aw_region0 (by decide +kernel) fun K' hK => ?_)
    simp [s0, s1]
    refine acall_new hC (by first | rfl | (simp []; done) | (simp []; rfl) | (simp []; exact ⟨rfl, rfl⟩)) ?_
    simp [addJ_one]
    first | refine hK _ _ _ ?_ | done
    clear K' hK
    have hown1 : OwnAt (G.upd 4 (.row 34 (flat Pl.cells c))) 1 t := by
      rcases hown with h | h
      · exact .inl (by simp [h])
      · exact .inr (by simp [h])
    obtain ⟨G3, he, hown2, hk⟩ := hown1.frz (n := t.length)
    repeat with_reducible refine aw_assoc ?_
    first | with_reducible refine aw_region0 (by decide +kernel) fun K' hK => ?_ | with_reducible refine aw_toS (aw_region0 (by decide +kernel) fun K' hK => ?_)
    simp [s9, s1]
    refine acall_new hD (by first | rfl | (simp [hown1.tree]; done) | (simp [hown1.tree]; rfl) | (simp [hown1.tree]; exact ⟨rfl, rfl⟩)) ?_
    simp [addJ_one, hown1.tree, he]
    first | refine hK _ _ _ ?_ | done
    clear K' hK
    refine aw_gen (fun s G nx => s 0 = rowT Pl.cells t ∧ s 9 = .row 1 t.length ∧ s 10 = .row 2 a.length ∧ s 11 = iV ai ∧ s 12 = iV ac ∧ s 13 = .row 3 a.length ∧ s 14 = iV ai ∧ s 15 = iV ac ∧ s 16 = .row 4 c.length ∧ s 17 = iV cc ∧ s 18 = .row 5 c.length ∧ s 19 = iV cc ∧ OwnAt G 1 t ∧ G 2 = some (.row 34 (flat Pl.cells a)) ∧ G 3 = some (.row 34 (flat Pl.cells a)) ∧ G 4 = some (.row 34 (flat Pl.cells c)) ∧ G 5 = some (.row 34 (flat Pl.cells c))) ?_ ?_
    · simp [s0, s1, s9, s10, s11, s12, s13, s14, s15]
      refine ⟨?_, by rw [hk 2 (by omega)]; simp [g2], by rw [hk 3 (by omega)]; simp [g3], by rw [hk 4 (by omega)]; simp⟩
      rcases hown2 with h | h
      · exact .inl (by simp [h])
      · exact .inr (by simp [h])
    clear hown hown1 hown2 he hk
    rintro s G nx ⟨s0, s9, s10, s11, s12, s13, s14, s15, s16, s17, s18, s19, hown, g2, g3, g4, g5⟩
    have t2 : treeOf Tryz.prog G (.row 2 a.length) = some (rowT Pl.cells a) := treeOf_of g2 c34 rfl
    have t3 : treeOf Tryz.prog G (.row 3 a.length) = some (rowT Pl.cells a) := treeOf_of g3 c34 rfl
    have t4 : treeOf Tryz.prog G (.row 4 c.length) = some (rowT Pl.cells c) := treeOf_of g4 c34 rfl
    have t5 : treeOf Tryz.prog G (.row 5 c.length) = some (rowT Pl.cells c) := treeOf_of g5 c34 rfl
    repeat with_reducible refine aw_assoc ?_
    first | with_reducible refine aw_region0 (by decide +kernel) fun K' hK => ?_ | with_reducible refine aw_toS (aw_region0 (by decide +kernel) fun K' hK => ?_)
    simp [s10, s11, s12, s13, s14, s15]
    refine acall_flat (same16_ok a a hta) rfl (by first | rfl | (simp [t2, t3]; done) | (simp [t2, t3]; rfl) | (simp [t2, t3]; exact ⟨rfl, rfl⟩)) ?_
    simp [s16, s17, s18, s19]
    refine acall_flat (same16_ok c c htc) rfl (by first | rfl | (simp [t4, t5]; done) | (simp [t4, t5]; rfl) | (simp [t4, t5]; exact ⟨rfl, rfl⟩)) ?_
    simp
    first | refine hK _ _ _ ?_ | done
    clear K' hK
    repeat with_reducible refine aw_assoc ?_
    first | with_reducible refine aw_region0 (by decide +kernel) fun K' hK => ?_ | with_reducible refine aw_toS (aw_region0 (by decide +kernel) fun K' hK => ?_)
    simp []
    first | refine hK _ _ _ ?_ | done
    clear K' hK
    refine aw_gen (fun s G nx => s 0 = rowT Pl.cells t ∧ s 9 = .row 1 t.length ∧ s 10 = .row 2 a.length ∧ s 16 = .row 4 c.length ∧ s 20 = bV true ∧ s 21 = iV 0 ∧ OwnAt G 1 t ∧ G 2 = some (.row 34 (flat Pl.cells a)) ∧ G 4 = some (.row 34 (flat Pl.cells c))) ?_ ?_
    · simp [s0, s9, s10, s16]
      exact ⟨hown, g2, g4⟩
    rintro s G nx ⟨s0, s9, s10, s16, s20, s21, hown, g2, g4⟩
    have hsm : (⟨#[115, 109, 117, 100, 103, 101]⟩ : Bs) = smB := rfl
    repeat with_reducible refine aw_assoc ?_
    first | with_reducible refine aw_block ?_ | with_reducible refine aw_toS (aw_block ?_)
    refine aw_loop (fun s G nx => s 0 = rowT Pl.cells t ∧ s 9 = .row 1 t.length ∧ s 10 = .row 2 a.length ∧ s 16 = .row 4 c.length ∧ s 20 = bV true ∧ OwnAt G 1 t ∧ (∃ x : List Pl, x.length = a.length ∧ G 2 = some (.row 34 (flat Pl.cells x))) ∧ G 4 = some (.row 34 (flat Pl.cells c)) ∧ ∃ j : Nat, s 21 = iV j ∧ j ≤ a.length) (fun s _ _ => match s 21 with | .v (.int _ n) => a.length - n.toNat | _ => 0) ?_ ?_
    · exact ⟨s0, s9, s10, s16, s20, hown, ⟨a, rfl, g2⟩, g4, 0, by simp [s21], by omega⟩
    · rintro s G nx - ⟨s0, s9, s10, s16, s20, hown, ⟨x, hx, g2⟩, g4, j, s21, hj⟩
      have o21 := s21
      have hw : IntKind.i64.wrap (↑j + 1) = ((j + 1 : Nat) : Int) := wrapS (by omega)
      repeat with_reducible refine aw_assoc ?_
      first | with_reducible refine aw_region0 (by decide +kernel) fun K' hK => ?_ | with_reducible refine aw_toS (aw_region0 (by decide +kernel) fun K' hK => ?_)
      simp [s10, s21, g2]
      first | refine hK _ _ _ ?_ | done
      clear K' hK
      repeat with_reducible refine aw_assoc ?_
      first | with_reducible refine aw_condP fun A B hA hB => ?_ | with_reducible refine aw_toS (aw_condP fun A B hA hB => ?_)
      simp []
      refine ⟨fun hj2 => hA ?_, fun hj2 => hB ?_⟩ <;> clear hA hB A B <;> (try simp at hj2) <;> (try with_reducible refine aw_skip ?_)
      · have hj3 : j < x.length := by omega
        have hpn := put_name hj3
        repeat with_reducible refine aw_assoc ?_
        first | with_reducible refine aw_block ?_ | with_reducible refine aw_toS (aw_block ?_)
        repeat with_reducible refine aw_assoc ?_
        first | with_reducible refine aw_region0 (by decide +kernel) fun K' hK => ?_ | with_reducible refine aw_toS (aw_region0 (by decide +kernel) fun K' hK => ?_)
        simp [s10, s21, g2, hj2, hj3, hsm, hpn]
        first | refine hK _ _ _ ?_ | done
        clear K' hK
        first | with_reducible refine aw_skipL ?_ | skip
        refine blockK_normal ?_
        repeat with_reducible refine aw_assoc ?_
        first | with_reducible refine aw_region0 (by decide +kernel) fun K' hK => ?_ | with_reducible refine aw_toS (aw_region0 (by decide +kernel) fun K' hK => ?_)
        simp [s21, hw]
        first | refine hK _ _ _ ?_ | done
        clear K' hK
        refine aw_skipL (loopK_normal ?_ ?_)
        · refine ⟨by simp [s0], by simp [s9], by simp [s10], by simp [s16], by simp [s20], ?_, ⟨x.set j { nth x j with name := smB }, by simpa using hx, by simp⟩, by simp [g4], j + 1, by simp [hw], by omega⟩
          rcases hown with h | h
          · exact .inl (by simp [h])
          · exact .inr (by simp [h])
        · simp [o21, hw]; omega
      · repeat with_reducible refine aw_assoc ?_
        first | with_reducible refine aw_exit ?_ | with_reducible refine aw_exitL ?_
        refine loopK_exit (blockK_exit ?_)
        repeat with_reducible refine aw_assoc ?_
        first | with_reducible refine aw_region0 (by decide +kernel) fun K' hK => ?_ | with_reducible refine aw_toS (aw_region0 (by decide +kernel) fun K' hK => ?_)
        simp []
        first | refine hK _ _ _ ?_ | done
        clear K' hK
        repeat with_reducible refine aw_assoc ?_
        first | with_reducible refine aw_block ?_ | with_reducible refine aw_toS (aw_block ?_)
        refine aw_loop (fun s G nx => s 0 = rowT Pl.cells t ∧ s 9 = .row 1 t.length ∧ s 16 = .row 4 c.length ∧ s 20 = bV true ∧ OwnAt G 1 t ∧ (∃ x : List Pl, x.length = c.length ∧ G 4 = some (.row 34 (flat Pl.cells x))) ∧ ∃ j : Nat, s 22 = iV j ∧ j ≤ c.length) (fun s _ _ => match s 22 with | .v (.int _ n) => c.length - n.toNat | _ => 0) ?_ ?_
        · exact ⟨by simp [s0], by simp [s9], by simp [s16], by simp [s20], hown, ⟨c, rfl, g4⟩, 0, by simp, by omega⟩
        · rintro s G nx - ⟨s0, s9, s16, s20, hown, ⟨x, hx, g4⟩, j, s22, hj⟩
          have o22 := s22
          have hw : IntKind.i64.wrap (↑j + 1) = ((j + 1 : Nat) : Int) := wrapS (by omega)
          repeat with_reducible refine aw_assoc ?_
          first | with_reducible refine aw_region0 (by decide +kernel) fun K' hK => ?_ | with_reducible refine aw_toS (aw_region0 (by decide +kernel) fun K' hK => ?_)
          simp [s16, s22, g4]
          first | refine hK _ _ _ ?_ | done
          clear K' hK
          repeat with_reducible refine aw_assoc ?_
          first | with_reducible refine aw_condP fun A B hA hB => ?_ | with_reducible refine aw_toS (aw_condP fun A B hA hB => ?_)
          simp []
          refine ⟨fun hj2 => hA ?_, fun hj2 => hB ?_⟩ <;> clear hA hB A B <;> (try simp at hj2) <;> (try with_reducible refine aw_skip ?_)
          · have hj3 : j < x.length := by omega
            have hpn := put_name hj3
            repeat with_reducible refine aw_assoc ?_
            first | with_reducible refine aw_block ?_ | with_reducible refine aw_toS (aw_block ?_)
            repeat with_reducible refine aw_assoc ?_
            first | with_reducible refine aw_region0 (by decide +kernel) fun K' hK => ?_ | with_reducible refine aw_toS (aw_region0 (by decide +kernel) fun K' hK => ?_)
            simp [s16, s22, g4, hj2, hj3, hsm, hpn]
            first | refine hK _ _ _ ?_ | done
            clear K' hK
            first | with_reducible refine aw_skipL ?_ | skip
            refine blockK_normal ?_
            repeat with_reducible refine aw_assoc ?_
            first | with_reducible refine aw_region0 (by decide +kernel) fun K' hK => ?_ | with_reducible refine aw_toS (aw_region0 (by decide +kernel) fun K' hK => ?_)
            simp [s22, hw]
            first | refine hK _ _ _ ?_ | done
            clear K' hK
            refine aw_skipL (loopK_normal ?_ ?_)
            · refine ⟨by simp [s0], by simp [s9], by simp [s16], by simp [s20], ?_, ⟨x.set j { nth x j with name := smB }, by simpa using hx, by simp⟩, j + 1, by simp [hw], by omega⟩
              rcases hown with h | h
              · exact .inl (by simp [h])
              · exact .inr (by simp [h])
            · simp [o22, hw]; omega
          · repeat with_reducible refine aw_assoc ?_
            first | with_reducible refine aw_exit ?_ | with_reducible refine aw_exitL ?_
            refine loopK_exit (blockK_exit ?_)
            repeat with_reducible refine aw_assoc ?_
            first | with_reducible refine aw_region0 (by decide +kernel) fun K' hK => ?_ | with_reducible refine aw_toS (aw_region0 (by decide +kernel) fun K' hK => ?_)
            simp []
            refine acall_flat stands17_ok rfl (by first | rfl | (simp []; done) | (simp []; rfl) | (simp []; exact ⟨rfl, rfl⟩)) ?_
            simp [s20, s0, s9]
            refine acall_flat (same16_ok t t ht.1) rfl (by first | rfl | (simp [hown.tree]; done) | (simp [hown.tree]; rfl) | (simp [hown.tree]; exact ⟨rfl, rfl⟩)) ?_
            simp
            first | refine hK _ _ _ ?_ | done
            clear K' hK
            repeat with_reducible refine aw_assoc ?_
            first | with_reducible refine aw_ret ?_ | with_reducible refine aw_retL ?_ | with_reducible refine aw_skipL ?_
            simp [blockK, loopK, Post, resA, res1, expT, expA, exp1, expM, expL, okT, okA, ok1, rowOf, Tryz.f3]
end Go.Proofs.YtomidniaekeafaaGreatDoorAbs
/- What a row gives: the arguments as trees, what the tables hold; a world for the witness. -/
namespace Go.Proofs.YtomidniaekeafaaGreatDoorAbs
set_option linter.unusedSimpArgs false
set_option linter.unusedVariables false
open Go Go.RowKit Go.Proofs
set_option maxRecDepth 100000
theorem op3 : Opens Tryz.prog (fun _ : Int => True) (fun n => [iV n]) 3 := (opens_int (k := .i64) (by kernel_rfl)).map id (fun _ _ => trivial) fun _ => rfl
theorem op9 : Opens Tryz.prog (fun s : Bs => s.size ≤ maxLen) (fun n => [sV n]) 9 := (opens_string (by kernel_rfl)).map id (fun _ h => h) fun _ => rfl
theorem op24 : Opens Tryz.prog (fun v : Ver => v.pre.size ≤ maxLen) Ver.cells 24 :=
  (opens_struct (opensF_cons 1 op3 (opensF_cons 1 op3 (opensF_cons 1 op3 (opensF_cons 1 op9 (opensF_nil (n := 4)) (by kernel_rfl)) (by kernel_rfl)) (by kernel_rfl)) (by kernel_rfl)) (by kernel_rfl) (by kernel_rfl)).map
    (fun x => ⟨x.1, x.2.1, x.2.2.1, x.2.2.2.1⟩) (fun _ h => h.2.2.2.1) fun _ => rfl
theorem op34 : Opens Tryz.prog (fun _ => True) Pl.cells 34 :=
  (opens_struct (opensF_cons 1 op3 (opensF_cons 1 op9 (opensF_cons 4 op24 (opensF_nil (n := 6)) (by kernel_rfl)) (by kernel_rfl)) (by kernel_rfl)) (by kernel_rfl) (by kernel_rfl)).map
    (fun x => ⟨x.1, x.2.1, x.2.2.1⟩) (fun _ _ => trivial) fun _ => rfl
theorem op22 : Opens Tryz.prog (fun l : List Pl => l.length ≤ maxLen) (fun l : List Pl => [rowT Pl.cells l]) 22 := (opens_slice op34 (by kernel_rfl) (by kernel_rfl)).map id (fun _ h => h.1) fun _ => rfl
theorem maxLen_le {n : Nat} (h : n ≤ maxLen) : n ≤ 9223372036854775807 := h
-- the tables
def laidL : List (String × DataW Unit) := Proofs.YtomidniaekeafaaGreatDoor.Rows.treeRightRow.laid
theorem var_ext {w w' : World} (h : ExtC (fun _ => False) w w') {n : String} {cs : Array Value} (hv : w.var? Tryz.prog n = some cs) : w'.var? Tryz.prog n = some cs := by
  unfold World.var? at hv ⊢
  cases hg : Tryz.prog.globalNamed n with
  | none => rw [hg] at hv; cases hv
  | some g =>
    rw [hg] at hv
    simp only [Option.bind_some] at hv ⊢
    cases ho : w.heap[g]? with
    | none => rw [ho] at hv; cases hv
    | some o =>
      rw [ho] at hv
      cases o <;> simp at hv
      subst hv
      rw [h.same g _ ho rfl (fun h => h)]
theorem cell_ext {w w' : World} (h : ExtC (fun _ => False) w w') {a : Addr} {v : Value} (hv : w.cell? a = some v) : w'.cell? a = some v := by
  unfold World.cell? at hv ⊢
  cases ho : w.heap[a.block]? with
  | none => rw [ho] at hv; cases hv
  | some o =>
    rw [ho] at hv
    cases o <;> simp at hv
    rw [h.same a.block _ ho rfl (fun h => h)]
    simpa using hv
theorem gl_ext {w w' : World} (h : ExtC (fun _ => False) w w') (hg : Gl.ok Tryz.prog w) : Gl.ok Tryz.prog w' := by
  obtain ⟨h1, ⟨a, b, h2⟩, ⟨c, d, h3⟩, ⟨m, h4⟩⟩ := hg
  exact ⟨var_ext h h1, ⟨a, b, var_ext h h2⟩, ⟨c, d, var_ext h h3⟩, ⟨m, cell_ext h h4⟩⟩
theorem star : "*" ++ "errors.errorString" = "*errors.errorString" := by decide
theorem row160 (u : TypeId) (h : Tryz.prog.typeName? 3 u = some "*errors.errorString") : u = 160 :=
  typeName_ptr_named (nm := "errors.errorString") (by rw [star]; kernel_rfl) (by kernel_rfl) (by decide) u (by rw [star]; exact h)
theorem und97 : ∃ ms, Tryz.prog.underlying 97 = some (.interface ms) := by
  have h : (Tryz.prog.underlying 97).any (fun | .interface _ => true | _ => false) = true := by kernel_rfl
  cases hu : Tryz.prog.underlying 97 with
  | none => rw [hu] at h; cases h
  | some x => rw [hu] at h; cases x <;> first | exact ⟨_, rfl⟩ | cases h
theorem gl_of {W : World} (hL : laidMetH Tryz.prog laidL W) (hsh : W.ShapedOpen Tryz.prog) : Gl.ok Tryz.prog W := by
  rw [MakeChecks.laidMetH_plain _ _ _ (by kernel_rfl)] at hL
  have h3 := hL.tail.tail
  have h5 := h3.tail.tail
  have h6 := h5.tail
  obtain ⟨ms, hi⟩ := und97
  obtain ⟨a5, s5, v5, _⟩ := laid_sentinel h5 (g := 5) (ti := 97) (tp := 160) (te := 162) (ts := 9) (by kernel_rfl) (by kernel_rfl) hi row160 (by kernel_rfl) Tryz.underlying162 rfl rfl (by kernel_rfl) (by kernel_rfl) (by kernel_rfl)
  obtain ⟨a6, s6, v6, _⟩ := laid_sentinel h6 (g := 4) (ti := 97) (tp := 160) (te := 162) (ts := 9) (by kernel_rfl) (by kernel_rfl) hi row160 (by kernel_rfl) Tryz.underlying162 rfl rfl (by kernel_rfl) (by kernel_rfl) (by kernel_rfl)
  refine ⟨?_, ⟨_, _, v6⟩, ⟨_, _, v5⟩, ?_⟩
  · exact Lib.tabIs_of_head (g := 1) (t := 130) (e := 111) (n := 20) (by kernel_rfl) (by kernel_rfl) (by kernel_rfl) (by kernel_rfl) (by kernel_rfl) (by kernel_rfl) h3
  · exact cell_of_shapedOpen_int (t := 3) (zero := #[.int .i64 0]) hsh (of_decide_eq_true (by kernel_rfl)) (by kernel_rfl) rfl (by kernel_rfl) (by kernel_rfl) (by kernel_rfl)
-- the witness
def litsOf : DataW Unit → List Value
  | .agg l => l.filterMap fun | .lit (.int k n) => some (.int k n) | _ => none
  | _ => []
def lits2Of : DataW Unit → List Value
  | .agg l => l.flatMap litsOf
  | _ => []
noncomputable def low : Nat := (World.holding Tryz.prog default ⟨#[], #[], []⟩).heap.size
noncomputable def laidWorld (os : Os) : World :=
  let w0 := World.holding Tryz.prog os ⟨#[.cells #[.string ⟨#[118, 97, 108, 117, 101, 32, 111, 117, 116, 32, 111, 102, 32, 114, 97, 110, 103, 101]⟩] 162, .cells #[.string ⟨#[105, 110, 118, 97, 108, 105, 100, 32, 115, 121, 110, 116, 97, 120]⟩] 162], #[], []⟩
  let put (h : Array Obj) (g : Nat) (cs : List Value) : Array Obj := h.modify g fun
    | .cells _ t frozen => .cells cs.toArray t frozen
    | o => o
  let h1 := put w0.heap 1 (litsOf Proofs.YtomidniaekeafaaGreatDoor.Rows.laid_internal_strconv_uint64pow10)
  let h2 := put h1 2 (litsOf Proofs.YtomidniaekeafaaGreatDoor.Rows.laid_unicode_utf8_first)
  let h3 := put h2 3 (lits2Of Proofs.YtomidniaekeafaaGreatDoor.Rows.laid_unicode_utf8_acceptRanges)
  let h4 := put h3 4 [.iface 160 (.pointer (some ⟨low + 1, 0, none⟩))]
  let h5 := put h4 5 [.iface 160 (.pointer (some ⟨low, 0, none⟩))]
  let h6 := put h5 6 (litsOf Proofs.YtomidniaekeafaaGreatDoor.Rows.laid_math_bits_deBruijn32tab)
  let h7 := put h6 7 (litsOf Proofs.YtomidniaekeafaaGreatDoor.Rows.laid_math_bits_deBruijn64tab)
  { w0 with heap := h7 }
theorem laid_met (os : Os) (args : Array Value) : laidMet Tryz.prog laidL ((laidWorld os).forCall (fun _ _ => 0) ⟨#[], args, []⟩).memory :=
  laidMet_of_run' 8 (by kernel_rfl) (by kernel_rfl)
end Go.Proofs.YtomidniaekeafaaGreatDoorAbs
/- All that the tree's statements over the references stand on. -/
namespace Go.Proofs.YtomidniaekeafaaGreatDoorAbs
end Go.Proofs.YtomidniaekeafaaGreatDoorAbs
