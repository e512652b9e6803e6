/- All that the tree's statements stand on. -/
import Derived.Test.YtomidniaekeafaaGreatDoorM7
import Derived.Test.YtomidniaekeafaaGreatDoorRows
import Derived.Deep.DeepHandedRow
import Derived.Deep.DeepWitnessRowRef
import Derived.Lib.LaidIn
import Derived.Stop.LaidErr
import Derived.Shelf.Vars
import Derived.MakeChecks
/- TreeCuts. -/
namespace Go.Proofs.YtomidniaekeafaaGreatDoorAbs
set_option linter.unusedSimpArgs false
set_option linter.unusedVariables false
open Go Go.RowKit Go.Proofs
set_option maxRecDepth 100000
set_option maxHeartbeats 400000
theorem filter_both {α : Type} (p : α → Bool) : ∀ l : List α, (l.filter p).length + (l.filter fun x => !p x).length = l.length
  | [] => rfl
  | a :: l => by
    have := filter_both p l
    cases h : p a <;> simp [h] <;> omega
theorem below_kept {t : List Pl} {i : Nat} (g : Good t) (hi : i < t.length) : (belowL t i).length + rkN t i t.length = t.length := by
  have hh : holdsF t i = true := holds_iff.2 ⟨g, by omega, by omega⟩
  rw [belowL, hh, if_pos rfl, Int.toNat_natCast]
  unfold belowK rkN keptN
  rw [List.length_map]
  have e : (List.range t.length).filter (fun j => decide (i ≤ j) && underF t j i) = (List.range t.length).filter (fun j => underF t j i) := by
    refine List.filter_congr fun j hj => ?_
    have hj := List.mem_range.1 hj
    cases hu : underF t j i with
    | false => simp
    | true => have := under_ge g hj hu; simp; omega
  rw [e]
  have := filter_both (fun j => underF t j i) (List.range t.length)
  rw [List.length_range] at this
  exact this
theorem below_mem {t : List Pl} {i k : Nat} (g : Good t) (hi : i < t.length) (hk : k < t.length) : (belowL t i).any (fun x => decide (x = (k : Int))) = underF t k i := by
  have hh : holdsF t i = true := holds_iff.2 ⟨g, by omega, by omega⟩
  rw [belowL, hh, if_pos rfl, Int.toNat_natCast]
  unfold belowK
  rw [Bool.eq_iff_iff, List.any_eq_true]
  constructor
  · rintro ⟨x, hx, h⟩
    obtain ⟨j, hj, rfl⟩ := List.mem_map.1 hx
    have h := of_decide_eq_true h
    have : j = k := by omega
    subst this
    have := (List.mem_filter.1 hj).2
    simp at this
    exact this.2
  · intro hu
    have := under_ge g hk hu
    exact ⟨k, List.mem_map.2 ⟨k, List.mem_filter.2 ⟨List.mem_range.2 hk, by simp [hu]; omega⟩, rfl⟩, by simp⟩
theorem cuts9_ok (t : List Pl) (i : Int) (hl : t.length ≤ 9223372036854775807) : CallsOK Tryz.prog 9 [rowT Pl.cells t, iV i] (bV true) [] := by
  refine callsOK mixed Tryz.call9 Tryz.func9 rfl (by rw [Tryz.ntmps9]; simp) ?_ rfl
  rw [Tryz.ntmps9]
  repeat with_reducible refine aw_assoc ?_
  first | with_reducible refine aw_region0 (by decide +kernel) fun K' hK => ?_ | with_reducible refine aw_toS (aw_region0 (by decide +kernel) fun K' hK => ?_)
  simp []
  first | refine hK _ _ _ ?_ | done
  clear K' hK
  repeat with_reducible refine aw_assoc ?_
  first | with_reducible refine aw_region0 (by decide +kernel) fun K' hK => ?_ | with_reducible refine aw_toS (aw_region0 (by decide +kernel) fun K' hK => ?_)
  simp []
  refine acall_flat (large10_ok t ⟨#[]⟩ v0 hl) rfl (by simp <;> rfl) ?_
  cases hlg : largeF t ⟨#[]⟩ v0 with
  | true =>
    simp
    first | refine hK _ _ _ ?_ | done
    clear K' hK
    repeat with_reducible refine aw_assoc ?_
    first | with_reducible refine aw_condP fun A B hA hB => ?_ | with_reducible refine aw_toS (aw_condP fun A B hA hB => ?_)
    simp []
    refine ⟨fun hc => hA ?_, fun hc => hB ?_⟩ <;> clear hA hB A B <;> (try (simp at hc; done)) <;> (try (exfalso; simp at hc; omega)) <;> clear hc <;> (try with_reducible refine aw_skip ?_)
    repeat with_reducible refine aw_assoc ?_
    first | with_reducible refine aw_region0 (by decide +kernel) fun K' hK => ?_ | with_reducible refine aw_toS (aw_region0 (by decide +kernel) fun K' hK => ?_)
    simp []
    first | refine hK _ _ _ ?_ | done
    clear K' hK
    repeat with_reducible refine aw_assoc ?_
    first | with_reducible refine aw_ret ?_ | with_reducible refine aw_retL ?_ | with_reducible refine aw_skipL ?_
    simp [blockK, loopK, Post, resA, res1, expT, expA, exp1, expM, expL, okT, okA, ok1, rowOf, Tryz.f9]
  | false =>
    obtain ⟨ht, hn, hv⟩ := large_not hlg
    by_cases h60 : (60 : Int) < t.length
    · simp [h60]
      first | refine hK _ _ _ ?_ | done
      clear K' hK
      repeat with_reducible refine aw_assoc ?_
      first | with_reducible refine aw_condP fun A B hA hB => ?_ | with_reducible refine aw_toS (aw_condP fun A B hA hB => ?_)
      simp []
      refine ⟨fun hc => hA ?_, fun hc => hB ?_⟩ <;> clear hA hB A B <;> (try (simp at hc; done)) <;> (try (exfalso; simp at hc; omega)) <;> clear hc <;> (try with_reducible refine aw_skip ?_)
      repeat with_reducible refine aw_assoc ?_
      first | with_reducible refine aw_region0 (by decide +kernel) fun K' hK => ?_ | with_reducible refine aw_toS (aw_region0 (by decide +kernel) fun K' hK => ?_)
      simp []
      first | refine hK _ _ _ ?_ | done
      clear K' hK
      repeat with_reducible refine aw_assoc ?_
      first | with_reducible refine aw_ret ?_ | with_reducible refine aw_retL ?_ | with_reducible refine aw_skipL ?_
      simp [blockK, loopK, Post, resA, res1, expT, expA, exp1, expM, expL, okT, okA, ok1, rowOf, Tryz.f9]
    have htc := oks_cutR (i := i) ht
    simp [h60]
    first | refine hK _ _ _ ?_ | done
    clear K' hK
    repeat with_reducible refine aw_assoc ?_
    first | with_reducible refine aw_condP fun A B hA hB => ?_ | with_reducible refine aw_toS (aw_condP fun A B hA hB => ?_)
    simp []
    refine ⟨fun hc => hA ?_, fun hc => hB ?_⟩ <;> clear hA hB A B <;> (try (simp at hc; done)) <;> (try (exfalso; simp at hc; omega)) <;> clear hc <;> (try with_reducible refine aw_skip ?_)
    repeat with_reducible refine aw_assoc ?_
    first | with_reducible refine aw_region0 (by decide +kernel) fun K' hK => ?_ | with_reducible refine aw_toS (aw_region0 (by decide +kernel) fun K' hK => ?_)
    simp []
    refine acall_new (cut14_ok t ht i) (by simp <;> rfl) ?_
    simp [addJ_one]
    first | refine hK _ _ _ ?_ | done
    clear K' hK
    by_cases h0 : cutCode t i = 0
    case neg =>
      have e1 : cutR t i = [] := by rw [cutR, if_neg h0]
      repeat with_reducible refine aw_assoc ?_
      first | with_reducible refine aw_region0 (by decide +kernel) fun K' hK => ?_ | with_reducible refine aw_toS (aw_region0 (by decide +kernel) fun K' hK => ?_)
      simp [h0]
      first | refine hK _ _ _ ?_ | done
      clear K' hK
      repeat with_reducible refine aw_assoc ?_
      first | with_reducible refine aw_condP fun A B hA hB => ?_ | with_reducible refine aw_toS (aw_condP fun A B hA hB => ?_)
      simp []
      refine ⟨fun hc => hA ?_, fun hc => hB ?_⟩ <;> clear hA hB A B <;> (try (simp at hc; done)) <;> (try (exfalso; simp at hc; omega)) <;> clear hc <;> (try with_reducible refine aw_skip ?_)
      repeat with_reducible refine aw_assoc ?_
      first | with_reducible refine aw_region0 (by decide +kernel) fun K' hK => ?_ | with_reducible refine aw_toS (aw_region0 (by decide +kernel) fun K' hK => ?_)
      simp []
      refine acall_flat stands17_ok rfl (by simp) ?_
      simp [e1]
      first | refine hK _ _ _ ?_ | done
      clear K' hK
      repeat with_reducible refine aw_assoc ?_
      first | with_reducible refine aw_ret ?_ | with_reducible refine aw_retL ?_ | with_reducible refine aw_skipL ?_
      simp [blockK, loopK, Post, resA, res1, expT, expA, exp1, expM, expL, okT, okA, ok1, rowOf, Tryz.f9]
    obtain ⟨g, h1, h2⟩ := cutCode_inv h0
    have e1 : cutR t i = cutT t i t.length := by rw [cutR, if_pos h0]
    rw [e1] at htc
    repeat with_reducible refine aw_assoc ?_
    first | with_reducible refine aw_region0 (by decide +kernel) fun K' hK => ?_ | with_reducible refine aw_toS (aw_region0 (by decide +kernel) fun K' hK => ?_)
    simp [h0]
    first | refine hK _ _ _ ?_ | done
    clear K' hK
    repeat with_reducible refine aw_assoc ?_
    first | with_reducible refine aw_condP fun A B hA hB => ?_ | with_reducible refine aw_toS (aw_condP fun A B hA hB => ?_)
    simp []
    refine ⟨fun hc => hA ?_, fun hc => hB ?_⟩ <;> clear hA hB A B <;> (try (simp at hc; done)) <;> (try (exfalso; simp at hc; omega)) <;> clear hc <;> (try with_reducible refine aw_skip ?_)
    obtain ⟨n, rfl⟩ : ∃ n : Nat, i = n := ⟨i.toNat, by omega⟩
    have hn : n < t.length := by omega
    have gc := good_cut g h1 h2
    have hl1 := ht.1
    repeat with_reducible refine aw_assoc ?_
    first | with_reducible refine aw_region0 (by decide +kernel) fun K' hK => ?_ | with_reducible refine aw_toS (aw_region0 (by decide +kernel) fun K' hK => ?_)
    simp []
    refine acall_new (below28_ok t ht n) (by simp <;> rfl) ?_
    simp [addJ_one]
    first | refine hK _ _ _ ?_ | done
    clear K' hK
    repeat with_reducible refine aw_assoc ?_
    first | with_reducible refine aw_region0 (by decide +kernel) fun K' hK => ?_ | with_reducible refine aw_toS (aw_region0 (by decide +kernel) fun K' hK => ?_)
    simp []
    first | refine hK _ _ _ ?_ | done
    clear K' hK
    generalize hbl : belowL t n = bl
    refine aw_gen (fun s G nx => s 0 = rowT Pl.cells t ∧ s 5 = .row 0 (cutT t n t.length).length ∧ s 7 = .row 1 bl.length ∧ s 8 = iV 0 ∧ G 0 = some (.row 34 (flat Pl.cells (cutT t n t.length))) ∧ G 1 = some (.row 3 (flat iC bl))) ?_ ?_
    · simp [e1]
    rintro s G nx ⟨s0, s5, s7, s8, g0, g1⟩
    have hbs : bl.length ≤ t.length := by
      have := below_kept g hn
      rw [hbl] at this; omega
    repeat with_reducible refine aw_assoc ?_
    first | with_reducible refine aw_block ?_ | with_reducible refine aw_toS (aw_block ?_)
    refine aw_loop (fun s G nx => s 0 = rowT Pl.cells t ∧ s 5 = .row 0 (cutT t n t.length).length ∧ s 7 = .row 1 bl.length ∧ G 0 = some (.row 34 (flat Pl.cells (cutT t n t.length))) ∧ G 1 = some (.row 3 (flat iC bl)) ∧ ∃ k : Nat, s 8 = iV k ∧ k ≤ t.length) (fun s _ _ => match s 8 with | .v (.int _ n) => t.length - n.toNat | _ => 0) ?_ ?_
    · exact ⟨by simp [s0], by simp [s5], by simp [s7], g0, g1, 0, by simp [s8], by omega⟩
    · rintro s G nx - ⟨s0, s5, s7, g0, g1, k, s8, hk⟩
      have o8 := s8
      have hw : IntKind.i64.wrap (↑k + 1) = ((k + 1 : Nat) : Int) := wrapS (by omega)
      repeat with_reducible refine aw_assoc ?_
      first | with_reducible refine aw_region0 (by decide +kernel) fun K' hK => ?_ | with_reducible refine aw_toS (aw_region0 (by decide +kernel) fun K' hK => ?_)
      simp [s0, s8]
      first | refine hK _ _ _ ?_ | done
      clear K' hK
      repeat with_reducible refine aw_assoc ?_
      first | with_reducible refine aw_condP fun A B hA hB => ?_ | with_reducible refine aw_toS (aw_condP fun A B hA hB => ?_)
      simp []
      refine ⟨fun hk2 => hA ?_, fun hk2 => hB ?_⟩ <;> clear hA hB A B <;> (try simp at hk2) <;> (try with_reducible refine aw_skip ?_)
      · have hh : holdsF t k = true := holds_iff.2 ⟨g, by omega, by omega⟩
        have hP := path21_ok t ht k
        rw [hh] at hP
        have hF := find22_ok _ htc (pathOf t k) (by have := pathOf_size (t := t) (i := k); omega)
        rw [find_else g gc hk2, find_cut g h1 h2 hk2] at hF
        have hcT : treeOf Tryz.prog G (.row 0 (cutT t n t.length).length) = some (rowT Pl.cells (cutT t n t.length)) := treeOf_of g0 c34 rfl
        have hu := below_mem g hn hk2
        rw [hbl] at hu
        repeat with_reducible refine aw_assoc ?_
        first | with_reducible refine aw_block ?_ | with_reducible refine aw_toS (aw_block ?_)
        repeat with_reducible refine aw_assoc ?_
        first | with_reducible refine aw_region0 (by decide +kernel) fun K' hK => ?_ | with_reducible refine aw_toS (aw_region0 (by decide +kernel) fun K' hK => ?_)
        simp [s0, s8]
        refine acall_flat hP rfl (by simp) ?_
        simp
        first | refine hK _ _ _ ?_ | done
        clear K' hK
        repeat with_reducible refine aw_assoc ?_
        first | with_reducible refine aw_region0 (by decide +kernel) fun K' hK => ?_ | with_reducible refine aw_toS (aw_region0 (by decide +kernel) fun K' hK => ?_)
        simp [s5]
        refine acall_flat hF rfl (by simp [hcT] <;> rfl) ?_
        simp
        first | refine hK _ _ _ ?_ | done
        clear K' hK
        repeat with_reducible refine aw_assoc ?_
        first | with_reducible refine aw_region0 (by decide +kernel) fun K' hK => ?_ | with_reducible refine aw_toS (aw_region0 (by decide +kernel) fun K' hK => ?_)
        simp []
        first | refine hK _ _ _ ?_ | done
        clear K' hK
        repeat with_reducible refine aw_assoc ?_
        first | with_reducible refine aw_region0 (by decide +kernel) fun K' hK => ?_ | with_reducible refine aw_toS (aw_region0 (by decide +kernel) fun K' hK => ?_)
        simp []
        first | refine hK _ _ _ ?_ | done
        clear K' hK
        refine aw_gen (fun s G nx => s 0 = rowT Pl.cells t ∧ s 5 = .row 0 (cutT t n t.length).length ∧ s 7 = .row 1 bl.length ∧ s 8 = iV k ∧ s 10 = bV true ∧ s 11 = iV ((if underF t k n = true then none else some (rkN t n k : Int)).getD 0) ∧ s 12 = bV (!underF t k n) ∧ s 13 = bV false ∧ s 14 = iV 0 ∧ G 0 = some (.row 34 (flat Pl.cells (cutT t n t.length))) ∧ G 1 = some (.row 3 (flat iC bl))) ?_ ?_
        · simp [s0, s5, s7, s8]
          refine ⟨?_, g0, g1⟩
          cases underF t k n <;> rfl
        rintro s G nx ⟨s0, s5, s7, s8, s10, s11, s12, s13, s14, g0, g1⟩
        repeat with_reducible refine aw_assoc ?_
        first | with_reducible refine aw_block ?_ | with_reducible refine aw_toS (aw_block ?_)
        refine aw_loop (fun s G nx => s 0 = rowT Pl.cells t ∧ s 5 = .row 0 (cutT t n t.length).length ∧ s 7 = .row 1 bl.length ∧ s 8 = iV k ∧ s 10 = bV true ∧ s 11 = iV ((if underF t k n = true then none else some (rkN t n k : Int)).getD 0) ∧ s 12 = bV (!underF t k n) ∧
            G 0 = some (.row 34 (flat Pl.cells (cutT t n t.length))) ∧ G 1 = some (.row 3 (flat iC bl)) ∧ ∃ m : Nat, s 14 = iV m ∧ m ≤ bl.length ∧ s 13 = bV ((bl.take m).any fun x => decide (x = (k : Int)))) (fun s _ _ => match s 14 with | .v (.int _ n) => bl.length - n.toNat | _ => 0) ?_ ?_
        · exact ⟨by simp [s0], by simp [s5], by simp [s7], by simp [s8], by simp [s10], by simp [s11], by simp [s12], g0, g1, 0, by simp [s14], by omega, by simp [s13]⟩
        · rintro s G nx - ⟨s0, s5, s7, s8, s10, s11, s12, g0, g1, m, s14, hm, s13⟩
          have hw2 : IntKind.i64.wrap (↑m + 1) = ((m + 1 : Nat) : Int) := wrapS (by omega)
          repeat with_reducible refine aw_assoc ?_
          first | with_reducible refine aw_region0 (by decide +kernel) fun K' hK => ?_ | with_reducible refine aw_toS (aw_region0 (by decide +kernel) fun K' hK => ?_)
          simp [s7, s14, g1]
          first | refine hK _ _ _ ?_ | done
          clear K' hK
          repeat with_reducible refine aw_assoc ?_
          first | with_reducible refine aw_condP fun A B hA hB => ?_ | with_reducible refine aw_toS (aw_condP fun A B hA hB => ?_)
          simp []
          refine ⟨fun hm2 => hA ?_, fun hm2 => hB ?_⟩ <;> clear hA hB A B <;> (try simp at hm2) <;> (try with_reducible refine aw_skip ?_)
          · have hstep := any_take1 (p := fun x => decide (x = (k : Int))) hm2
            repeat with_reducible refine aw_assoc ?_
            first | with_reducible refine aw_block ?_ | with_reducible refine aw_toS (aw_block ?_)
            cases ha : (bl.take m).any fun x => decide (x = (k : Int)) with
            | true =>
              rw [ha] at s13 hstep
              repeat with_reducible refine aw_assoc ?_
              first | with_reducible refine aw_region0 (by decide +kernel) fun K' hK => ?_ | with_reducible refine aw_toS (aw_region0 (by decide +kernel) fun K' hK => ?_)
              simp [s13]
              first | refine hK _ _ _ ?_ | done
              clear K' hK
              first | with_reducible refine aw_skipL ?_ | skip
              refine blockK_normal ?_
              repeat with_reducible refine aw_assoc ?_
              first | with_reducible refine aw_region0 (by decide +kernel) fun K' hK => ?_ | with_reducible refine aw_toS (aw_region0 (by decide +kernel) fun K' hK => ?_)
              simp [s14, hw2]
              first | refine hK _ _ _ ?_ | done
              clear K' hK
              refine aw_skipL (loopK_normal ?_ ?_)
              · exact ⟨by simp [s0], by simp [s5], by simp [s7], by simp [s8], by simp [s10], by simp [s11], by simp [s12], g0, g1, m + 1, by simp [hw2], by omega, by rw [hstep]; simp⟩
              · simp [s14, hw2]; omega
            | false =>
              rw [ha] at s13 hstep
              repeat with_reducible refine aw_assoc ?_
              first | with_reducible refine aw_region0 (by decide +kernel) fun K' hK => ?_ | with_reducible refine aw_toS (aw_region0 (by decide +kernel) fun K' hK => ?_)
              simp [s13, s7, s14, s8, g1, hm2]
              first | refine hK _ _ _ ?_ | done
              clear K' hK
              first | with_reducible refine aw_skipL ?_ | skip
              refine blockK_normal ?_
              repeat with_reducible refine aw_assoc ?_
              first | with_reducible refine aw_region0 (by decide +kernel) fun K' hK => ?_ | with_reducible refine aw_toS (aw_region0 (by decide +kernel) fun K' hK => ?_)
              simp [s14, hw2]
              first | refine hK _ _ _ ?_ | done
              clear K' hK
              refine aw_skipL (loopK_normal ?_ ?_)
              · exact ⟨by simp [s0], by simp [s5], by simp [s7], by simp [s8], by simp [s10], by simp [s11], by simp [s12], g0, g1, m + 1, by simp [hw2], by omega, by rw [hstep]; simp⟩
              · simp [s14, hw2]; omega
          · repeat with_reducible refine aw_assoc ?_
            first | with_reducible refine aw_exit ?_ | with_reducible refine aw_exitL ?_
            refine loopK_exit (blockK_exit ?_)
            have : m = bl.length := by omega
            subst this
            rw [List.take_length, hu] at s13
            cases hun : underF t k n with
            | true =>
              rw [hun] at s12 s13
              repeat with_reducible refine aw_assoc ?_
              first | with_reducible refine aw_region1 (by decide +kernel) (by decide +kernel) fun K' hK => ?_ | with_reducible refine aw_toS (aw_region1 (by decide +kernel) (by decide +kernel) fun K' hK => ?_)
              simp (maxSteps := 1000000) [s10, s12, s13]
              first | refine hK _ _ _ ?_ | done
              clear K' hK
              repeat with_reducible refine aw_assoc ?_
              first | with_reducible refine aw_condP fun A B hA hB => ?_ | with_reducible refine aw_toS (aw_condP fun A B hA hB => ?_)
              simp []
              refine ⟨fun hc => hA ?_, fun hc => hB ?_⟩ <;> clear hA hB A B <;> (try (simp at hc; done)) <;> (try (exfalso; simp at hc; omega)) <;> clear hc <;> (try with_reducible refine aw_skip ?_)
              first | with_reducible refine aw_skipL ?_ | skip
              refine blockK_normal ?_
              repeat with_reducible refine aw_assoc ?_
              first | with_reducible refine aw_region0 (by decide +kernel) fun K' hK => ?_ | with_reducible refine aw_toS (aw_region0 (by decide +kernel) fun K' hK => ?_)
              simp [s8, hw]
              first | refine hK _ _ _ ?_ | done
              clear K' hK
              refine aw_skipL (loopK_normal ?_ ?_)
              · exact ⟨by simp [s0], by simp [s5], by simp [s7], g0, g1, k + 1, by simp [hw], by omega⟩
              · simp [o8, hw]; omega
            | false =>
              rw [hun] at s11 s12 s13
              have a1 : ¬ (rkN t n k : Int) < 0 := by omega
              have a2 : rkN t n k < (cutT t n t.length).length := by rw [cut_len]; exact rk_lt hun hk2
              have a3 : ¬ ((cutT t n t.length).length : Int) ≤ rkN t n k := by omega
              have a4 : (nth (cutT t n t.length) (rkN t n k)).ver = (nth t k).ver := by rw [cut_get hk2 hun]; rfl
              simp only [Bool.false_eq_true, if_false, Option.getD_some, Bool.not_false] at s11 s12
              repeat with_reducible refine aw_assoc ?_
              first | with_reducible refine aw_region1 (by decide +kernel) (by decide +kernel) fun K' hK => ?_ | with_reducible refine aw_toS (aw_region1 (by decide +kernel) (by decide +kernel) fun K' hK => ?_)
              refine aops_part 10 fun K2 hK2 => ?_
              simp [s10, s12, s13]
              refine hK2 _ _ _ ?_
              clear K2 hK2
              refine aops_part 9 fun K2 hK2 => ?_
              simp [s11, s5, g0, a1, a3]
              refine hK2 _ _ _ ?_
              clear K2 hK2
              simp [s11, s5, s0, s8, g0, a2, a4, hk2]
              first | refine hK _ _ _ ?_ | done
              clear K' hK
              repeat with_reducible refine aw_assoc ?_
              first | with_reducible refine aw_condP fun A B hA hB => ?_ | with_reducible refine aw_toS (aw_condP fun A B hA hB => ?_)
              simp []
              refine ⟨fun hc => hA ?_, fun hc => hB ?_⟩ <;> clear hA hB A B <;> (try (simp at hc; done)) <;> (try (exfalso; simp at hc; omega)) <;> clear hc <;> (try with_reducible refine aw_skip ?_)
              first | with_reducible refine aw_skipL ?_ | skip
              refine blockK_normal ?_
              repeat with_reducible refine aw_assoc ?_
              first | with_reducible refine aw_region0 (by decide +kernel) fun K' hK => ?_ | with_reducible refine aw_toS (aw_region0 (by decide +kernel) fun K' hK => ?_)
              simp [s8, hw]
              first | refine hK _ _ _ ?_ | done
              clear K' hK
              refine aw_skipL (loopK_normal ?_ ?_)
              · exact ⟨by simp [s0], by simp [s5], by simp [s7], g0, g1, k + 1, by simp [hw], by omega⟩
              · simp [o8, hw]; omega
      · repeat with_reducible refine aw_assoc ?_
        first | with_reducible refine aw_exit ?_ | with_reducible refine aw_exitL ?_
        refine loopK_exit (blockK_exit ?_)
        have hlen : (bl.length : Int) + (cutT t n t.length).length = t.length := by
          have := below_kept g hn
          rw [hbl] at this
          rw [cut_len]; omega
        have hw3 : IntKind.i64.wrap (((cutT t n t.length).length : Int) + bl.length) = t.length := by
          rw [wrap64 (by omega) (by omega)]; omega
        repeat with_reducible refine aw_assoc ?_
        first | with_reducible refine aw_region0 (by decide +kernel) fun K' hK => ?_ | with_reducible refine aw_toS (aw_region0 (by decide +kernel) fun K' hK => ?_)
        simp []
        refine acall_flat stands17_ok rfl (by simp) ?_
        simp [s5, s7, s0, g0, g1, hw3]
        first | refine hK _ _ _ ?_ | done
        clear K' hK
        repeat with_reducible refine aw_assoc ?_
        first | with_reducible refine aw_ret ?_ | with_reducible refine aw_retL ?_ | with_reducible refine aw_skipL ?_
        simp [blockK, loopK, Post, resA, res1, expT, expA, exp1, expM, expL, okT, okA, ok1, rowOf, Tryz.f9]
end Go.Proofs.YtomidniaekeafaaGreatDoorAbs
/- What a row gives: the arguments as trees, what the tables hold; a world for the witness. -/
namespace Go.Proofs.YtomidniaekeafaaGreatDoorAbs
set_option linter.unusedSimpArgs false
set_option linter.unusedVariables false
open Go Go.RowKit Go.Proofs
set_option maxRecDepth 100000
theorem op3 : Opens Tryz.prog (fun _ : Int => True) (fun n => [iV n]) 3 := (opens_int (k := .i64) (by kernel_rfl)).map id (fun _ _ => trivial) fun _ => rfl
theorem op9 : Opens Tryz.prog (fun s : Bs => s.size ≤ maxLen) (fun n => [sV n]) 9 := (opens_string (by kernel_rfl)).map id (fun _ h => h) fun _ => rfl
theorem op24 : Opens Tryz.prog (fun v : Ver => v.pre.size ≤ maxLen) Ver.cells 24 :=
  (opens_struct (opensF_cons 1 op3 (opensF_cons 1 op3 (opensF_cons 1 op3 (opensF_cons 1 op9 (opensF_nil (n := 4)) (by kernel_rfl)) (by kernel_rfl)) (by kernel_rfl)) (by kernel_rfl)) (by kernel_rfl) (by kernel_rfl)).map
    (fun x => ⟨x.1, x.2.1, x.2.2.1, x.2.2.2.1⟩) (fun _ h => h.2.2.2.1) fun _ => rfl
theorem op34 : Opens Tryz.prog (fun _ => True) Pl.cells 34 :=
  (opens_struct (opensF_cons 1 op3 (opensF_cons 1 op9 (opensF_cons 4 op24 (opensF_nil (n := 6)) (by kernel_rfl)) (by kernel_rfl)) (by kernel_rfl)) (by kernel_rfl) (by kernel_rfl)).map
    (fun x => ⟨x.1, x.2.1, x.2.2.1⟩) (fun _ _ => trivial) fun _ => rfl
theorem op22 : Opens Tryz.prog (fun l : List Pl => l.length ≤ maxLen) (fun l : List Pl => [rowT Pl.cells l]) 22 := (opens_slice op34 (by kernel_rfl) (by kernel_rfl)).map id (fun _ h => h.1) fun _ => rfl
theorem maxLen_le {n : Nat} (h : n ≤ maxLen) : n ≤ 9223372036854775807 := h
-- the tables
def laidL : List (String × DataW Unit) := Proofs.YtomidniaekeafaaGreatDoor.Rows.treeRightRow.laid
theorem var_ext {w w' : World} (h : ExtC (fun _ => False) w w') {n : String} {cs : Array Value} (hv : w.var? Tryz.prog n = some cs) : w'.var? Tryz.prog n = some cs := by
  unfold World.var? at hv ⊢
  cases hg : Tryz.prog.globalNamed n with
  | none => rw [hg] at hv; cases hv
  | some g =>
    rw [hg] at hv
    simp only [Option.bind_some] at hv ⊢
    cases ho : w.heap[g]? with
    | none => rw [ho] at hv; cases hv
    | some o =>
      rw [ho] at hv
      cases o <;> simp at hv
      subst hv
      rw [h.same g _ ho rfl (fun h => h)]
theorem cell_ext {w w' : World} (h : ExtC (fun _ => False) w w') {a : Addr} {v : Value} (hv : w.cell? a = some v) : w'.cell? a = some v := by
  unfold World.cell? at hv ⊢
  cases ho : w.heap[a.block]? with
  | none => rw [ho] at hv; cases hv
  | some o =>
    rw [ho] at hv
    cases o <;> simp at hv
    rw [h.same a.block _ ho rfl (fun h => h)]
    simpa using hv
theorem gl_ext {w w' : World} (h : ExtC (fun _ => False) w w') (hg : Gl.ok Tryz.prog w) : Gl.ok Tryz.prog w' := by
  obtain ⟨h1, ⟨a, b, h2⟩, ⟨c, d, h3⟩, ⟨m, h4⟩⟩ := hg
  exact ⟨var_ext h h1, ⟨a, b, var_ext h h2⟩, ⟨c, d, var_ext h h3⟩, ⟨m, cell_ext h h4⟩⟩
theorem star : "*" ++ "errors.errorString" = "*errors.errorString" := by decide
theorem row160 (u : TypeId) (h : Tryz.prog.typeName? 3 u = some "*errors.errorString") : u = 160 :=
  typeName_ptr_named (nm := "errors.errorString") (by rw [star]; kernel_rfl) (by kernel_rfl) (by decide) u (by rw [star]; exact h)
theorem und97 : ∃ ms, Tryz.prog.underlying 97 = some (.interface ms) := by
  have h : (Tryz.prog.underlying 97).any (fun | .interface _ => true | _ => false) = true := by kernel_rfl
  cases hu : Tryz.prog.underlying 97 with
  | none => rw [hu] at h; cases h
  | some x => rw [hu] at h; cases x <;> first | exact ⟨_, rfl⟩ | cases h
theorem gl_of {W : World} (hL : laidMetH Tryz.prog laidL W) (hsh : W.ShapedOpen Tryz.prog) : Gl.ok Tryz.prog W := by
  rw [MakeChecks.laidMetH_plain _ _ _ (by kernel_rfl)] at hL
  have h3 := hL.tail.tail
  have h5 := h3.tail.tail
  have h6 := h5.tail
  obtain ⟨ms, hi⟩ := und97
  obtain ⟨a5, s5, v5, _⟩ := laid_sentinel h5 (g := 5) (ti := 97) (tp := 160) (te := 162) (ts := 9) (by kernel_rfl) (by kernel_rfl) hi row160 (by kernel_rfl) Tryz.underlying162 rfl rfl (by kernel_rfl) (by kernel_rfl) (by kernel_rfl)
  obtain ⟨a6, s6, v6, _⟩ := laid_sentinel h6 (g := 4) (ti := 97) (tp := 160) (te := 162) (ts := 9) (by kernel_rfl) (by kernel_rfl) hi row160 (by kernel_rfl) Tryz.underlying162 rfl rfl (by kernel_rfl) (by kernel_rfl) (by kernel_rfl)
  refine ⟨?_, ⟨_, _, v6⟩, ⟨_, _, v5⟩, ?_⟩
  · exact Lib.tabIs_of_head (g := 1) (t := 130) (e := 111) (n := 20) (by kernel_rfl) (by kernel_rfl) (by kernel_rfl) (by kernel_rfl) (by kernel_rfl) (by kernel_rfl) h3
  · exact cell_of_shapedOpen_int (t := 3) (zero := #[.int .i64 0]) hsh (of_decide_eq_true (by kernel_rfl)) (by kernel_rfl) rfl (by kernel_rfl) (by kernel_rfl) (by kernel_rfl)
-- the witness
def litsOf : DataW Unit → List Value
  | .agg l => l.filterMap fun | .lit (.int k n) => some (.int k n) | _ => none
  | _ => []
def lits2Of : DataW Unit → List Value
  | .agg l => l.flatMap litsOf
  | _ => []
noncomputable def low : Nat := (World.holding Tryz.prog default ⟨#[], #[], []⟩).heap.size
noncomputable def laidWorld (os : Os) : World :=
  let w0 := World.holding Tryz.prog os ⟨#[.cells #[.string ⟨#[118, 97, 108, 117, 101, 32, 111, 117, 116, 32, 111, 102, 32, 114, 97, 110, 103, 101]⟩] 162, .cells #[.string ⟨#[105, 110, 118, 97, 108, 105, 100, 32, 115, 121, 110, 116, 97, 120]⟩] 162], #[], []⟩
  let put (h : Array Obj) (g : Nat) (cs : List Value) : Array Obj := h.modify g fun
    | .cells _ t frozen => .cells cs.toArray t frozen
    | o => o
  let h1 := put w0.heap 1 (litsOf Proofs.YtomidniaekeafaaGreatDoor.Rows.laid_internal_strconv_uint64pow10)
  let h2 := put h1 2 (litsOf Proofs.YtomidniaekeafaaGreatDoor.Rows.laid_unicode_utf8_first)
  let h3 := put h2 3 (lits2Of Proofs.YtomidniaekeafaaGreatDoor.Rows.laid_unicode_utf8_acceptRanges)
  let h4 := put h3 4 [.iface 160 (.pointer (some ⟨low + 1, 0, none⟩))]
  let h5 := put h4 5 [.iface 160 (.pointer (some ⟨low, 0, none⟩))]
  let h6 := put h5 6 (litsOf Proofs.YtomidniaekeafaaGreatDoor.Rows.laid_math_bits_deBruijn32tab)
  let h7 := put h6 7 (litsOf Proofs.YtomidniaekeafaaGreatDoor.Rows.laid_math_bits_deBruijn64tab)
  { w0 with heap := h7 }
theorem laid_met (os : Os) (args : Array Value) : laidMet Tryz.prog laidL ((laidWorld os).forCall (fun _ _ => 0) ⟨#[], args, []⟩).memory :=
  laidMet_of_run' 8 (by kernel_rfl) (by kernel_rfl)
end Go.Proofs.YtomidniaekeafaaGreatDoorAbs
/- All that the tree's statements stand on. -/
namespace Go.Proofs.YtomidniaekeafaaGreatDoorAbs
end Go.Proofs.YtomidniaekeafaaGreatDoorAbs
