/- hoggetref03.Path; hoggetref15: PathOf, Path, Find. -/
import Derived.Test.YtomidniaekeafaaGreatDoorY7
/- TreeCuts. -/
namespace Go.Proofs.YtomidniaekeafaaGreatDoorAbs
set_option linter.unusedSimpArgs false
set_option linter.unusedVariables false
open Go Go.RowKit Go.Proofs
set_option maxRecDepth 100000
set_option maxHeartbeats 400000
theorem filter_both {α : Type} (p : α → Bool) : ∀ l : List α, (l.filter p).length + (l.filter fun x => !p x).length = l.length
  | [] => rfl
  | a :: l => by
    have := filter_both p l
    cases h : p a <;> simp [h] <;> omega
theorem below_kept {t : List Pl} {i : Nat} (g : Good t) (hi : i < t.length) : (belowL t i).length + rkN t i t.length = t.length := by
  have hh : holdsF t i = true := holds_iff.2 ⟨g, by omega, by omega⟩
  rw [belowL, hh, if_pos rfl, Int.toNat_natCast]
  unfold belowK rkN keptN
  rw [List.length_map]
  have e : (List.range t.length).filter (fun j => decide (i ≤ j) && underF t j i) = (List.range t.length).filter (fun j => underF t j i) := by
    refine List.filter_congr fun j hj => ?_
    have hj := List.mem_range.1 hj
    cases hu : underF t j i with
    | false => simp
    | true => have := under_ge g hj hu; simp; omega
  rw [e]
  have := filter_both (fun j => underF t j i) (List.range t.length)
  rw [List.length_range] at this
  exact this
theorem below_mem {t : List Pl} {i k : Nat} (g : Good t) (hi : i < t.length) (hk : k < t.length) : (belowL t i).any (fun x => decide (x = (k : Int))) = underF t k i := by
  have hh : holdsF t i = true := holds_iff.2 ⟨g, by omega, by omega⟩
  rw [belowL, hh, if_pos rfl, Int.toNat_natCast]
  unfold belowK
  rw [Bool.eq_iff_iff, List.any_eq_true]
  constructor
  · rintro ⟨x, hx, h⟩
    obtain ⟨j, hj, rfl⟩ := List.mem_map.1 hx
    have h := of_decide_eq_true h
    have : j = k := by omega
    subst this
    have := (List.mem_filter.1 hj).2
    simp at this
    exact this.2
  · intro hu
    have := under_ge g hk hu
    exact ⟨k, List.mem_map.2 ⟨k, List.mem_filter.2 ⟨List.mem_range.2 hk, by simp [hu]; omega⟩, rfl⟩, by simp⟩
theorem cuts9_ok (t : List Pl) (i : Int) (hl : t.length ≤ 9223372036854775807) : CallsOK Tryz.prog 9 [rowT Pl.cells t, iV i] (bV true) [] := by
  refine callsOK mixed Tryz.call9 Tryz.func9 rfl (by rw [Tryz.ntmps9]; simp) ?_ rfl
  rw [Tryz.ntmps9]
  repeat with_reducible refine aw_assoc ?_
  first | with_reducible refine aw_region0 (by decide +kernel) fun K' hK => ?_ | with_reducible refine aw_toS (aw_region0 (by decide +kernel) fun K' hK => ?_)
  simp []
  first | refine hK _ _ _ ?_ | done
  clear K' hK
  repeat with_reducible refine aw_assoc ?_
  first | with_reducible refine aw_region0 (by decide +kernel) fun K' hK => ?_ | with_reducible refine aw_toS (aw_region0 (by decide +kernel) fun K' hK => ?_)
  simp []
  refine acall_flat (large10_ok t ⟨#[]⟩ v0 hl) rfl (by simp <;> rfl) ?_
  cases hlg : largeF t ⟨#[]⟩ v0 with
  | true =>
    simp
    first | refine hK _ _ _ ?_ | done
    clear K' hK
    repeat with_reducible refine aw_assoc ?_
    first | with_reducible refine aw_condP fun A B hA hB => ?_ | with_reducible refine aw_toS (aw_condP fun A B hA hB => ?_)
    simp []
    refine ⟨fun hc => hA ?_, fun hc => hB ?_⟩ <;> clear hA hB A B <;> (try (simp at hc; done)) <;> (try (exfalso; simp at hc; omega)) <;> clear hc <;> (try with_reducible refine aw_skip ?_)
    repeat with_reducible refine aw_assoc ?_
    first | with_reducible refine aw_region0 (by decide +kernel) fun K' hK => ?_ | with_reducible refine aw_toS (aw_region0 (by decide +kernel) fun K' hK => ?_)
    simp []
    first | refine hK _ _ _ ?_ | done
    clear K' hK
    repeat with_reducible refine aw_assoc ?_
    first | with_reducible refine aw_ret ?_ | with_reducible refine aw_retL ?_ | with_reducible refine aw_skipL ?_
    simp [blockK, loopK, Post, resA, res1, expT, expA, exp1, expM, expL, okT, okA, ok1, rowOf, Tryz.f9]
  | false =>
    obtain ⟨ht, hn, hv⟩ := large_not hlg
    by_cases h60 : (60 : Int) < t.length
    · simp [h60]
      first | refine hK _ _ _ ?_ | done
      clear K' hK
      repeat with_reducible refine aw_assoc ?_
      first | with_reducible refine aw_condP fun A B hA hB => ?_ | with_reducible refine aw_toS (aw_condP fun A B hA hB => ?_)
      simp []
      refine ⟨fun hc => hA ?_, fun hc => hB ?_⟩ <;> clear hA hB A B <;> (try (simp at hc; done)) <;> (try (exfalso; simp at hc; omega)) <;> clear hc <;> (try with_reducible refine aw_skip ?_)
      repeat with_reducible refine aw_assoc ?_
      first | with_reducible refine aw_region0 (by decide +kernel) fun K' hK => ?_ | with_reducible refine aw_toS (aw_region0 (by decide +kernel) fun K' hK => ?_)
      simp []
      first | refine hK _ _ _ ?_ | done
      clear K' hK
      repeat with_reducible refine aw_assoc ?_
      first | with_reducible refine aw_ret ?_ | with_reducible refine aw_retL ?_ | with_reducible refine aw_skipL ?_
      simp [blockK, loopK, Post, resA, res1, expT, expA, exp1, expM, expL, okT, okA, ok1, rowOf, Tryz.f9]
    have htc := oks_cutR (i := i) ht
    simp [h60]
    first | refine hK _ _ _ ?_ | done
    clear K' hK
    repeat with_reducible refine aw_assoc ?_
    first | with_reducible refine aw_condP fun A B hA hB => ?_ | with_reducible refine aw_toS (aw_condP fun A B hA hB => ?_)
    simp []
    refine ⟨fun hc => hA ?_, fun hc => hB ?_⟩ <;> clear hA hB A B <;> (try (simp at hc; done)) <;> (try (exfalso; simp at hc; omega)) <;> clear hc <;> (try with_reducible refine aw_skip ?_)
    repeat with_reducible refine aw_assoc ?_
    first | with_reducible refine aw_region0 (by decide +kernel) fun K' hK => ?_ | with_reducible refine aw_toS (aw_region0 (by decide +kernel) fun K' hK => ?_)
    simp []
    refine acall_new (cut14_ok t ht i) (by simp <;> rfl) ?_
    simp [addJ_one]
    first | refine hK _ _ _ ?_ | done
    clear K' hK
    by_cases h0 : cutCode t i = 0
    case neg =>
      have e1 : cutR t i = [] := by rw [cutR, if_neg h0]
      repeat with_reducible refine aw_assoc ?_
      first | with_reducible refine aw_region0 (by decide +kernel) fun K' hK => ?_ | with_reducible refine aw_toS (aw_region0 (by decide +kernel) fun K' hK => ?_)
      simp [h0]
      first | refine hK _ _ _ ?_ | done
      clear K' hK
      repeat with_reducible refine aw_assoc ?_
      first | with_reducible refine aw_condP fun A B hA hB => ?_ | with_reducible refine aw_toS (aw_condP fun A B hA hB => ?_)
      simp []
      refine ⟨fun hc => hA ?_, fun hc => hB ?_⟩ <;> clear hA hB A B <;> (try (simp at hc; done)) <;> (try (exfalso; simp at hc; omega)) <;> clear hc <;> (try with_reducible refine aw_skip ?_)
      repeat with_reducible refine aw_assoc ?_
      first | with_reducible refine aw_region0 (by decide +kernel) fun K' hK => ?_ | with_reducible refine aw_toS (aw_region0 (by decide +kernel) fun K' hK => ?_)
      simp []
      refine acall_flat stands17_ok rfl (by simp) ?_
      simp [e1]
      first | refine hK _ _ _ ?_ | done
      clear K' hK
      repeat with_reducible refine aw_assoc ?_
      first | with_reducible refine aw_ret ?_ | with_reducible refine aw_retL ?_ | with_reducible refine aw_skipL ?_
      simp [blockK, loopK, Post, resA, res1, expT, expA, exp1, expM, expL, okT, okA, ok1, rowOf, Tryz.f9]
    obtain ⟨g, h1, h2⟩ := cutCode_inv h0
    have e1 : cutR t i = cutT t i t.length := by rw [cutR, if_pos h0]
    rw [e1] at htc
    repeat with_reducible refine aw_assoc ?_
    first | with_reducible refine aw_region0 (by decide +kernel) fun K' hK => ?_ | with_reducible refine aw_toS (aw_region0 (by decide +kernel) fun K' hK => ?_)
    simp [h0]
    first | refine hK _ _ _ ?_ | done
    clear K' hK
    repeat with_reducible refine aw_assoc ?_
    first | with_reducible refine aw_condP fun A B hA hB => ?_ | with_reducible refine aw_toS (aw_condP fun A B hA hB => ?_)
    simp []
    refine ⟨fun hc => hA ?_, fun hc => hB ?_⟩ <;> clear hA hB A B <;> (try (simp at hc; done)) <;> (try (exfalso; simp at hc; omega)) <;> clear hc <;> (try with_reducible refine aw_skip ?_)
    obtain ⟨n, rfl⟩ : ∃ n : Nat, i = n := ⟨i.toNat, by omega⟩
    have hn : n < t.length := by omega
    have gc := good_cut g h1 h2
    have hl1 := ht.1
    repeat with_reducible refine aw_assoc ?_
    first | with_reducible refine aw_region0 (by decide +kernel) fun K' hK => ?_ | with_reducible refine aw_toS (aw_region0 (by decide +kernel) fun K' hK => ?_)
    simp []
    refine acall_new (below28_ok t ht n) (by simp <;> rfl) ?_
    simp [addJ_one]
    first | refine hK _ _ _ ?_ | done
    clear K' hK
    repeat with_reducible refine aw_assoc ?_
    first | with_reducible refine aw_region0 (by decide +kernel) fun K' hK => ?_ | with_reducible refine aw_toS (aw_region0 (by decide +kernel) fun K' hK => ?_)
    simp []
    first | refine hK _ _ _ ?_ | done
    clear K' hK
    generalize hbl : belowL t n = bl
    refine aw_gen (fun s G nx => s 0 = rowT Pl.cells t ∧ s 5 = .row 0 (cutT t n t.length).length ∧ s 7 = .row 1 bl.length ∧ s 8 = iV 0 ∧ G 0 = some (.row 34 (flat Pl.cells (cutT t n t.length))) ∧ G 1 = some (.row 3 (flat iC bl))) ?_ ?_
    · simp [e1]
    rintro s G nx ⟨s0, s5, s7, s8, g0, g1⟩
    have hbs : bl.length ≤ t.length := by
      have := below_kept g hn
      rw [hbl] at this; omega
    repeat with_reducible refine aw_assoc ?_
    first | with_reducible refine aw_block ?_ | with_reducible refine aw_toS (aw_block ?_)
    refine aw_loop (fun s G nx => s 0 = rowT Pl.cells t ∧ s 5 = .row 0 (cutT t n t.length).length ∧ s 7 = .row 1 bl.length ∧ G 0 = some (.row 34 (flat Pl.cells (cutT t n t.length))) ∧ G 1 = some (.row 3 (flat iC bl)) ∧ ∃ k : Nat, s 8 = iV k ∧ k ≤ t.length) (fun s _ _ => match s 8 with | .v (.int _ n) => t.length - n.toNat | _ => 0) ?_ ?_
    · exact ⟨by simp [s0], by simp [s5], by simp [s7], g0, g1, 0, by simp [s8], by omega⟩
    · rintro s G nx - ⟨s0, s5, s7, g0, g1, k, s8, hk⟩
      have o8 := s8
      have hw : IntKind.i64.wrap (↑k + 1) = ((k + 1 : Nat) : Int) := wrapS (by omega)
      repeat with_reducible refine aw_assoc ?_
      first | with_reducible refine aw_region0 (by decide +kernel) fun K' hK => ?_ | with_reducible refine aw_toS (aw_region0 (by decide +kernel) fun K' hK => ?_)
      simp [s0, s8]
      first | refine hK _ _ _ ?_ | done
      clear K' hK
      repeat with_reducible refine aw_assoc ?_
      first | with_reducible refine aw_condP fun A B hA hB => ?_ | with_reducible refine aw_toS (aw_condP fun A B hA hB => ?_)
      simp []
      refine ⟨fun hk2 => hA ?_, fun hk2 => hB ?_⟩ <;> clear hA hB A B <;> (try simp at hk2) <;> (try with_reducible refine aw_skip ?_)
      · have hh : holdsF t k = true := holds_iff.2 ⟨g, by omega, by omega⟩
        have hP := path21_ok t ht k
        rw [hh] at hP
        have hF := find22_ok _ htc (pathOf t k) (by have := pathOf_size (t := t) (i := k); omega)
        rw [find_else g gc hk2, find_cut g h1 h2 hk2] at hF
        have hcT : treeOf Tryz.prog G (.row 0 (cutT t n t.length).length) = some (rowT Pl.cells (cutT t n t.length)) := treeOf_of g0 c34 rfl
        have hu := below_mem g hn hk2
        rw [hbl] at hu
        repeat with_reducible refine aw_assoc ?_
        first | with_reducible refine aw_block ?_ | with_reducible refine aw_toS (aw_block ?_)
        repeat with_reducible refine aw_assoc ?_
        first | with_reducible refine aw_region0 (by decide +kernel) fun K' hK => ?_ | with_reducible refine aw_toS (aw_region0 (by decide +kernel) fun K' hK => ?_)
        simp [s0, s8]
        refine acall_flat hP rfl (by simp) ?_
        simp
        first | refine hK _ _ _ ?_ | done
        clear K' hK
        repeat with_reducible refine aw_assoc ?_
        first | with_reducible refine aw_region0 (by decide +kernel) fun K' hK => ?_ | with_reducible refine aw_toS (aw_region0 (by decide +kernel) fun K' hK => ?_)
        simp [s5]
        refine acall_flat hF rfl (by simp [hcT] <;> rfl) ?_
        simp
        first | refine hK _ _ _ ?_ | done
        clear K' hK
        repeat with_reducible refine aw_assoc ?_
        first | with_reducible refine aw_region0 (by decide +kernel) fun K' hK => ?_ | with_reducible refine aw_toS (aw_region0 (by decide +kernel) fun K' hK => ?_)
        simp []
        first | refine hK _ _ _ ?_ | done
        clear K' hK
        repeat with_reducible refine aw_assoc ?_
        first | with_reducible refine aw_region0 (by decide +kernel) fun K' hK => ?_ | with_reducible refine aw_toS (aw_region0 (by decide +kernel) fun K' hK => ?_)
        simp []
        first | refine hK _ _ _ ?_ | done
        clear K' hK
        refine aw_gen (fun s G nx => s 0 = rowT Pl.cells t ∧ s 5 = .row 0 (cutT t n t.length).length ∧ s 7 = .row 1 bl.length ∧ s 8 = iV k ∧ s 10 = bV true ∧ s 11 = iV ((if underF t k n = true then none else some (rkN t n k : Int)).getD 0) ∧ s 12 = bV (!underF t k n) ∧ s 13 = bV false ∧ s 14 = iV 0 ∧ G 0 = some (.row 34 (flat Pl.cells (cutT t n t.length))) ∧ G 1 = some (.row 3 (flat iC bl))) ?_ ?_
        · simp [s0, s5, s7, s8]
          refine ⟨?_, g0, g1⟩
          cases underF t k n <;> rfl
        rintro s G nx ⟨s0, s5, s7, s8, s10, s11, s12, s13, s14, g0, g1⟩
        repeat with_reducible refine aw_assoc ?_
        first | with_reducible refine aw_block ?_ | with_reducible refine aw_toS (aw_block ?_)
        refine aw_loop (fun s G nx => s 0 = rowT Pl.cells t ∧ s 5 = .row 0 (cutT t n t.length).length ∧ s 7 = .row 1 bl.length ∧ s 8 = iV k ∧ s 10 = bV true ∧ s 11 = iV ((if underF t k n = true then none else some (rkN t n k : Int)).getD 0) ∧ s 12 = bV (!underF t k n) ∧
            G 0 = some (.row 34 (flat Pl.cells (cutT t n t.length))) ∧ G 1 = some (.row 3 (flat iC bl)) ∧ ∃ m : Nat, s 14 = iV m ∧ m ≤ bl.length ∧ s 13 = bV ((bl.take m).any fun x => decide (x = (k : Int)))) (fun s _ _ => match s 14 with | .v (.int _ n) => bl.length - n.toNat | _ => 0) ?_ ?_
        · exact ⟨by simp [s0], by simp [s5], by simp [s7], by simp [s8], by simp [s10], by simp [s11], by simp [s12], g0, g1, 0, by simp [s14], by omega, by simp [s13]⟩
        · rintro s G nx - ⟨s0, s5, s7, s8, s10, s11, s12, g0, g1, m, s14, hm, s13⟩
          have hw2 : IntKind.i64.wrap (↑m + 1) = ((m + 1 : Nat) : Int) := wrapS (by omega)
          repeat with_reducible refine aw_assoc ?_
          first | with_reducible refine aw_region0 (by decide +kernel) fun K' hK => ?_ | with_reducible refine aw_toS (aw_region0 (by decide +kernel) fun K' hK => ?_)
          simp [s7, s14, g1]
          first | refine hK _ _ _ ?_ | done
          clear K' hK
          repeat with_reducible refine aw_assoc ?_
          first | with_reducible refine aw_condP fun A B hA hB => ?_ | with_reducible refine aw_toS (aw_condP fun A B hA hB => ?_)
          simp []
          refine ⟨fun hm2 => hA ?_, fun hm2 => hB ?_⟩ <;> clear hA hB A B <;> (try simp at hm2) <;> (try with_reducible refine aw_skip ?_)
          · have hstep := any_take1 (p := fun x => decide (x = (k : Int))) hm2
            repeat with_reducible refine aw_assoc ?_
            first | with_reducible refine aw_block ?_ | with_reducible refine aw_toS (aw_block ?_)
            cases ha : (bl.take m).any fun x => decide (x = (k : Int)) with
            | true =>
              rw [ha] at s13 hstep
              repeat with_reducible refine aw_assoc ?_
              first | with_reducible refine aw_region0 (by decide +kernel) fun K' hK => ?_ | with_reducible refine aw_toS (aw_region0 (by decide +kernel) fun K' hK => ?_)
              simp [s13]
              first | refine hK _ _ _ ?_ | done
              clear K' hK
              first | with_reducible refine aw_skipL ?_ | skip
              refine blockK_normal ?_
              repeat with_reducible refine aw_assoc ?_
              first | with_reducible refine aw_region0 (by decide +kernel) fun K' hK => ?_ | with_reducible refine aw_toS (aw_region0 (by decide +kernel) fun K' hK => ?_)
              simp [s14, hw2]
              first | refine hK _ _ _ ?_ | done
              clear K' hK
              refine aw_skipL (loopK_normal ?_ ?_)
              · exact ⟨by simp [s0], by simp [s5], by simp [s7], by simp [s8], by simp [s10], by simp [s11], by simp [s12], g0, g1, m + 1, by simp [hw2], by omega, by rw [hstep]; simp⟩
              · simp [s14, hw2]; omega
            | false =>
              rw [ha] at s13 hstep
              repeat with_reducible refine aw_assoc ?_
              first | with_reducible refine aw_region0 (by decide +kernel) fun K' hK => ?_ | with_reducible refine aw_toS (aw_region0 (by decide +kernel) fun K' hK => ?_)
              simp [s13, s7, s14, s8, g1, hm2]
              first | refine hK _ _ _ ?_ | done
              clear K' hK
              first | with_reducible refine aw_skipL ?_ | skip
              refine blockK_normal ?_
              repeat with_reducible refine aw_assoc ?_
              first | with_reducible refine aw_region0 (by decide +kernel) fun K' hK => ?_ | with_reducible refine aw_toS (aw_region0 (by decide +kernel) fun K' hK => ?_)
              simp [s14, hw2]
              first | refine hK _ _ _ ?_ | done
              clear K' hK
              refine aw_skipL (loopK_normal ?_ ?_)
              · exact ⟨by simp [s0], by simp [s5], by simp [s7], by simp [s8], by simp [s10], by simp [s11], by simp [s12], g0, g1, m + 1, by simp [hw2], by omega, by rw [hstep]; simp⟩
              · simp [s14, hw2]; omega
          · repeat with_reducible refine aw_assoc ?_
            first | with_reducible refine aw_exit ?_ | with_reducible refine aw_exitL ?_
            refine loopK_exit (blockK_exit ?_)
            have : m = bl.length := by omega
            subst this
            rw [List.take_length, hu] at s13
            cases hun : underF t k n with
            | true =>
              rw [hun] at s12 s13
              repeat with_reducible refine aw_assoc ?_
              first | with_reducible refine aw_region1 (by decide +kernel) (by decide +kernel) fun K' hK => ?_ | with_reducible refine aw_toS (aw_region1 (by decide +kernel) (by decide +kernel) fun K' hK => ?_)
              simp (maxSteps := 1000000) [s10, s12, s13]
              first | refine hK _ _ _ ?_ | done
              clear K' hK
              repeat with_reducible refine aw_assoc ?_
              first | with_reducible refine aw_condP fun A B hA hB => ?_ | with_reducible refine aw_toS (aw_condP fun A B hA hB => ?_)
              simp []
              refine ⟨fun hc => hA ?_, fun hc => hB ?_⟩ <;> clear hA hB A B <;> (try (simp at hc; done)) <;> (try (exfalso; simp at hc; omega)) <;> clear hc <;> (try with_reducible refine aw_skip ?_)
              first | with_reducible refine aw_skipL ?_ | skip
              refine blockK_normal ?_
              repeat with_reducible refine aw_assoc ?_
              first | with_reducible refine aw_region0 (by decide +kernel) fun K' hK => ?_ | with_reducible refine aw_toS (aw_region0 (by decide +kernel) fun K' hK => ?_)
              simp [s8, hw]
              first | refine hK _ _ _ ?_ | done
              clear K' hK
              refine aw_skipL (loopK_normal ?_ ?_)
              · exact ⟨by simp [s0], by simp [s5], by simp [s7], g0, g1, k + 1, by simp [hw], by omega⟩
              · simp [o8, hw]; omega
            | false =>
              rw [hun] at s11 s12 s13
              have a1 : ¬ (rkN t n k : Int) < 0 := by omega
              have a2 : rkN t n k < (cutT t n t.length).length := by rw [cut_len]; exact rk_lt hun hk2
              have a3 : ¬ ((cutT t n t.length).length : Int) ≤ rkN t n k := by omega
              have a4 : (nth (cutT t n t.length) (rkN t n k)).ver = (nth t k).ver := by rw [cut_get hk2 hun]; rfl
              simp only [Bool.false_eq_true, if_false, Option.getD_some, Bool.not_false] at s11 s12
              repeat with_reducible refine aw_assoc ?_
              first | with_reducible refine aw_region1 (by decide +kernel) (by decide +kernel) fun K' hK => ?_ | with_reducible refine aw_toS (aw_region1 (by decide +kernel) (by decide +kernel) fun K' hK => ?_)
              refine aops_part 10 fun K2 hK2 => ?_
              simp [s10, s12, s13]
              refine hK2 _ _ _ ?_
              clear K2 hK2
              refine aops_part 9 fun K2 hK2 => ?_
              simp [s11, s5, g0, a1, a3]
              refine hK2 _ _ _ ?_
              clear K2 hK2
              simp [s11, s5, s0, s8, g0, a2, a4, hk2]
              first | refine hK _ _ _ ?_ | done
              clear K' hK
              repeat with_reducible refine aw_assoc ?_
              first | with_reducible refine aw_condP fun A B hA hB => ?_ | with_reducible refine aw_toS (aw_condP fun A B hA hB => ?_)
              simp []
              refine ⟨fun hc => hA ?_, fun hc => hB ?_⟩ <;> clear hA hB A B <;> (try (simp at hc; done)) <;> (try (exfalso; simp at hc; omega)) <;> clear hc <;> (try with_reducible refine aw_skip ?_)
              first | with_reducible refine aw_skipL ?_ | skip
              refine blockK_normal ?_
              repeat with_reducible refine aw_assoc ?_
              first | with_reducible refine aw_region0 (by decide +kernel) fun K' hK => ?_ | with_reducible refine aw_toS (aw_region0 (by decide +kernel) fun K' hK => ?_)
              simp [s8, hw]
              first | refine hK _ _ _ ?_ | done
              clear K' hK
              refine aw_skipL (loopK_normal ?_ ?_)
              · exact ⟨by simp [s0], by simp [s5], by simp [s7], g0, g1, k + 1, by simp [hw], by omega⟩
              · simp [o8, hw]; omega
      · repeat with_reducible refine aw_assoc ?_
        first | with_reducible refine aw_exit ?_ | with_reducible refine aw_exitL ?_
        refine loopK_exit (blockK_exit ?_)
        have hlen : (bl.length : Int) + (cutT t n t.length).length = t.length := by
          have := below_kept g hn
          rw [hbl] at this
          rw [cut_len]; omega
        have hw3 : IntKind.i64.wrap (((cutT t n t.length).length : Int) + bl.length) = t.length := by
          rw [wrap64 (by omega) (by omega)]; omega
        repeat with_reducible refine aw_assoc ?_
        first | with_reducible refine aw_region0 (by decide +kernel) fun K' hK => ?_ | with_reducible refine aw_toS (aw_region0 (by decide +kernel) fun K' hK => ?_)
        simp []
        refine acall_flat stands17_ok rfl (by simp) ?_
        simp [s5, s7, s0, g0, g1, hw3]
        first | refine hK _ _ _ ?_ | done
        clear K' hK
        repeat with_reducible refine aw_assoc ?_
        first | with_reducible refine aw_ret ?_ | with_reducible refine aw_retL ?_ | with_reducible refine aw_skipL ?_
        simp [blockK, loopK, Post, resA, res1, expT, expA, exp1, expM, expL, okT, okA, ok1, rowOf, Tryz.f9]
end Go.Proofs.YtomidniaekeafaaGreatDoorAbs
/- hoggetref03: slash, plain, Good. -/
namespace Go.Proofs.YtomidniaekeafaaGreatDoorAbs
set_option linter.unusedSimpArgs false
set_option linter.unusedVariables false
open Go Go.RowKit Go.Proofs
set_option maxRecDepth 100000
set_option maxHeartbeats 1000000
theorem ib_at {l : List UInt8} {c : UInt8} {i : Nat} (h : i < l.length) (hc : by8 l i = c) (hn : ∀ j, j < i → by8 l j ≠ c) : Lib.indexByte l c = i := by
  have e : l = l.take i ++ c :: l.drop (i + 1) := by
    rw [← hc, by8_get h, List.getElem_cons_drop]; simp
  have hm : c ∉ l.take i := by
    intro hm
    obtain ⟨j, hj, he⟩ := List.mem_iff_getElem.1 hm
    rw [List.length_take] at hj
    rw [List.getElem_take] at he
    exact hn j (by omega) (by rw [by8_get (by omega), he])
  rw [e, ib_in hm, List.length_take]
  omega
theorem ib_no {l : List UInt8} {c : UInt8} (hn : ∀ j, j < l.length → by8 l j ≠ c) : Lib.indexByte l c = -1 := by
  refine ib_out fun hm => ?_
  obtain ⟨j, hj, he⟩ := List.mem_iff_getElem.1 hm
  exact hn j hj (by rw [by8_get hj, he])
theorem u8_of {c : UInt8} {n : Nat} (h : (c.toNat : Int) = n) (hn : n < 256) : c = UInt8.ofNat n := by
  apply UInt8.toNat_inj.1
  rw [UInt8.toNat_ofNat_of_lt' (by simpa using hn)]
  omega
theorem slash55_ok (s : Bs) (hs : s.size ≤ 4611686018427387904) : CallsOK Tryz.prog 55 [sV s] (iV (Lib.indexByte (bsL s) 47)) [] := by
  refine callsOK mixed Tryz.call55 Tryz.func55 rfl (by rw [Tryz.ntmps55]; simp) ?_ rfl
  rw [Tryz.ntmps55]
  have hl : (bsL s).length = s.size := bsL_len s
  repeat with_reducible refine aw_assoc ?_
  first | with_reducible refine aw_region0 (by decide +kernel) fun K' hK => ?_ | with_reducible refine aw_toS (aw_region0 (by decide +kernel) fun K' hK => ?_)
  simp []
  first | refine hK _ _ _ ?_ | done
  clear K' hK
  repeat with_reducible refine aw_assoc ?_
  first | with_reducible refine aw_region0 (by decide +kernel) fun K' hK => ?_ | with_reducible refine aw_toS (aw_region0 (by decide +kernel) fun K' hK => ?_)
  simp []
  first | refine hK _ _ _ ?_ | done
  clear K' hK
  repeat with_reducible refine aw_assoc ?_
  first | with_reducible refine aw_block ?_ | with_reducible refine aw_toS (aw_block ?_)
  refine aw_loop (fun t G nx => t 0 = sV s ∧ ∃ i : Nat, t 3 = iV i ∧ i ≤ s.size ∧ ∀ j, j < i → by8 (bsL s) j ≠ 47) (fun s' _ _ => match s' 3 with | .v (.int _ n) => s.size - n.toNat | _ => 0) ?_ ?_
  · exact ⟨by simp, 0, by simp, by omega, fun j hj => by omega⟩
  · rintro t G nx - ⟨t0, i, t3, hi, hn⟩
    have hw : IntKind.i64.wrap (↑i + 1) = ((i + 1 : Nat) : Int) := wrapS (by omega)
    repeat with_reducible refine aw_assoc ?_
    first | with_reducible refine aw_region0 (by decide +kernel) fun K' hK => ?_ | with_reducible refine aw_toS (aw_region0 (by decide +kernel) fun K' hK => ?_)
    simp [t0, t3]
    first | refine hK _ _ _ ?_ | done
    clear K' hK
    repeat with_reducible refine aw_assoc ?_
    first | with_reducible refine aw_condP fun A B hA hB => ?_ | with_reducible refine aw_toS (aw_condP fun A B hA hB => ?_)
    simp []
    refine ⟨fun hi2 => hA ?_, fun hi2 => hB ?_⟩ <;> clear hA hB A B <;> (try simp at hi2) <;> (try with_reducible refine aw_skip ?_)
    · repeat with_reducible refine aw_assoc ?_
      first | with_reducible refine aw_block ?_ | with_reducible refine aw_toS (aw_block ?_)
      have hcc : byteA s i = by8 (bsL s) i := rfl
      generalize hc : by8 (bsL s) i = c at hcc
      by_cases a1 : (c.toNat : Int) = 47
      · have hc47 : c = 47 := u8_of (n := 47) a1 (by decide)
        repeat with_reducible refine aw_assoc ?_
        first | with_reducible refine aw_region0 (by decide +kernel) fun K' hK => ?_ | with_reducible refine aw_toS (aw_region0 (by decide +kernel) fun K' hK => ?_)
        simp [t0, t3, hi2, hcc, a1]
        first | refine hK _ _ _ ?_ | done
        clear K' hK
        repeat with_reducible refine aw_assoc ?_
        first | with_reducible refine aw_condP fun A B hA hB => ?_ | with_reducible refine aw_toS (aw_condP fun A B hA hB => ?_)
        simp []
        refine ⟨fun hc => hA ?_, fun hc => hB ?_⟩ <;> clear hA hB A B <;> (try (simp at hc; done)) <;> (try (exfalso; simp at hc; omega)) <;> clear hc <;> (try with_reducible refine aw_skip ?_)
        repeat with_reducible refine aw_assoc ?_
        first | with_reducible refine aw_region0 (by decide +kernel) fun K' hK => ?_ | with_reducible refine aw_toS (aw_region0 (by decide +kernel) fun K' hK => ?_)
        simp [t3]
        first | refine hK _ _ _ ?_ | done
        clear K' hK
        repeat with_reducible refine aw_assoc ?_
        first | with_reducible refine aw_ret ?_ | with_reducible refine aw_retL ?_ | with_reducible refine aw_skipL ?_
        simp [blockK, loopK, Post, resA, res1, expT, expA, exp1, expM, expL, okT, okA, ok1, rowOf, Tryz.f55]
        exact (ib_at (by omega) (by rw [hc, hc47]) hn).symm
      · repeat with_reducible refine aw_assoc ?_
        first | with_reducible refine aw_region0 (by decide +kernel) fun K' hK => ?_ | with_reducible refine aw_toS (aw_region0 (by decide +kernel) fun K' hK => ?_)
        simp [t0, t3, hi2, hcc, a1]
        first | refine hK _ _ _ ?_ | done
        clear K' hK
        repeat with_reducible refine aw_assoc ?_
        first | with_reducible refine aw_condP fun A B hA hB => ?_ | with_reducible refine aw_toS (aw_condP fun A B hA hB => ?_)
        simp []
        refine ⟨fun hc => hA ?_, fun hc => hB ?_⟩ <;> clear hA hB A B <;> (try (simp at hc; done)) <;> (try (exfalso; simp at hc; omega)) <;> clear hc <;> (try with_reducible refine aw_skip ?_)
        first | with_reducible refine aw_skipL ?_ | skip
        refine blockK_normal ?_
        repeat with_reducible refine aw_assoc ?_
        first | with_reducible refine aw_region0 (by decide +kernel) fun K' hK => ?_ | with_reducible refine aw_toS (aw_region0 (by decide +kernel) fun K' hK => ?_)
        simp [t3, hw]
        first | refine hK _ _ _ ?_ | done
        clear K' hK
        refine aw_skipL (loopK_normal ?_ ?_)
        · refine ⟨by simp [t0], i + 1, by simp [hw], by omega, fun j hj => ?_⟩
          rcases Nat.lt_or_ge j i with h | h
          · exact hn j h
          · have : j = i := by omega
            subst this
            rw [hc]
            intro h
            exact a1 (by rw [h]; rfl)
        · simp [t3, hw]; omega
    · repeat with_reducible refine aw_assoc ?_
      first | with_reducible refine aw_exit ?_ | with_reducible refine aw_exitL ?_
      refine loopK_exit (blockK_exit ?_)
      repeat with_reducible refine aw_assoc ?_
      first | with_reducible refine aw_region0 (by decide +kernel) fun K' hK => ?_ | with_reducible refine aw_toS (aw_region0 (by decide +kernel) fun K' hK => ?_)
      simp []
      first | refine hK _ _ _ ?_ | done
      clear K' hK
      repeat with_reducible refine aw_assoc ?_
      first | with_reducible refine aw_ret ?_ | with_reducible refine aw_retL ?_ | with_reducible refine aw_skipL ?_
      simp [blockK, loopK, Post, resA, res1, expT, expA, exp1, expM, expL, okT, okA, ok1, rowOf, Tryz.f55]
      exact (ib_no fun j hj => hn j (by omega)).symm
theorem plain56_ok (s : Bs) (hs : s.size ≤ 4611686018427387904) : CallsOK Tryz.prog 56 [sV s] (bV (plainF (bsL s))) [] := by
  refine callsOK mixed Tryz.call56 Tryz.func56 rfl (by rw [Tryz.ntmps56]; simp) ?_ rfl
  rw [Tryz.ntmps56]
  have hl : (bsL s).length = s.size := bsL_len s
  repeat with_reducible refine aw_assoc ?_
  first | with_reducible refine aw_region0 (by decide +kernel) fun K' hK => ?_ | with_reducible refine aw_toS (aw_region0 (by decide +kernel) fun K' hK => ?_)
  simp []
  first | refine hK _ _ _ ?_ | done
  clear K' hK
  repeat with_reducible refine aw_assoc ?_
  first | with_reducible refine aw_region0 (by decide +kernel) fun K' hK => ?_ | with_reducible refine aw_toS (aw_region0 (by decide +kernel) fun K' hK => ?_)
  simp []
  first | refine hK _ _ _ ?_ | done
  clear K' hK
  repeat with_reducible refine aw_assoc ?_
  first | with_reducible refine aw_block ?_ | with_reducible refine aw_toS (aw_block ?_)
  refine aw_loop (fun t G nx => t 0 = sV s ∧ ∃ i : Nat, t 3 = iV i ∧ i ≤ s.size ∧ (List.range i).all (plAt (bsL s)) = true) (fun s' _ _ => match s' 3 with | .v (.int _ n) => s.size - n.toNat | _ => 0) ?_ ?_
  · exact ⟨by simp, 0, by simp, by omega, by simp⟩
  · rintro t G nx - ⟨t0, i, t3, hi, ht⟩
    have hw : IntKind.i64.wrap (↑i + 1) = ((i + 1 : Nat) : Int) := wrapS (by omega)
    repeat with_reducible refine aw_assoc ?_
    first | with_reducible refine aw_region0 (by decide +kernel) fun K' hK => ?_ | with_reducible refine aw_toS (aw_region0 (by decide +kernel) fun K' hK => ?_)
    simp [t0, t3]
    first | refine hK _ _ _ ?_ | done
    clear K' hK
    repeat with_reducible refine aw_assoc ?_
    first | with_reducible refine aw_condP fun A B hA hB => ?_ | with_reducible refine aw_toS (aw_condP fun A B hA hB => ?_)
    simp []
    refine ⟨fun hi2 => hA ?_, fun hi2 => hB ?_⟩ <;> clear hA hB A B <;> (try simp at hi2) <;> (try with_reducible refine aw_skip ?_)
    · repeat with_reducible refine aw_assoc ?_
      first | with_reducible refine aw_block ?_ | with_reducible refine aw_toS (aw_block ?_)
      have hcc : byteA s i = by8 (bsL s) i := rfl
      generalize hc : by8 (bsL s) i = c at hcc
      repeat with_reducible refine aw_assoc ?_
      first | with_reducible refine aw_region0 (by decide +kernel) fun K' hK => ?_ | with_reducible refine aw_toS (aw_region0 (by decide +kernel) fun K' hK => ?_)
      simp [t0, t3, hi2, hcc]
      first | refine hK _ _ _ ?_ | done
      clear K' hK
      repeat with_reducible refine aw_assoc ?_
      refine aw_cut (fun t' G' nx' => t' 0 = sV s ∧ t' 3 = iV i ∧ t' 4 = .v (.int .u8 c.toNat) ∧ t' 5 = bV (wordB c)) ?_ ?_
      · by_cases a1 : (97 : Int) ≤ (c.toNat : Int)
        · by_cases a2 : (c.toNat : Int) ≤ 122
          · repeat with_reducible refine aw_assoc ?_
            first | with_reducible refine aw_region0 (by decide +kernel) fun K' hK => ?_ | with_reducible refine aw_toS (aw_region0 (by decide +kernel) fun K' hK => ?_)
            simp [a1, a2]
            first | refine hK _ _ _ ?_ | done
            clear K' hK
            with_reducible refine aw_end ?_
            simp [t0, t3, wordB, a1, a2]
          · have a3 : ¬ (c.toNat : Int) ≤ 57 := by omega
            by_cases a4 : (48 : Int) ≤ (c.toNat : Int)
            · repeat with_reducible refine aw_assoc ?_
              first | with_reducible refine aw_region0 (by decide +kernel) fun K' hK => ?_ | with_reducible refine aw_toS (aw_region0 (by decide +kernel) fun K' hK => ?_)
              simp [a1, a2, a3, a4]
              first | refine hK _ _ _ ?_ | done
              clear K' hK
              with_reducible refine aw_end ?_
              simp [t0, t3, wordB, a1, a2, a3]
            · omega
        · by_cases a4 : (48 : Int) ≤ (c.toNat : Int)
          · by_cases a3 : (c.toNat : Int) ≤ 57
            · repeat with_reducible refine aw_assoc ?_
              first | with_reducible refine aw_region0 (by decide +kernel) fun K' hK => ?_ | with_reducible refine aw_toS (aw_region0 (by decide +kernel) fun K' hK => ?_)
              simp [a1, a3, a4]
              first | refine hK _ _ _ ?_ | done
              clear K' hK
              with_reducible refine aw_end ?_
              simp [t0, t3, wordB, a1, a3, a4]
            · repeat with_reducible refine aw_assoc ?_
              first | with_reducible refine aw_region0 (by decide +kernel) fun K' hK => ?_ | with_reducible refine aw_toS (aw_region0 (by decide +kernel) fun K' hK => ?_)
              simp [a1, a3, a4]
              first | refine hK _ _ _ ?_ | done
              clear K' hK
              with_reducible refine aw_end ?_
              simp [t0, t3, wordB, a1, a3]
          · repeat with_reducible refine aw_assoc ?_
            first | with_reducible refine aw_region0 (by decide +kernel) fun K' hK => ?_ | with_reducible refine aw_toS (aw_region0 (by decide +kernel) fun K' hK => ?_)
            simp [a1, a4]
            first | refine hK _ _ _ ?_ | done
            clear K' hK
            with_reducible refine aw_end ?_
            simp [t0, t3, wordB, a1, a4]
      rintro u G' nx' ⟨u0, u3, u4, u5⟩
      have hbad : plAt (bsL s) i = false → plainF (bsL s) = false := fun h => by
        rw [plainF, range_false (i := i) (n := (bsL s).length) (by omega) h]; rfl
      have hgo : ∀ (h : plAt (bsL s) i = true), (List.range (i + 1)).all (plAt (bsL s)) = true := fun h => by rw [range_all, ht, h]; rfl
      cases hwd : wordB c with
      | true =>
        rw [hwd] at u5
        repeat with_reducible refine aw_assoc ?_
        first | with_reducible refine aw_region0 (by decide +kernel) fun K' hK => ?_ | with_reducible refine aw_toS (aw_region0 (by decide +kernel) fun K' hK => ?_)
        simp [u5]
        first | refine hK _ _ _ ?_ | done
        clear K' hK
        repeat with_reducible refine aw_assoc ?_
        first | with_reducible refine aw_condP fun A B hA hB => ?_ | with_reducible refine aw_toS (aw_condP fun A B hA hB => ?_)
        simp []
        refine ⟨fun hc => hA ?_, fun hc => hB ?_⟩ <;> clear hA hB A B <;> (try (simp at hc; done)) <;> (try (exfalso; simp at hc; omega)) <;> clear hc <;> (try with_reducible refine aw_skip ?_)
        first | with_reducible refine aw_skipL ?_ | skip
        refine blockK_normal ?_
        repeat with_reducible refine aw_assoc ?_
        first | with_reducible refine aw_region0 (by decide +kernel) fun K' hK => ?_ | with_reducible refine aw_toS (aw_region0 (by decide +kernel) fun K' hK => ?_)
        simp [u3, hw]
        first | refine hK _ _ _ ?_ | done
        clear K' hK
        refine aw_skipL (loopK_normal ?_ ?_)
        · exact ⟨by simp [u0], i + 1, by simp [hw], by omega, hgo (by simp [plAt, hc, hwd])⟩
        · simp [t3, hw]; omega
      | false =>
        rw [hwd] at u5
        by_cases hi0 : i = 0
        · repeat with_reducible refine aw_assoc ?_
          first | with_reducible refine aw_region0 (by decide +kernel) fun K' hK => ?_ | with_reducible refine aw_toS (aw_region0 (by decide +kernel) fun K' hK => ?_)
          simp [u3, u5, hi0]
          first | refine hK _ _ _ ?_ | done
          clear K' hK
          repeat with_reducible refine aw_assoc ?_
          first | with_reducible refine aw_condP fun A B hA hB => ?_ | with_reducible refine aw_toS (aw_condP fun A B hA hB => ?_)
          simp []
          refine ⟨fun hc => hA ?_, fun hc => hB ?_⟩ <;> clear hA hB A B <;> (try (simp at hc; done)) <;> (try (exfalso; simp at hc; omega)) <;> clear hc <;> (try with_reducible refine aw_skip ?_)
          repeat with_reducible refine aw_assoc ?_
          first | with_reducible refine aw_region0 (by decide +kernel) fun K' hK => ?_ | with_reducible refine aw_toS (aw_region0 (by decide +kernel) fun K' hK => ?_)
          simp []
          first | refine hK _ _ _ ?_ | done
          clear K' hK
          repeat with_reducible refine aw_assoc ?_
          first | with_reducible refine aw_ret ?_ | with_reducible refine aw_retL ?_ | with_reducible refine aw_skipL ?_
          simp [blockK, loopK, Post, resA, res1, expT, expA, exp1, expM, expL, okT, okA, ok1, rowOf, Tryz.f56]
          exact hbad (by subst hi0; simp [plAt, hc, hwd])
        · by_cases b1 : (c.toNat : Int) = 45
          · have h45 : c = 45 := u8_of (n := 45) b1 (by decide)
            repeat with_reducible refine aw_assoc ?_
            first | with_reducible refine aw_region0 (by decide +kernel) fun K' hK => ?_ | with_reducible refine aw_toS (aw_region0 (by decide +kernel) fun K' hK => ?_)
            simp [u3, u4, u5, hi0, b1]
            first | refine hK _ _ _ ?_ | done
            clear K' hK
            repeat with_reducible refine aw_assoc ?_
            first | with_reducible refine aw_condP fun A B hA hB => ?_ | with_reducible refine aw_toS (aw_condP fun A B hA hB => ?_)
            simp []
            refine ⟨fun hc => hA ?_, fun hc => hB ?_⟩ <;> clear hA hB A B <;> (try (simp at hc; done)) <;> (try (exfalso; simp at hc; omega)) <;> clear hc <;> (try with_reducible refine aw_skip ?_)
            first | with_reducible refine aw_skipL ?_ | skip
            refine blockK_normal ?_
            repeat with_reducible refine aw_assoc ?_
            first | with_reducible refine aw_region0 (by decide +kernel) fun K' hK => ?_ | with_reducible refine aw_toS (aw_region0 (by decide +kernel) fun K' hK => ?_)
            simp [u3, hw]
            first | refine hK _ _ _ ?_ | done
            clear K' hK
            refine aw_skipL (loopK_normal ?_ ?_)
            · exact ⟨by simp [u0], i + 1, by simp [hw], by omega, hgo (by simp [plAt, hc, hi0, sepB, h45])⟩
            · simp [t3, hw]; omega
          · by_cases b2 : (c.toNat : Int) = 95
            · have h95 : c = 95 := u8_of (n := 95) b2 (by decide)
              repeat with_reducible refine aw_assoc ?_
              first | with_reducible refine aw_region0 (by decide +kernel) fun K' hK => ?_ | with_reducible refine aw_toS (aw_region0 (by decide +kernel) fun K' hK => ?_)
              simp [u3, u4, u5, hi0, b1, b2]
              first | refine hK _ _ _ ?_ | done
              clear K' hK
              repeat with_reducible refine aw_assoc ?_
              first | with_reducible refine aw_condP fun A B hA hB => ?_ | with_reducible refine aw_toS (aw_condP fun A B hA hB => ?_)
              simp []
              refine ⟨fun hc => hA ?_, fun hc => hB ?_⟩ <;> clear hA hB A B <;> (try (simp at hc; done)) <;> (try (exfalso; simp at hc; omega)) <;> clear hc <;> (try with_reducible refine aw_skip ?_)
              first | with_reducible refine aw_skipL ?_ | skip
              refine blockK_normal ?_
              repeat with_reducible refine aw_assoc ?_
              first | with_reducible refine aw_region0 (by decide +kernel) fun K' hK => ?_ | with_reducible refine aw_toS (aw_region0 (by decide +kernel) fun K' hK => ?_)
              simp [u3, hw]
              first | refine hK _ _ _ ?_ | done
              clear K' hK
              refine aw_skipL (loopK_normal ?_ ?_)
              · exact ⟨by simp [u0], i + 1, by simp [hw], by omega, hgo (by simp [plAt, hc, hi0, sepB, h95])⟩
              · simp [t3, hw]; omega
            · by_cases b3 : (c.toNat : Int) = 46
              · have h46 : c = 46 := u8_of (n := 46) b3 (by decide)
                repeat with_reducible refine aw_assoc ?_
                first | with_reducible refine aw_region0 (by decide +kernel) fun K' hK => ?_ | with_reducible refine aw_toS (aw_region0 (by decide +kernel) fun K' hK => ?_)
                simp [u3, u4, u5, hi0, b1, b2, b3]
                first | refine hK _ _ _ ?_ | done
                clear K' hK
                repeat with_reducible refine aw_assoc ?_
                first | with_reducible refine aw_condP fun A B hA hB => ?_ | with_reducible refine aw_toS (aw_condP fun A B hA hB => ?_)
                simp []
                refine ⟨fun hc => hA ?_, fun hc => hB ?_⟩ <;> clear hA hB A B <;> (try (simp at hc; done)) <;> (try (exfalso; simp at hc; omega)) <;> clear hc <;> (try with_reducible refine aw_skip ?_)
                first | with_reducible refine aw_skipL ?_ | skip
                refine blockK_normal ?_
                repeat with_reducible refine aw_assoc ?_
                first | with_reducible refine aw_region0 (by decide +kernel) fun K' hK => ?_ | with_reducible refine aw_toS (aw_region0 (by decide +kernel) fun K' hK => ?_)
                simp [u3, hw]
                first | refine hK _ _ _ ?_ | done
                clear K' hK
                refine aw_skipL (loopK_normal ?_ ?_)
                · exact ⟨by simp [u0], i + 1, by simp [hw], by omega, hgo (by simp [plAt, hc, hi0, sepB, h46])⟩
                · simp [t3, hw]; omega
              · repeat with_reducible refine aw_assoc ?_
                first | with_reducible refine aw_region0 (by decide +kernel) fun K' hK => ?_ | with_reducible refine aw_toS (aw_region0 (by decide +kernel) fun K' hK => ?_)
                simp [u3, u4, u5, hi0, b1, b2, b3]
                first | refine hK _ _ _ ?_ | done
                clear K' hK
                repeat with_reducible refine aw_assoc ?_
                first | with_reducible refine aw_condP fun A B hA hB => ?_ | with_reducible refine aw_toS (aw_condP fun A B hA hB => ?_)
                simp []
                refine ⟨fun hc => hA ?_, fun hc => hB ?_⟩ <;> clear hA hB A B <;> (try (simp at hc; done)) <;> (try (exfalso; simp at hc; omega)) <;> clear hc <;> (try with_reducible refine aw_skip ?_)
                repeat with_reducible refine aw_assoc ?_
                first | with_reducible refine aw_region0 (by decide +kernel) fun K' hK => ?_ | with_reducible refine aw_toS (aw_region0 (by decide +kernel) fun K' hK => ?_)
                simp []
                first | refine hK _ _ _ ?_ | done
                clear K' hK
                repeat with_reducible refine aw_assoc ?_
                first | with_reducible refine aw_ret ?_ | with_reducible refine aw_retL ?_ | with_reducible refine aw_skipL ?_
                simp [blockK, loopK, Post, resA, res1, expT, expA, exp1, expM, expL, okT, okA, ok1, rowOf, Tryz.f56]
                refine hbad ?_
                have h1 : ¬ c = 45 := fun h => b1 (by rw [h]; rfl)
                have h2 : ¬ c = 95 := fun h => b2 (by rw [h]; rfl)
                have h3 : ¬ c = 46 := fun h => b3 (by rw [h]; rfl)
                simp [plAt, hc, hwd, sepB, h1, h2, h3]
    · repeat with_reducible refine aw_assoc ?_
      first | with_reducible refine aw_exit ?_ | with_reducible refine aw_exitL ?_
      refine loopK_exit (blockK_exit ?_)
      repeat with_reducible refine aw_assoc ?_
      first | with_reducible refine aw_region0 (by decide +kernel) fun K' hK => ?_ | with_reducible refine aw_toS (aw_region0 (by decide +kernel) fun K' hK => ?_)
      simp [t0]
      first | refine hK _ _ _ ?_ | done
      clear K' hK
      repeat with_reducible refine aw_assoc ?_
      first | with_reducible refine aw_ret ?_ | with_reducible refine aw_retL ?_ | with_reducible refine aw_skipL ?_
      simp [blockK, loopK, Post, resA, res1, expT, expA, exp1, expM, expL, okT, okA, ok1, rowOf, Tryz.f56]
      have : i = (bsL s).length := by omega
      subst this
      rw [plainF, ht, Bool.true_and]
      simp [empty_iff]
theorem bsL_ext (s : Bs) (a b : Nat) : bsL (s.extract a b) = ((bsL s).take b).drop a := by
  rw [← toL_bsL, Lib.extract_toList, List.drop_take]
  rfl
theorem good36_ok (s : Bs) (hs : s.size ≤ 4611686018427387904) : CallsOK Tryz.prog 36 [sV s] (bV (goodF (bsL s))) [] := by
  refine callsOK mixed Tryz.call36 Tryz.func36 rfl (by rw [Tryz.ntmps36]; simp) ?_ rfl
  rw [Tryz.ntmps36]
  have hl : (bsL s).length = s.size := bsL_len s
  repeat with_reducible refine aw_assoc ?_
  first | with_reducible refine aw_region0 (by decide +kernel) fun K' hK => ?_ | with_reducible refine aw_toS (aw_region0 (by decide +kernel) fun K' hK => ?_)
  simp []
  first | refine hK _ _ _ ?_ | done
  clear K' hK
  by_cases h40 : (40 : Int) < s.size
  · repeat with_reducible refine aw_assoc ?_
    first | with_reducible refine aw_region0 (by decide +kernel) fun K' hK => ?_ | with_reducible refine aw_toS (aw_region0 (by decide +kernel) fun K' hK => ?_)
    simp [h40]
    first | refine hK _ _ _ ?_ | done
    clear K' hK
    repeat with_reducible refine aw_assoc ?_
    first | with_reducible refine aw_condP fun A B hA hB => ?_ | with_reducible refine aw_toS (aw_condP fun A B hA hB => ?_)
    simp []
    refine ⟨fun hc => hA ?_, fun hc => hB ?_⟩ <;> clear hA hB A B <;> (try (simp at hc; done)) <;> (try (exfalso; simp at hc; omega)) <;> clear hc <;> (try with_reducible refine aw_skip ?_)
    repeat with_reducible refine aw_assoc ?_
    first | with_reducible refine aw_region0 (by decide +kernel) fun K' hK => ?_ | with_reducible refine aw_toS (aw_region0 (by decide +kernel) fun K' hK => ?_)
    simp []
    first | refine hK _ _ _ ?_ | done
    clear K' hK
    repeat with_reducible refine aw_assoc ?_
    first | with_reducible refine aw_ret ?_ | with_reducible refine aw_retL ?_ | with_reducible refine aw_skipL ?_
    simp [blockK, loopK, Post, resA, res1, expT, expA, exp1, expM, expL, okT, okA, ok1, rowOf, Tryz.f36]
    rw [goodF, if_pos (.inl (by omega))]
  · by_cases hnm : s = ⟨#[110, 111, 100, 101, 95, 109, 111, 100, 117, 108, 101, 115]⟩
    · repeat with_reducible refine aw_assoc ?_
      first | with_reducible refine aw_region0 (by decide +kernel) fun K' hK => ?_ | with_reducible refine aw_toS (aw_region0 (by decide +kernel) fun K' hK => ?_)
      simp [h40, hnm]
      first | refine hK _ _ _ ?_ | done
      clear K' hK
      repeat with_reducible refine aw_assoc ?_
      first | with_reducible refine aw_condP fun A B hA hB => ?_ | with_reducible refine aw_toS (aw_condP fun A B hA hB => ?_)
      simp []
      refine ⟨fun hc => hA ?_, fun hc => hB ?_⟩ <;> clear hA hB A B <;> (try (simp at hc; done)) <;> (try (exfalso; simp at hc; omega)) <;> clear hc <;> (try with_reducible refine aw_skip ?_)
      repeat with_reducible refine aw_assoc ?_
      first | with_reducible refine aw_region0 (by decide +kernel) fun K' hK => ?_ | with_reducible refine aw_toS (aw_region0 (by decide +kernel) fun K' hK => ?_)
      simp []
      first | refine hK _ _ _ ?_ | done
      clear K' hK
      repeat with_reducible refine aw_assoc ?_
      first | with_reducible refine aw_ret ?_ | with_reducible refine aw_retL ?_ | with_reducible refine aw_skipL ?_
      simp [blockK, loopK, Post, resA, res1, expT, expA, exp1, expM, expL, okT, okA, ok1, rowOf, Tryz.f36]
      rw [goodF, if_pos (.inr (by rw [hnm]; rfl))]
    · have hnl : ¬ (40 < (bsL s).length ∨ bsL s = nodeL) := by
        rintro (h | h)
        · omega
        · exact hnm (bsL_inj h)
      repeat with_reducible refine aw_assoc ?_
      first | with_reducible refine aw_region0 (by decide +kernel) fun K' hK => ?_ | with_reducible refine aw_toS (aw_region0 (by decide +kernel) fun K' hK => ?_)
      simp [h40, hnm]
      first | refine hK _ _ _ ?_ | done
      clear K' hK
      repeat with_reducible refine aw_assoc ?_
      first | with_reducible refine aw_condP fun A B hA hB => ?_ | with_reducible refine aw_toS (aw_condP fun A B hA hB => ?_)
      simp []
      refine ⟨fun hc => hA ?_, fun hc => hB ?_⟩ <;> clear hA hB A B <;> (try (simp at hc; done)) <;> (try (exfalso; simp at hc; omega)) <;> clear hc <;> (try with_reducible refine aw_skip ?_)
      repeat with_reducible refine aw_assoc ?_
      first | with_reducible refine aw_region0 (by decide +kernel) fun K' hK => ?_ | with_reducible refine aw_toS (aw_region0 (by decide +kernel) fun K' hK => ?_)
      simp []
      refine acall_flat (slash55_ok s hs) rfl (by first | rfl | (simp []; done) | (simp []; rfl) | (simp []; exact ⟨rfl, rfl⟩)) ?_
      simp
      first | refine hK _ _ _ ?_ | done
      clear K' hK
      by_cases he : s = ⟨#[]⟩
      · repeat with_reducible refine aw_assoc ?_
        first | with_reducible refine aw_region0 (by decide +kernel) fun K' hK => ?_ | with_reducible refine aw_toS (aw_region0 (by decide +kernel) fun K' hK => ?_)
        simp [he]
        first | refine hK _ _ _ ?_ | done
        clear K' hK
        repeat with_reducible refine aw_assoc ?_
        first | with_reducible refine aw_condP fun A B hA hB => ?_ | with_reducible refine aw_toS (aw_condP fun A B hA hB => ?_)
        simp []
        refine ⟨fun hc => hA ?_, fun hc => hB ?_⟩ <;> clear hA hB A B <;> (try (simp at hc; done)) <;> (try (exfalso; simp at hc; omega)) <;> clear hc <;> (try with_reducible refine aw_skip ?_)
        repeat with_reducible refine aw_assoc ?_
        first | with_reducible refine aw_region0 (by decide +kernel) fun K' hK => ?_ | with_reducible refine aw_toS (aw_region0 (by decide +kernel) fun K' hK => ?_)
        simp []
        refine acall_flat (plain56_ok ⟨#[]⟩ (by decide)) rfl (by first | rfl | (simp []; done) | (simp []; rfl) | (simp []; exact ⟨rfl, rfl⟩)) ?_
        simp
        first | refine hK _ _ _ ?_ | done
        clear K' hK
        repeat with_reducible refine aw_assoc ?_
        first | with_reducible refine aw_ret ?_ | with_reducible refine aw_retL ?_ | with_reducible refine aw_skipL ?_
        simp [blockK, loopK, Post, resA, res1, expT, expA, exp1, expM, expL, okT, okA, ok1, rowOf, Tryz.f36]
        rw [he]; decide +kernel
      · have hpos : 0 < s.size := by
          rcases Nat.eq_zero_or_pos s.size with h | h
          · exact absurd ((empty_iff s).2 (List.eq_nil_of_length_eq_zero (by omega))) he
          · exact h
        have hcc : byteA s 0 = by8 (bsL s) 0 := rfl
        obtain ⟨b, r, hL⟩ : ∃ b r, bsL s = b :: r := List.exists_cons_of_ne_nil (List.ne_nil_of_length_pos (by omega))
        · skip
          have hb : by8 (bsL s) 0 = b := by rw [hL]; rfl
          rw [hb] at hcc
          by_cases h64 : (b.toNat : Int) = 64
          · have hb64 : b = 64 := u8_of (n := 64) h64 (by decide)
            subst hb64
            repeat with_reducible refine aw_assoc ?_
            first | with_reducible refine aw_region0 (by decide +kernel) fun K' hK => ?_ | with_reducible refine aw_toS (aw_region0 (by decide +kernel) fun K' hK => ?_)
            simp [he, hpos, hcc, h64]
            first | refine hK _ _ _ ?_ | done
            clear K' hK
            repeat with_reducible refine aw_assoc ?_
            first | with_reducible refine aw_condP fun A B hA hB => ?_ | with_reducible refine aw_toS (aw_condP fun A B hA hB => ?_)
            simp []
            refine ⟨fun hc => hA ?_, fun hc => hB ?_⟩ <;> clear hA hB A B <;> (try (simp at hc; done)) <;> (try (exfalso; simp at hc; omega)) <;> clear hc <;> (try with_reducible refine aw_skip ?_)
            have hgd : goodF (64 :: r) = ((Lib.cut r [47]).2.2 && (plainF (Lib.cut r [47]).1 && plainF (Lib.cut r [47]).2.1)) := by
              rw [goodF, if_neg (by rw [← hL]; exact hnl), if_neg (by simp [Lib.hasPrefix, List.isPrefixOf])]
              rw [show Lib.trimPrefix (64 :: r) [64] = r from trim_in (p := [64])]
            rcases cut_spec r 47 with ⟨hno, hc⟩ | ⟨x, y, hx, hr, hc⟩
            · have hk : Lib.indexByte (bsL s) 47 = -1 := by rw [hL]; exact ib_out (by simp [hno])
              repeat with_reducible refine aw_assoc ?_
              first | with_reducible refine aw_region0 (by decide +kernel) fun K' hK => ?_ | with_reducible refine aw_toS (aw_region0 (by decide +kernel) fun K' hK => ?_)
              simp [hk]
              first | refine hK _ _ _ ?_ | done
              clear K' hK
              repeat with_reducible refine aw_assoc ?_
              first | with_reducible refine aw_ret ?_ | with_reducible refine aw_retL ?_ | with_reducible refine aw_skipL ?_
              simp [blockK, loopK, Post, resA, res1, expT, expA, exp1, expM, expL, okT, okA, ok1, rowOf, Tryz.f36]
              rw [hL, hgd, hc]; simp
            · have hk : Lib.indexByte (bsL s) 47 = (x.length + 1 : Nat) := by
                rw [hL, hr]
                exact ib_in (a := 64 :: x) (by simp [hx])
              have e1 : bsL (s.extract 1 (x.length + 1)) = x := by rw [bsL_ext, hL, hr]; simp
              have e2 : bsL (s.extract (x.length + 1 + 1) s.size) = y := by
                rw [bsL_ext, ← hl, List.take_length, hL, hr]; simp
              have hsz : x.length + 1 + 1 ≤ s.size := by rw [← hl, hL, hr]; simp
              have hw1 : IntKind.i64.wrap ((x.length : Int) + 1 + 1) = ((x.length + 1 + 1 : Nat) : Int) := by rw [wrap64 (by omega) (by omega)]; omega
              have p1 := plain56_ok (s.extract 1 (x.length + 1)) (by rw [← bsL_len, e1]; omega)
              have p2 := plain56_ok (s.extract (x.length + 1 + 1) s.size) (by rw [← bsL_len, e2]; rw [hL, hr] at hl; simp at hl; omega)
              rw [e1] at p1
              rw [e2] at p2
              have a1 : (0 : Int) < ((x.length + 1 : Nat) : Int) := by omega
              have b1 : (0 : Int) ≤ (x.length : Int) + 1 := by omega
              have b2 : x.length + 1 ≤ s.size := by omega
              have b3 : (0 : Int) ≤ (x.length : Int) + 1 + 1 := by omega
              have b4 : (x.length : Int) + 1 + 1 ≤ s.size := by omega
              have b5 : ((x.length : Int) + 1 + 1).toNat = x.length + 1 + 1 := by omega
              repeat with_reducible refine aw_assoc ?_
              first | with_reducible refine aw_region0 (by decide +kernel) fun K' hK => ?_ | with_reducible refine aw_toS (aw_region0 (by decide +kernel) fun K' hK => ?_)
              simp [hk, a1, bnd_some, b1, b2]
              refine acall_flat p1 rfl (by first | rfl | (simp []; done) | (simp []; rfl) | (simp []; exact ⟨rfl, rfl⟩)) ?_
              cases hpx : plainF x with
              | false =>
                simp
                first | refine hK _ _ _ ?_ | done
                clear K' hK
                repeat with_reducible refine aw_assoc ?_
                first | with_reducible refine aw_ret ?_ | with_reducible refine aw_retL ?_ | with_reducible refine aw_skipL ?_
                simp [blockK, loopK, Post, resA, res1, expT, expA, exp1, expM, expL, okT, okA, ok1, rowOf, Tryz.f36]
                rw [hL, hgd, hc]; simp [hpx]
              | true =>
                simp [hk, hw1, b3, b4, b5, hsz, bnd_some]
                refine acall_flat p2 rfl (by first | rfl | (simp []; done) | (simp []; rfl) | (simp []; exact ⟨rfl, rfl⟩)) ?_
                simp
                first | refine hK _ _ _ ?_ | done
                clear K' hK
                repeat with_reducible refine aw_assoc ?_
                first | with_reducible refine aw_ret ?_ | with_reducible refine aw_retL ?_ | with_reducible refine aw_skipL ?_
                simp [blockK, loopK, Post, resA, res1, expT, expA, exp1, expM, expL, okT, okA, ok1, rowOf, Tryz.f36]
                rw [hL, hgd, hc]; simp [hpx]
          · have h64' : ¬ b = 64 := fun h => h64 (by rw [h]; rfl)
            repeat with_reducible refine aw_assoc ?_
            first | with_reducible refine aw_region0 (by decide +kernel) fun K' hK => ?_ | with_reducible refine aw_toS (aw_region0 (by decide +kernel) fun K' hK => ?_)
            simp [he, hpos, hcc, h64]
            first | refine hK _ _ _ ?_ | done
            clear K' hK
            repeat with_reducible refine aw_assoc ?_
            first | with_reducible refine aw_condP fun A B hA hB => ?_ | with_reducible refine aw_toS (aw_condP fun A B hA hB => ?_)
            simp []
            refine ⟨fun hc => hA ?_, fun hc => hB ?_⟩ <;> clear hA hB A B <;> (try (simp at hc; done)) <;> (try (exfalso; simp at hc; omega)) <;> clear hc <;> (try with_reducible refine aw_skip ?_)
            repeat with_reducible refine aw_assoc ?_
            first | with_reducible refine aw_region0 (by decide +kernel) fun K' hK => ?_ | with_reducible refine aw_toS (aw_region0 (by decide +kernel) fun K' hK => ?_)
            simp []
            refine acall_flat (plain56_ok s hs) rfl (by first | rfl | (simp []; done) | (simp []; rfl) | (simp []; exact ⟨rfl, rfl⟩)) ?_
            simp
            first | refine hK _ _ _ ?_ | done
            clear K' hK
            repeat with_reducible refine aw_assoc ?_
            first | with_reducible refine aw_ret ?_ | with_reducible refine aw_retL ?_ | with_reducible refine aw_skipL ?_
            simp [blockK, loopK, Post, resA, res1, expT, expA, exp1, expM, expL, okT, okA, ok1, rowOf, Tryz.f36]
            have hp : Lib.hasPrefix (b :: r) [64] = false := by
              have : ((64 : UInt8) == b) = false := by simpa using fun h => h64' h.symm
              simp [Lib.hasPrefix, List.isPrefixOf, this]
            rw [goodF, if_neg hnl, hL, hp, if_pos rfl]
end Go.Proofs.YtomidniaekeafaaGreatDoorAbs
/- hoggetref04: may, digits, Number, part. -/
namespace Go.Proofs.YtomidniaekeafaaGreatDoorAbs
set_option linter.unusedSimpArgs false
set_option linter.unusedVariables false
open Go Go.RowKit Go.Proofs
set_option maxRecDepth 100000
set_option maxHeartbeats 1000000
theorem may57_ok (n : Int) : CallsOK Tryz.prog 57 [iV n] (bV (inR n)) [] := by
  refine callsOK mixed Tryz.call57 Tryz.func57 rfl (by rw [Tryz.ntmps57]; simp) ?_ rfl
  rw [Tryz.ntmps57]
  repeat with_reducible refine aw_assoc ?_
  first | with_reducible refine aw_region0 (by decide +kernel) fun K' hK => ?_ | with_reducible refine aw_toS (aw_region0 (by decide +kernel) fun K' hK => ?_)
  simp []
  first | refine hK _ _ _ ?_ | done
  clear K' hK
  by_cases h : 0 ≤ n
  · repeat with_reducible refine aw_assoc ?_
    first | with_reducible refine aw_region0 (by decide +kernel) fun K' hK => ?_ | with_reducible refine aw_toS (aw_region0 (by decide +kernel) fun K' hK => ?_)
    simp [h]
    first | refine hK _ _ _ ?_ | done
    clear K' hK
    repeat with_reducible refine aw_assoc ?_
    first | with_reducible refine aw_ret ?_ | with_reducible refine aw_retL ?_ | with_reducible refine aw_skipL ?_
    simp [blockK, loopK, Post, resA, res1, expT, expA, exp1, expM, expL, okT, okA, ok1, rowOf, Tryz.f57]
    simp [inR, h]
  · repeat with_reducible refine aw_assoc ?_
    first | with_reducible refine aw_region0 (by decide +kernel) fun K' hK => ?_ | with_reducible refine aw_toS (aw_region0 (by decide +kernel) fun K' hK => ?_)
    simp [h]
    first | refine hK _ _ _ ?_ | done
    clear K' hK
    repeat with_reducible refine aw_assoc ?_
    first | with_reducible refine aw_ret ?_ | with_reducible refine aw_retL ?_ | with_reducible refine aw_skipL ?_
    simp [blockK, loopK, Post, resA, res1, expT, expA, exp1, expM, expL, okT, okA, ok1, rowOf, Tryz.f57]
    simp [inR, h]
def digB (c : UInt8) : Bool := decide ((48 : Int) ≤ (c.toNat : Int)) && decide ((c.toNat : Int) ≤ 57)
theorem dig_all : ∀ i : _root_.Fin 256, digs.contains (UInt8.ofNat i) = digB (UInt8.ofNat i) := by decide +kernel
theorem dig_eq (c : UInt8) : digs.contains c = digB c := by
  have := dig_all ⟨c.toNat, c.toNat_lt⟩
  simpa using this
theorem dropW_nil {α : Type} {p : α → Bool} : ∀ {l : List α}, l.dropWhile p = [] ↔ l.all p = true
  | [] => by simp
  | a :: l => by
    rw [List.dropWhile_cons, List.all_cons]
    cases h : p a with
    | true => simp [dropW_nil (p := p) (l := l)]
    | false => simp
theorem dropW_all {α : Type} {p : α → Bool} : ∀ {l : List α}, (l.dropWhile p).all p = true → l.all p = true
  | [], _ => rfl
  | a :: l, h => by
    rw [List.dropWhile_cons] at h
    rw [List.all_cons]
    cases hp : p a with
    | true =>
      rw [hp, if_pos rfl] at h
      rw [dropW_all h]; rfl
    | false => rw [hp, if_neg (by simp), List.all_cons, hp] at h; simp at h
theorem trim_nil (l : List UInt8) : Lib.trimS l digs = [] ↔ l.all digB = true := by
  have e : (fun c => digs.contains c) = digB := funext dig_eq
  unfold Lib.trimS Lib.trimLeftS Lib.trimRightS
  rw [e, dropW_nil, List.all_reverse]
  constructor
  · intro h
    have := dropW_all h
    rwa [List.all_reverse] at this
  · intro h
    have h2 : l.reverse.dropWhile digB = [] := dropW_nil.2 (by rw [List.all_reverse]; exact h)
    rw [h2]; rfl
theorem numP_eq (l : List UInt8) : numP l = (l.all digB && !decide (l = [])) := by
  unfold numP
  rw [Bool.eq_iff_iff]
  simp only [Bool.and_eq_true, decide_eq_true_eq, trim_nil]
  exact ⟨fun ⟨a, b⟩ => ⟨b, a⟩, fun ⟨a, b⟩ => ⟨b, a⟩⟩
theorem all_at {l : List UInt8} {p : UInt8 → Bool} (h : ∀ i, i < l.length → p (by8 l i) = true) : l.all p = true := by
  rw [List.all_eq_true]
  intro x hx
  obtain ⟨i, hi, rfl⟩ := List.mem_iff_getElem.1 hx
  rw [← by8_get hi]; exact h i hi
theorem not_all {l : List UInt8} {p : UInt8 → Bool} {i : Nat} (hi : i < l.length) (h : p (by8 l i) = false) : l.all p = false := by
  rw [List.all_eq_false]
  exact ⟨by8 l i, by rw [by8_get hi]; exact List.getElem_mem hi, by simp [h]⟩
theorem digits70_ok (s : Bs) (hs : s.size ≤ 4611686018427387904) : CallsOK Tryz.prog 70 [sV s] (bV (numP (bsL s))) [] := by
  refine callsOK mixed Tryz.call70 Tryz.func70 rfl (by rw [Tryz.ntmps70]; simp) ?_ rfl
  rw [Tryz.ntmps70, numP_eq]
  have hl : (bsL s).length = s.size := bsL_len s
  repeat with_reducible refine aw_assoc ?_
  first | with_reducible refine aw_region0 (by decide +kernel) fun K' hK => ?_ | with_reducible refine aw_toS (aw_region0 (by decide +kernel) fun K' hK => ?_)
  simp []
  first | refine hK _ _ _ ?_ | done
  clear K' hK
  repeat with_reducible refine aw_assoc ?_
  first | with_reducible refine aw_region0 (by decide +kernel) fun K' hK => ?_ | with_reducible refine aw_toS (aw_region0 (by decide +kernel) fun K' hK => ?_)
  simp []
  first | refine hK _ _ _ ?_ | done
  clear K' hK
  repeat with_reducible refine aw_assoc ?_
  first | with_reducible refine aw_block ?_ | with_reducible refine aw_toS (aw_block ?_)
  refine aw_loop (fun t G nx => t 0 = sV s ∧ ∃ i : Nat, t 3 = iV i ∧ i ≤ s.size ∧ ∀ j, j < i → digB (by8 (bsL s) j) = true) (fun s' _ _ => match s' 3 with | .v (.int _ n) => s.size - n.toNat | _ => 0) ?_ ?_
  · exact ⟨by simp, 0, by simp, by omega, fun j hj => by omega⟩
  · rintro t G nx - ⟨t0, i, t3, hi, hn⟩
    have hw : IntKind.i64.wrap (↑i + 1) = ((i + 1 : Nat) : Int) := wrapS (by omega)
    repeat with_reducible refine aw_assoc ?_
    first | with_reducible refine aw_region0 (by decide +kernel) fun K' hK => ?_ | with_reducible refine aw_toS (aw_region0 (by decide +kernel) fun K' hK => ?_)
    simp [t0, t3]
    first | refine hK _ _ _ ?_ | done
    clear K' hK
    repeat with_reducible refine aw_assoc ?_
    first | with_reducible refine aw_condP fun A B hA hB => ?_ | with_reducible refine aw_toS (aw_condP fun A B hA hB => ?_)
    simp []
    refine ⟨fun hi2 => hA ?_, fun hi2 => hB ?_⟩ <;> clear hA hB A B <;> (try simp at hi2) <;> (try with_reducible refine aw_skip ?_)
    · repeat with_reducible refine aw_assoc ?_
      first | with_reducible refine aw_block ?_ | with_reducible refine aw_toS (aw_block ?_)
      have hcc : byteA s i = by8 (bsL s) i := rfl
      generalize hc : by8 (bsL s) i = c at hcc
      by_cases a1 : (c.toNat : Int) < 48
      · repeat with_reducible refine aw_assoc ?_
        first | with_reducible refine aw_region0 (by decide +kernel) fun K' hK => ?_ | with_reducible refine aw_toS (aw_region0 (by decide +kernel) fun K' hK => ?_)
        simp [t0, t3, hi2, hcc, a1]
        first | refine hK _ _ _ ?_ | done
        clear K' hK
        repeat with_reducible refine aw_assoc ?_
        first | with_reducible refine aw_condP fun A B hA hB => ?_ | with_reducible refine aw_toS (aw_condP fun A B hA hB => ?_)
        simp []
        refine ⟨fun hc => hA ?_, fun hc => hB ?_⟩ <;> clear hA hB A B <;> (try (simp at hc; done)) <;> (try (exfalso; simp at hc; omega)) <;> clear hc <;> (try with_reducible refine aw_skip ?_)
        repeat with_reducible refine aw_assoc ?_
        first | with_reducible refine aw_region0 (by decide +kernel) fun K' hK => ?_ | with_reducible refine aw_toS (aw_region0 (by decide +kernel) fun K' hK => ?_)
        simp []
        first | refine hK _ _ _ ?_ | done
        clear K' hK
        repeat with_reducible refine aw_assoc ?_
        first | with_reducible refine aw_ret ?_ | with_reducible refine aw_retL ?_ | with_reducible refine aw_skipL ?_
        simp [blockK, loopK, Post, resA, res1, expT, expA, exp1, expM, expL, okT, okA, ok1, rowOf, Tryz.f70]
        intro h
        have h := List.all_eq_true.2 h
        rw [not_all (p := digB) (i := i) (by omega) (by rw [hc]; simp [digB]; omega)] at h
        cases h
      · by_cases a2 : (57 : Int) < c.toNat
        · repeat with_reducible refine aw_assoc ?_
          first | with_reducible refine aw_region0 (by decide +kernel) fun K' hK => ?_ | with_reducible refine aw_toS (aw_region0 (by decide +kernel) fun K' hK => ?_)
          simp [t0, t3, hi2, hcc, a1, a2]
          first | refine hK _ _ _ ?_ | done
          clear K' hK
          repeat with_reducible refine aw_assoc ?_
          first | with_reducible refine aw_condP fun A B hA hB => ?_ | with_reducible refine aw_toS (aw_condP fun A B hA hB => ?_)
          simp []
          refine ⟨fun hc => hA ?_, fun hc => hB ?_⟩ <;> clear hA hB A B <;> (try (simp at hc; done)) <;> (try (exfalso; simp at hc; omega)) <;> clear hc <;> (try with_reducible refine aw_skip ?_)
          repeat with_reducible refine aw_assoc ?_
          first | with_reducible refine aw_region0 (by decide +kernel) fun K' hK => ?_ | with_reducible refine aw_toS (aw_region0 (by decide +kernel) fun K' hK => ?_)
          simp []
          first | refine hK _ _ _ ?_ | done
          clear K' hK
          repeat with_reducible refine aw_assoc ?_
          first | with_reducible refine aw_ret ?_ | with_reducible refine aw_retL ?_ | with_reducible refine aw_skipL ?_
          simp [blockK, loopK, Post, resA, res1, expT, expA, exp1, expM, expL, okT, okA, ok1, rowOf, Tryz.f70]
          intro h
          have h := List.all_eq_true.2 h
          rw [not_all (p := digB) (i := i) (by omega) (by rw [hc]; simp [digB]; omega)] at h
          cases h
        · repeat with_reducible refine aw_assoc ?_
          first | with_reducible refine aw_region0 (by decide +kernel) fun K' hK => ?_ | with_reducible refine aw_toS (aw_region0 (by decide +kernel) fun K' hK => ?_)
          simp [t0, t3, hi2, hcc, a1, a2]
          first | refine hK _ _ _ ?_ | done
          clear K' hK
          repeat with_reducible refine aw_assoc ?_
          first | with_reducible refine aw_condP fun A B hA hB => ?_ | with_reducible refine aw_toS (aw_condP fun A B hA hB => ?_)
          simp []
          refine ⟨fun hc => hA ?_, fun hc => hB ?_⟩ <;> clear hA hB A B <;> (try (simp at hc; done)) <;> (try (exfalso; simp at hc; omega)) <;> clear hc <;> (try with_reducible refine aw_skip ?_)
          first | with_reducible refine aw_skipL ?_ | skip
          refine blockK_normal ?_
          repeat with_reducible refine aw_assoc ?_
          first | with_reducible refine aw_region0 (by decide +kernel) fun K' hK => ?_ | with_reducible refine aw_toS (aw_region0 (by decide +kernel) fun K' hK => ?_)
          simp [t3, hw]
          first | refine hK _ _ _ ?_ | done
          clear K' hK
          refine aw_skipL (loopK_normal ?_ ?_)
          · refine ⟨by simp [t0], i + 1, by simp [hw], by omega, fun j hj => ?_⟩
            rcases Nat.lt_or_ge j i with h | h
            · exact hn j h
            · have : j = i := by omega
              subst this
              rw [hc]
              simp [digB]; omega
          · simp [t3, hw]; omega
    · repeat with_reducible refine aw_assoc ?_
      first | with_reducible refine aw_exit ?_ | with_reducible refine aw_exitL ?_
      refine loopK_exit (blockK_exit ?_)
      repeat with_reducible refine aw_assoc ?_
      first | with_reducible refine aw_region0 (by decide +kernel) fun K' hK => ?_ | with_reducible refine aw_toS (aw_region0 (by decide +kernel) fun K' hK => ?_)
      simp [t0]
      first | refine hK _ _ _ ?_ | done
      clear K' hK
      repeat with_reducible refine aw_assoc ?_
      first | with_reducible refine aw_ret ?_ | with_reducible refine aw_retL ?_ | with_reducible refine aw_skipL ?_
      simp [blockK, loopK, Post, resA, res1, expT, expA, exp1, expM, expL, okT, okA, ok1, rowOf, Tryz.f70]
      have hall := all_at (p := digB) (l := bsL s) (fun j hj => hn j (by omega))
      rw [hall]
      simp [empty_iff]
theorem wrapU8 {n : Int} (h0 : 0 ≤ n) (h1 : n < 256) : IntKind.u8.wrap n = n := by
  simp [IntKind.wrap, IntKind.signed, IntKind.bits]
  omega
def numV (l : List UInt8) : Int := l.foldl (fun n c => 10 * n + ((c.toNat : Int) - 48)) 0
def numR (l : List UInt8) : Int := if numOk l then numV l else -1
theorem numV_snoc {l : List UInt8} {i : Nat} (h : i < l.length) : numV (l.take (i + 1)) = 10 * numV (l.take i) + ((by8 l i).toNat - 48) := by
  unfold numV
  rw [List.take_add_one, List.getElem?_eq_getElem h, List.foldl_append, by8_get h]; rfl
theorem numV_nn {l : List UInt8} (h : l.all digB = true) : ∀ i, i ≤ l.length → 0 ≤ numV (l.take i) ∧ numV (l.take i) ≤ 10 ^ i - 1
  | 0, _ => by simp [numV]
  | i + 1, hi => by
    have ih := numV_nn h i (by omega)
    have hd : digB (by8 l i) = true := by rw [by8_get (by omega)]; exact List.all_eq_true.1 h _ (List.getElem_mem _)
    simp [digB] at hd
    rw [numV_snoc (by omega), Int.pow_succ]
    omega
theorem numR_nn {l : List UInt8} : decide (0 ≤ numR l) = numOk l := by
  unfold numR
  cases h : numOk l with
  | false => rfl
  | true =>
    have hp : numP l = true := by
      unfold numOk at h
      rw [Bool.and_eq_true] at h
      exact h.1
    rw [numP_eq, Bool.and_eq_true] at hp
    have := (numV_nn hp.1 l.length (Nat.le_refl _)).1
    rw [List.take_length] at this
    simpa using this
theorem number71_ok (s : Bs) (hs : s.size ≤ 4611686018427387904) : CallsOK Tryz.prog 71 [sV s] (iV (numR (bsL s))) [] := by
  refine callsOK mixed Tryz.call71 Tryz.func71 rfl (by rw [Tryz.ntmps71]; simp) ?_ rfl
  rw [Tryz.ntmps71]
  have hl : (bsL s).length = s.size := bsL_len s
  have hbad : numOk (bsL s) = false → numR (bsL s) = -1 := fun h => by rw [numR, h]; rfl
  repeat with_reducible refine aw_assoc ?_
  first | with_reducible refine aw_region0 (by decide +kernel) fun K' hK => ?_ | with_reducible refine aw_toS (aw_region0 (by decide +kernel) fun K' hK => ?_)
  simp []
  first | refine hK _ _ _ ?_ | done
  clear K' hK
  repeat with_reducible refine aw_assoc ?_
  refine aw_cut (fun u G nx => u 0 = sV s ∧ u 22 = bV (!numOk (bsL s))) ?_ ?_
  · repeat with_reducible refine aw_assoc ?_
    first | with_reducible refine aw_region0 (by decide +kernel) fun K' hK => ?_ | with_reducible refine aw_toS (aw_region0 (by decide +kernel) fun K' hK => ?_)
    simp []
    refine acall_flat (digits70_ok s hs) rfl (by first | rfl | (simp []; done) | (simp []; rfl) | (simp []; exact ⟨rfl, rfl⟩)) ?_
    cases hp : numP (bsL s) with
    | false =>
      simp
      first | refine hK _ _ _ ?_ | done
      clear K' hK
      with_reducible refine aw_end ?_
      simp [numOk, hp]
    | true =>
      have hpe := hp
      rw [numP_eq, Bool.and_eq_true] at hpe
      have hne : bsL s ≠ [] := by simpa using hpe.2
      have hpos : 0 < s.size := by have := List.length_pos_iff.2 hne; omega
      have hcc : byteA s 0 = by8 (bsL s) 0 := rfl
      generalize hc : by8 (bsL s) 0 = c at hcc
      by_cases h6 : (6 : Int) < s.size
      · simp [h6]
        first | refine hK _ _ _ ?_ | done
        clear K' hK
        with_reducible refine aw_end ?_
        simp [numOk]
        exact .inr (.inl (by omega))
      · have h6' : (bsL s).length ≤ 6 := by omega
        by_cases z1 : (c.toNat : Int) = 48
        · have hc48 : c = 48 := u8_of (n := 48) z1 (by decide)
          by_cases z2 : (1 : Int) < s.size
          · simp [h6, hpos, hcc, z1, z2]
            first | refine hK _ _ _ ?_ | done
            clear K' hK
            with_reducible refine aw_end ?_
            have : ¬ bsL s = [48] := fun h => by rw [h] at hl; simp at hl; omega
            simp [numOk, hc, hc48, this]
          · simp [h6, hpos, hcc, z1, z2]
            first | refine hK _ _ _ ?_ | done
            clear K' hK
            with_reducible refine aw_end ?_
            have h1 : (bsL s).length = 1 := by omega
            obtain ⟨x, hx⟩ := List.length_eq_one_iff.1 h1
            have : bsL s = [48] := by
              rw [hx] at hc ⊢
              have : x = c := hc
              rw [this, hc48]
            simp [numOk, hp, this]
            rw [this] at hp
            exact hp
        · have z1' : ¬ c = 48 := fun h => z1 (by rw [h]; rfl)
          simp [h6, hpos, hcc, z1]
          first | refine hK _ _ _ ?_ | done
          clear K' hK
          with_reducible refine aw_end ?_
          simp [numOk, hp, hc, z1', h6']
  rintro u G nx ⟨u0, u22⟩
  cases hok : numOk (bsL s) with
  | false =>
    rw [hok] at u22
    repeat with_reducible refine aw_assoc ?_
    first | with_reducible refine aw_condP fun A B hA hB => ?_ | with_reducible refine aw_toS (aw_condP fun A B hA hB => ?_)
    simp [u22]
    refine ⟨fun hc => hA ?_, fun hc => hB ?_⟩ <;> clear hA hB A B <;> (try (simp at hc; done)) <;> (try (exfalso; simp at hc; omega)) <;> clear hc <;> (try with_reducible refine aw_skip ?_)
    repeat with_reducible refine aw_assoc ?_
    first | with_reducible refine aw_region0 (by decide +kernel) fun K' hK => ?_ | with_reducible refine aw_toS (aw_region0 (by decide +kernel) fun K' hK => ?_)
    simp []
    first | refine hK _ _ _ ?_ | done
    clear K' hK
    repeat with_reducible refine aw_assoc ?_
    first | with_reducible refine aw_ret ?_ | with_reducible refine aw_retL ?_ | with_reducible refine aw_skipL ?_
    simp [blockK, loopK, Post, resA, res1, expT, expA, exp1, expM, expL, okT, okA, ok1, rowOf, Tryz.f71]
    exact (hbad hok).symm
  | true =>
    rw [hok] at u22
    have hok2 := hok
    unfold numOk at hok2
    rw [Bool.and_eq_true, Bool.and_eq_true] at hok2
    obtain ⟨hp, h6, _⟩ := hok2
    have h6 : (bsL s).length ≤ 6 := of_decide_eq_true h6
    rw [numP_eq, Bool.and_eq_true] at hp
    have hfin : numR (bsL s) = numV (bsL s) := by rw [numR, hok]; rfl
    rw [hfin]
    repeat with_reducible refine aw_assoc ?_
    first | with_reducible refine aw_condP fun A B hA hB => ?_ | with_reducible refine aw_toS (aw_condP fun A B hA hB => ?_)
    simp [u22]
    refine ⟨fun hc => hA ?_, fun hc => hB ?_⟩ <;> clear hA hB A B <;> (try (simp at hc; done)) <;> (try (exfalso; simp at hc; omega)) <;> clear hc <;> (try with_reducible refine aw_skip ?_)
    repeat with_reducible refine aw_assoc ?_
    first | with_reducible refine aw_region0 (by decide +kernel) fun K' hK => ?_ | with_reducible refine aw_toS (aw_region0 (by decide +kernel) fun K' hK => ?_)
    simp []
    first | refine hK _ _ _ ?_ | done
    clear K' hK
    repeat with_reducible refine aw_assoc ?_
    first | with_reducible refine aw_region0 (by decide +kernel) fun K' hK => ?_ | with_reducible refine aw_toS (aw_region0 (by decide +kernel) fun K' hK => ?_)
    simp []
    first | refine hK _ _ _ ?_ | done
    clear K' hK
    repeat with_reducible refine aw_assoc ?_
    first | with_reducible refine aw_block ?_ | with_reducible refine aw_toS (aw_block ?_)
    refine aw_loop (fun t G nx => t 0 = sV s ∧ ∃ i : Nat, t 4 = iV i ∧ i ≤ s.size ∧ t 3 = iV (numV ((bsL s).take i))) (fun s' _ _ => match s' 4 with | .v (.int _ n) => s.size - n.toNat | _ => 0) ?_ ?_
    · exact ⟨by simp [u0], 0, by simp, by omega, by simp [numV]⟩
    · rintro t G nx - ⟨t0, i, t4, hi, t3⟩
      have hw : IntKind.i64.wrap (↑i + 1) = ((i + 1 : Nat) : Int) := wrapS (by omega)
      repeat with_reducible refine aw_assoc ?_
      first | with_reducible refine aw_region0 (by decide +kernel) fun K' hK => ?_ | with_reducible refine aw_toS (aw_region0 (by decide +kernel) fun K' hK => ?_)
      simp [t0, t4]
      first | refine hK _ _ _ ?_ | done
      clear K' hK
      repeat with_reducible refine aw_assoc ?_
      first | with_reducible refine aw_condP fun A B hA hB => ?_ | with_reducible refine aw_toS (aw_condP fun A B hA hB => ?_)
      simp []
      refine ⟨fun hi2 => hA ?_, fun hi2 => hB ?_⟩ <;> clear hA hB A B <;> (try simp at hi2) <;> (try with_reducible refine aw_skip ?_)
      · have hcc : byteA s i = by8 (bsL s) i := rfl
        have hst := numV_snoc (l := bsL s) (i := i) (by omega)
        have hnn := numV_nn hp.1 i (by omega)
        have hpw : (10 : Int) ^ i ≤ 10 ^ 6 := by
          have : (10 : Nat) ^ i ≤ 10 ^ 6 := Nat.pow_le_pow_right (by decide) (by omega)
          exact_mod_cast this
        have hpw6 : (10 : Int) ^ 6 = 1000000 := by decide
        have hd : digB (by8 (bsL s) i) = true := by rw [by8_get (by omega)]; exact List.all_eq_true.1 hp.1 _ (List.getElem_mem _)
        generalize hc : by8 (bsL s) i = c at hcc hst hd
        generalize numV ((bsL s).take i) = v at hst hnn t3
        simp [digB] at hd
        have w1 : IntKind.u8.wrap ((c.toNat : Int) - 48) = (c.toNat : Int) - 48 := wrapU8 (by omega) (by omega)
        have w2 : IntKind.i64.wrap ((c.toNat : Int) - 48) = (c.toNat : Int) - 48 := wrap64 (by omega) (by omega)
        have w3 : IntKind.i64.wrap (10 * v) = 10 * v := wrap64 (by omega) (by omega)
        have w4 : IntKind.i64.wrap (10 * v + ((c.toNat : Int) - 48)) = 10 * v + ((c.toNat : Int) - 48) := wrap64 (by omega) (by omega)
        repeat with_reducible refine aw_assoc ?_
        first | with_reducible refine aw_block ?_ | with_reducible refine aw_toS (aw_block ?_)
        repeat with_reducible refine aw_assoc ?_
        first | with_reducible refine aw_region0 (by decide +kernel) fun K' hK => ?_ | with_reducible refine aw_toS (aw_region0 (by decide +kernel) fun K' hK => ?_)
        simp [t0, t3, t4, hi2, hcc, w1, w2, w3, w4]
        first | refine hK _ _ _ ?_ | done
        clear K' hK
        first | with_reducible refine aw_skipL ?_ | skip
        refine blockK_normal ?_
        repeat with_reducible refine aw_assoc ?_
        first | with_reducible refine aw_region0 (by decide +kernel) fun K' hK => ?_ | with_reducible refine aw_toS (aw_region0 (by decide +kernel) fun K' hK => ?_)
        simp [t4, hw]
        first | refine hK _ _ _ ?_ | done
        clear K' hK
        refine aw_skipL (loopK_normal ?_ ?_)
        · exact ⟨by simp [t0], i + 1, by simp [hw], by omega, by rw [hst]; simp [w1, w2, w3, w4]⟩
        · simp [t4, hw]; omega
      · repeat with_reducible refine aw_assoc ?_
        first | with_reducible refine aw_exit ?_ | with_reducible refine aw_exitL ?_
        refine loopK_exit (blockK_exit ?_)
        have : i = (bsL s).length := by omega
        subst this
        rw [List.take_length] at t3
        repeat with_reducible refine aw_assoc ?_
        first | with_reducible refine aw_region0 (by decide +kernel) fun K' hK => ?_ | with_reducible refine aw_toS (aw_region0 (by decide +kernel) fun K' hK => ?_)
        simp [t3]
        first | refine hK _ _ _ ?_ | done
        clear K' hK
        repeat with_reducible refine aw_assoc ?_
        first | with_reducible refine aw_ret ?_ | with_reducible refine aw_retL ?_ | with_reducible refine aw_skipL ?_
        simp [blockK, loopK, Post, resA, res1, expT, expA, exp1, expM, expL, okT, okA, ok1, rowOf, Tryz.f71]
theorem part_all : ∀ i : _root_.Fin 256, partB (UInt8.ofNat i) = !((decide (((UInt8.ofNat i).toNat : Int) < 97) || decide ((122 : Int) < ((UInt8.ofNat i).toNat : Int))) && ((decide (((UInt8.ofNat i).toNat : Int) < 65) || decide ((90 : Int) < ((UInt8.ofNat i).toNat : Int))) && ((decide (((UInt8.ofNat i).toNat : Int) < 48) || decide ((57 : Int) < ((UInt8.ofNat i).toNat : Int))) && !decide (((UInt8.ofNat i).toNat : Int) = 45)))) := by decide +kernel
theorem part_tab (c : UInt8) : partB c = !((decide ((c.toNat : Int) < 97) || decide ((122 : Int) < (c.toNat : Int))) && ((decide ((c.toNat : Int) < 65) || decide ((90 : Int) < (c.toNat : Int))) && ((decide ((c.toNat : Int) < 48) || decide ((57 : Int) < (c.toNat : Int))) && !decide ((c.toNat : Int) = 45)))) := by
  have := part_all ⟨c.toNat, c.toNat_lt⟩
  rwa [UInt8.ofNat_toNat] at this
theorem num_le {l : List UInt8} : (numP l == numOk l) = (!numP l || numOk l) := by
  cases h : numOk l with
  | false => simp
  | true =>
    have hp : numP l = true := by
      unfold numOk at h
      rw [Bool.and_eq_true] at h
      exact h.1
    simp [hp]
theorem part59_ok (s : Bs) (hs : s.size ≤ 4611686018427387904) : CallsOK Tryz.prog 59 [sV s] (bV (partF (bsL s))) [] := by
  refine callsOK mixed Tryz.call59 Tryz.func59 rfl (by rw [Tryz.ntmps59]; simp) ?_ rfl
  rw [Tryz.ntmps59]
  have hl : (bsL s).length = s.size := bsL_len s
  repeat with_reducible refine aw_assoc ?_
  first | with_reducible refine aw_region0 (by decide +kernel) fun K' hK => ?_ | with_reducible refine aw_toS (aw_region0 (by decide +kernel) fun K' hK => ?_)
  simp []
  first | refine hK _ _ _ ?_ | done
  clear K' hK
  by_cases h1 : (s.size : Int) < 1
  · repeat with_reducible refine aw_assoc ?_
    first | with_reducible refine aw_region0 (by decide +kernel) fun K' hK => ?_ | with_reducible refine aw_toS (aw_region0 (by decide +kernel) fun K' hK => ?_)
    simp [h1]
    first | refine hK _ _ _ ?_ | done
    clear K' hK
    repeat with_reducible refine aw_assoc ?_
    first | with_reducible refine aw_condP fun A B hA hB => ?_ | with_reducible refine aw_toS (aw_condP fun A B hA hB => ?_)
    simp []
    refine ⟨fun hc => hA ?_, fun hc => hB ?_⟩ <;> clear hA hB A B <;> (try (simp at hc; done)) <;> (try (exfalso; simp at hc; omega)) <;> clear hc <;> (try with_reducible refine aw_skip ?_)
    repeat with_reducible refine aw_assoc ?_
    first | with_reducible refine aw_region0 (by decide +kernel) fun K' hK => ?_ | with_reducible refine aw_toS (aw_region0 (by decide +kernel) fun K' hK => ?_)
    simp []
    first | refine hK _ _ _ ?_ | done
    clear K' hK
    repeat with_reducible refine aw_assoc ?_
    first | with_reducible refine aw_ret ?_ | with_reducible refine aw_retL ?_ | with_reducible refine aw_skipL ?_
    simp [blockK, loopK, Post, resA, res1, expT, expA, exp1, expM, expL, okT, okA, ok1, rowOf, Tryz.f59]
    have : bsL s = [] := List.eq_nil_of_length_eq_zero (by omega)
    simp [partF, this]
  by_cases h10 : (10 : Int) < s.size
  · repeat with_reducible refine aw_assoc ?_
    first | with_reducible refine aw_region0 (by decide +kernel) fun K' hK => ?_ | with_reducible refine aw_toS (aw_region0 (by decide +kernel) fun K' hK => ?_)
    simp [h1, h10]
    first | refine hK _ _ _ ?_ | done
    clear K' hK
    repeat with_reducible refine aw_assoc ?_
    first | with_reducible refine aw_condP fun A B hA hB => ?_ | with_reducible refine aw_toS (aw_condP fun A B hA hB => ?_)
    simp []
    refine ⟨fun hc => hA ?_, fun hc => hB ?_⟩ <;> clear hA hB A B <;> (try (simp at hc; done)) <;> (try (exfalso; simp at hc; omega)) <;> clear hc <;> (try with_reducible refine aw_skip ?_)
    repeat with_reducible refine aw_assoc ?_
    first | with_reducible refine aw_region0 (by decide +kernel) fun K' hK => ?_ | with_reducible refine aw_toS (aw_region0 (by decide +kernel) fun K' hK => ?_)
    simp []
    first | refine hK _ _ _ ?_ | done
    clear K' hK
    repeat with_reducible refine aw_assoc ?_
    first | with_reducible refine aw_ret ?_ | with_reducible refine aw_retL ?_ | with_reducible refine aw_skipL ?_
    simp [blockK, loopK, Post, resA, res1, expT, expA, exp1, expM, expL, okT, okA, ok1, rowOf, Tryz.f59]
    have : ¬ (bsL s).length ≤ 10 := by omega
    simp [partF, this]
  have hne : ¬ bsL s = [] := fun h => by rw [h] at hl; simp at hl; omega
  have hle : (bsL s).length ≤ 10 := by omega
  repeat with_reducible refine aw_assoc ?_
  first | with_reducible refine aw_region0 (by decide +kernel) fun K' hK => ?_ | with_reducible refine aw_toS (aw_region0 (by decide +kernel) fun K' hK => ?_)
  simp [h1, h10]
  first | refine hK _ _ _ ?_ | done
  clear K' hK
  repeat with_reducible refine aw_assoc ?_
  first | with_reducible refine aw_condP fun A B hA hB => ?_ | with_reducible refine aw_toS (aw_condP fun A B hA hB => ?_)
  simp []
  refine ⟨fun hc => hA ?_, fun hc => hB ?_⟩ <;> clear hA hB A B <;> (try (simp at hc; done)) <;> (try (exfalso; simp at hc; omega)) <;> clear hc <;> (try with_reducible refine aw_skip ?_)
  repeat with_reducible refine aw_assoc ?_
  first | with_reducible refine aw_region0 (by decide +kernel) fun K' hK => ?_ | with_reducible refine aw_toS (aw_region0 (by decide +kernel) fun K' hK => ?_)
  simp []
  first | refine hK _ _ _ ?_ | done
  clear K' hK
  repeat with_reducible refine aw_assoc ?_
  first | with_reducible refine aw_block ?_ | with_reducible refine aw_toS (aw_block ?_)
  refine aw_loop (fun t G nx => t 0 = sV s ∧ ∃ i : Nat, t 3 = iV i ∧ i ≤ s.size ∧ (List.range i).all (fun i => partB (by8 (bsL s) i)) = true) (fun s' _ _ => match s' 3 with | .v (.int _ n) => s.size - n.toNat | _ => 0) ?_ ?_
  · exact ⟨by simp, 0, by simp, by omega, by simp⟩
  · rintro t G nx - ⟨t0, i, t3, hi, ht⟩
    have hw : IntKind.i64.wrap (↑i + 1) = ((i + 1 : Nat) : Int) := wrapS (by omega)
    repeat with_reducible refine aw_assoc ?_
    first | with_reducible refine aw_region0 (by decide +kernel) fun K' hK => ?_ | with_reducible refine aw_toS (aw_region0 (by decide +kernel) fun K' hK => ?_)
    simp [t0, t3]
    first | refine hK _ _ _ ?_ | done
    clear K' hK
    repeat with_reducible refine aw_assoc ?_
    first | with_reducible refine aw_condP fun A B hA hB => ?_ | with_reducible refine aw_toS (aw_condP fun A B hA hB => ?_)
    simp []
    refine ⟨fun hi2 => hA ?_, fun hi2 => hB ?_⟩ <;> clear hA hB A B <;> (try simp at hi2) <;> (try with_reducible refine aw_skip ?_)
    · repeat with_reducible refine aw_assoc ?_
      first | with_reducible refine aw_block ?_ | with_reducible refine aw_toS (aw_block ?_)
      have hcc : byteA s i = by8 (bsL s) i := rfl
      generalize hc : by8 (bsL s) i = c at hcc
      repeat with_reducible refine aw_assoc ?_
      first | with_reducible refine aw_region0 (by decide +kernel) fun K' hK => ?_ | with_reducible refine aw_toS (aw_region0 (by decide +kernel) fun K' hK => ?_)
      simp [t0, t3, hi2, hcc]
      first | refine hK _ _ _ ?_ | done
      clear K' hK
      repeat with_reducible refine aw_assoc ?_
      refine aw_cut (fun t' G' nx' => t' 0 = sV s ∧ t' 3 = iV i ∧ t' 47 = bV (!partB c)) ?_ ?_
      · by_cases a1 : (c.toNat : Int) < 97
        · by_cases a3 : (c.toNat : Int) < 65
          · by_cases a5 : (c.toNat : Int) < 48
            · by_cases a7 : (c.toNat : Int) = 45
              · repeat with_reducible refine aw_assoc ?_
                first | with_reducible refine aw_region0 (by decide +kernel) fun K' hK => ?_ | with_reducible refine aw_toS (aw_region0 (by decide +kernel) fun K' hK => ?_)
                simp [a1, a3, a5, a7]
                first | refine hK _ _ _ ?_ | done
                clear K' hK
                with_reducible refine aw_end ?_
                simp [t0, t3, part_tab, a1, a3, a5, a7]
              · repeat with_reducible refine aw_assoc ?_
                first | with_reducible refine aw_region0 (by decide +kernel) fun K' hK => ?_ | with_reducible refine aw_toS (aw_region0 (by decide +kernel) fun K' hK => ?_)
                simp [a1, a3, a5, a7]
                first | refine hK _ _ _ ?_ | done
                clear K' hK
                with_reducible refine aw_end ?_
                simp [t0, t3, part_tab, a1, a3, a5, a7]
            · by_cases a6 : (57 : Int) < c.toNat
              · have a7 : ¬ (c.toNat : Int) = 45 := by omega
                repeat with_reducible refine aw_assoc ?_
                first | with_reducible refine aw_region0 (by decide +kernel) fun K' hK => ?_ | with_reducible refine aw_toS (aw_region0 (by decide +kernel) fun K' hK => ?_)
                simp [a1, a3, a5, a6, a7]
                first | refine hK _ _ _ ?_ | done
                clear K' hK
                with_reducible refine aw_end ?_
                simp [t0, t3, part_tab, a1, a3, a5, a6, a7]
              · repeat with_reducible refine aw_assoc ?_
                first | with_reducible refine aw_region0 (by decide +kernel) fun K' hK => ?_ | with_reducible refine aw_toS (aw_region0 (by decide +kernel) fun K' hK => ?_)
                simp [a1, a3, a5, a6]
                first | refine hK _ _ _ ?_ | done
                clear K' hK
                with_reducible refine aw_end ?_
                simp [t0, t3, part_tab, a1, a3, a5, a6]
          · by_cases a4 : (90 : Int) < c.toNat
            · have a5 : ¬ (c.toNat : Int) < 48 := by omega
              have a6 : (57 : Int) < c.toNat := by omega
              have a7 : ¬ (c.toNat : Int) = 45 := by omega
              repeat with_reducible refine aw_assoc ?_
              first | with_reducible refine aw_region0 (by decide +kernel) fun K' hK => ?_ | with_reducible refine aw_toS (aw_region0 (by decide +kernel) fun K' hK => ?_)
              simp [a1, a3, a4, a5, a6, a7]
              first | refine hK _ _ _ ?_ | done
              clear K' hK
              with_reducible refine aw_end ?_
              simp [t0, t3, part_tab, a1, a3, a4, a5, a6, a7]
            · repeat with_reducible refine aw_assoc ?_
              first | with_reducible refine aw_region0 (by decide +kernel) fun K' hK => ?_ | with_reducible refine aw_toS (aw_region0 (by decide +kernel) fun K' hK => ?_)
              simp [a1, a3, a4]
              first | refine hK _ _ _ ?_ | done
              clear K' hK
              with_reducible refine aw_end ?_
              simp [t0, t3, part_tab, a1, a3, a4]
        · by_cases a2 : (122 : Int) < c.toNat
          · have a3 : ¬ (c.toNat : Int) < 65 := by omega
            have a4 : (90 : Int) < c.toNat := by omega
            have a5 : ¬ (c.toNat : Int) < 48 := by omega
            have a6 : (57 : Int) < c.toNat := by omega
            have a7 : ¬ (c.toNat : Int) = 45 := by omega
            repeat with_reducible refine aw_assoc ?_
            first | with_reducible refine aw_region0 (by decide +kernel) fun K' hK => ?_ | with_reducible refine aw_toS (aw_region0 (by decide +kernel) fun K' hK => ?_)
            simp [a1, a2, a3, a4, a5, a6, a7]
            first | refine hK _ _ _ ?_ | done
            clear K' hK
            with_reducible refine aw_end ?_
            simp [t0, t3, part_tab, a1, a2, a3, a4, a5, a6, a7]
          · repeat with_reducible refine aw_assoc ?_
            first | with_reducible refine aw_region0 (by decide +kernel) fun K' hK => ?_ | with_reducible refine aw_toS (aw_region0 (by decide +kernel) fun K' hK => ?_)
            simp [a1, a2]
            first | refine hK _ _ _ ?_ | done
            clear K' hK
            with_reducible refine aw_end ?_
            simp [t0, t3, part_tab, a1, a2]
      rintro u G' nx' ⟨u0, u3, u47⟩
      cases hp : partB c with
      | true =>
        rw [hp] at u47
        repeat with_reducible refine aw_assoc ?_
        first | with_reducible refine aw_condP fun A B hA hB => ?_ | with_reducible refine aw_toS (aw_condP fun A B hA hB => ?_)
        simp [u47]
        refine ⟨fun hc => hA ?_, fun hc => hB ?_⟩ <;> clear hA hB A B <;> (try (simp at hc; done)) <;> (try (exfalso; simp at hc; omega)) <;> clear hc <;> (try with_reducible refine aw_skip ?_)
        first | with_reducible refine aw_skipL ?_ | skip
        refine blockK_normal ?_
        repeat with_reducible refine aw_assoc ?_
        first | with_reducible refine aw_region0 (by decide +kernel) fun K' hK => ?_ | with_reducible refine aw_toS (aw_region0 (by decide +kernel) fun K' hK => ?_)
        simp [u3, hw]
        first | refine hK _ _ _ ?_ | done
        clear K' hK
        refine aw_skipL (loopK_normal ?_ ?_)
        · exact ⟨by simp [u0], i + 1, by simp [hw], by omega, by rw [range_all, ht, hc, hp]; rfl⟩
        · simp [t3, hw]; omega
      | false =>
        rw [hp] at u47
        repeat with_reducible refine aw_assoc ?_
        first | with_reducible refine aw_condP fun A B hA hB => ?_ | with_reducible refine aw_toS (aw_condP fun A B hA hB => ?_)
        simp [u47]
        refine ⟨fun hc => hA ?_, fun hc => hB ?_⟩ <;> clear hA hB A B <;> (try (simp at hc; done)) <;> (try (exfalso; simp at hc; omega)) <;> clear hc <;> (try with_reducible refine aw_skip ?_)
        repeat with_reducible refine aw_assoc ?_
        first | with_reducible refine aw_region0 (by decide +kernel) fun K' hK => ?_ | with_reducible refine aw_toS (aw_region0 (by decide +kernel) fun K' hK => ?_)
        simp []
        first | refine hK _ _ _ ?_ | done
        clear K' hK
        repeat with_reducible refine aw_assoc ?_
        first | with_reducible refine aw_ret ?_ | with_reducible refine aw_retL ?_ | with_reducible refine aw_skipL ?_
        simp [blockK, loopK, Post, resA, res1, expT, expA, exp1, expM, expL, okT, okA, ok1, rowOf, Tryz.f59]
        rw [partF, range_false (i := i) (by omega) (by rw [hc]; exact hp)]
        simp
    · repeat with_reducible refine aw_assoc ?_
      first | with_reducible refine aw_exit ?_ | with_reducible refine aw_exitL ?_
      refine loopK_exit (blockK_exit ?_)
      have : i = (bsL s).length := by omega
      subst this
      have hfin : partF (bsL s) = (!numP (bsL s) || numOk (bsL s)) := by rw [partF, ht, num_le]; simp [hne, hle]
      rw [hfin]
      repeat with_reducible refine aw_assoc ?_
      first | with_reducible refine aw_region0 (by decide +kernel) fun K' hK => ?_ | with_reducible refine aw_toS (aw_region0 (by decide +kernel) fun K' hK => ?_)
      simp [t0]
      refine acall_flat (digits70_ok s hs) rfl (by first | rfl | (simp []; done) | (simp []; rfl) | (simp []; exact ⟨rfl, rfl⟩)) ?_
      cases hp : numP (bsL s) with
      | false =>
        simp
        first | refine hK _ _ _ ?_ | done
        clear K' hK
        repeat with_reducible refine aw_assoc ?_
        first | with_reducible refine aw_ret ?_ | with_reducible refine aw_retL ?_ | with_reducible refine aw_skipL ?_
        simp [blockK, loopK, Post, resA, res1, expT, expA, exp1, expM, expL, okT, okA, ok1, rowOf, Tryz.f59]
        exact .inl hp
      | true =>
        have hnn := numR_nn (l := bsL s)
        simp [t0]
        refine acall_flat (number71_ok s hs) rfl (by first | rfl | (simp []; done) | (simp []; rfl) | (simp []; exact ⟨rfl, rfl⟩)) ?_
        simp [hnn]
        first | refine hK _ _ _ ?_ | done
        clear K' hK
        repeat with_reducible refine aw_assoc ?_
        first | with_reducible refine aw_ret ?_ | with_reducible refine aw_retL ?_ | with_reducible refine aw_skipL ?_
        simp [blockK, loopK, Post, resA, res1, expT, expA, exp1, expM, expL, okT, okA, ok1, rowOf, Tryz.f59]
        intro h
        rw [hp] at h; cases h
end Go.Proofs.YtomidniaekeafaaGreatDoorAbs
/- hoggetref04: Cut, Right. -/
namespace Go.Proofs.YtomidniaekeafaaGreatDoorAbs
set_option linter.unusedSimpArgs false
set_option linter.unusedVariables false
open Go Go.RowKit Go.Proofs
set_option maxRecDepth 100000
set_option maxHeartbeats 1000000
/-- The parts between points. -/
def spl : List UInt8 → List (List UInt8)
  | [] => [[]]
  | b :: l => if b = 46 then [] :: spl l else match spl l with
    | [] => [[b]]
    | p :: ps => (b :: p) :: ps
theorem spl_ne : ∀ l : List UInt8, spl l ≠ []
  | [] => by simp [spl]
  | b :: l => by
    rw [spl]
    split
    · simp
    · cases spl l <;> simp
theorem spl_out : ∀ {a : List UInt8}, (46 : UInt8) ∉ a → spl a = [a]
  | [], _ => rfl
  | b :: a, h => by
    have h1 : ¬ b = 46 := fun e => h (by simp [e])
    rw [spl, if_neg h1, spl_out (a := a) (fun e => h (List.mem_cons_of_mem _ e))]
theorem spl_in : ∀ {a r : List UInt8}, (46 : UInt8) ∉ a → spl (a ++ 46 :: r) = a :: spl r
  | [], r, _ => by simp [spl]
  | b :: a, r, h => by
    have h1 : ¬ b = 46 := fun e => h (by simp [e])
    rw [List.cons_append, spl, if_neg h1, spl_in (a := a) (fun e => h (List.mem_cons_of_mem _ e))]
theorem dot_spl : ∀ (k : Nat) (l : List UInt8), dotOk k l = (decide ((spl l).length ≤ k) && (spl l).all partF)
  | 0, l => by
    have := List.length_pos_iff.2 (spl_ne l)
    rw [dotOk]
    have h : ¬ (spl l).length ≤ 0 := by omega
    simp [h]
  | k + 1, l => by
    rw [dotOk]
    by_cases hm : (46 : UInt8) ∈ l
    · obtain ⟨a, r, h1, rfl⟩ := first_at hm
      rw [ib_in h1, if_neg (by omega), spl_in h1, Int.toNat_natCast, List.take_left', show (a ++ 46 :: r).drop (a.length + 1) = r by simp, dot_spl k r]
      · simp only [List.length_cons, List.all_cons, Nat.add_le_add_iff_right]
        cases partF a <;> simp
      · rfl
    · rw [ib_out hm, if_pos (by omega), spl_out hm]
      simp
theorem drop_at {l : List UInt8} {f i : Nat} (hf : f ≤ i) (hi : i < l.length) (h : by8 l i = 46) : l.drop f = ((l.take i).drop f) ++ 46 :: l.drop (i + 1) := by
  have e : l = l.take i ++ 46 :: l.drop (i + 1) := by
    rw [← h, by8_get hi, List.getElem_cons_drop]; simp
  conv => lhs; rw [e]
  rw [List.drop_append_of_le_length (by rw [List.length_take]; omega)]
theorem no_at {l : List UInt8} {f i : Nat} (hi : i ≤ l.length) (h : ∀ j, f ≤ j → j < i → by8 l j ≠ 46) : (46 : UInt8) ∉ (l.take i).drop f := by
  intro hm
  obtain ⟨j, hj, he⟩ := List.mem_iff_getElem.1 hm
  rw [List.length_drop, List.length_take] at hj
  rw [List.getElem_drop, List.getElem_take] at he
  exact h (f + j) (by omega) (by omega) (by rw [by8_get (by omega), he])
/-- Where the loop stands: what is cut off, from where on, up to where. -/
def CutAt (l : List UInt8) (out : List (List UInt8)) (f i : Nat) : Prop :=
  (i ≤ l.length ∧ f ≤ i ∧ (∀ j, f ≤ j → j < i → by8 l j ≠ 46) ∧ out ++ spl (l.drop f) = spl l ∧ out.length ≤ f) ∨ (i = l.length + 1 ∧ out = spl l ∧ f ≤ i)
theorem cut_step {l : List UInt8} {out : List (List UInt8)} {f i : Nat} (h : CutAt l out f i) (hi : i ≤ l.length) : f ≤ i ∧ out.length ≤ f ∧
    ((i < l.length ∧ by8 l i ≠ 46 → CutAt l out f (i + 1)) ∧ (¬ (i < l.length ∧ by8 l i ≠ 46) → CutAt l (out ++ [(l.take i).drop f]) (i + 1) (i + 1))) := by
  rcases h with ⟨_, h2, h3, h4, h5⟩ | ⟨h, _⟩
  · refine ⟨h2, h5, fun ⟨q1, q2⟩ => .inl ⟨by omega, by omega, fun j a b => ?_, h4, h5⟩, fun hq => ?_⟩
    · rcases Nat.lt_or_ge j i with h | h
      · exact h3 j a h
      · have : j = i := by omega
        subst this; exact q2
    · rcases Nat.lt_or_ge i l.length with hl | hl
      · have h46 : by8 l i = 46 := Decidable.not_not.1 fun h => hq ⟨hl, h⟩
        refine .inl ⟨by omega, Nat.le_refl _, fun j a b => by omega, ?_, by simp; omega⟩
        rw [drop_at h2 hl h46, spl_in (no_at hi h3)] at h4
        rw [← h4]; simp
      · have : i = l.length := by omega
        subst this
        refine .inr ⟨rfl, ?_, Nat.le_refl _⟩
        have hno := no_at hi h3
        rw [List.take_length] at hno ⊢
        rw [spl_out hno] at h4
        exact h4
  · omega
def strs (L : List (List UInt8)) : List Bs := L.map ofL
theorem strs_snoc {L : List (List UInt8)} {x : List UInt8} : strs (L ++ [x]) = strs L ++ [ofL x] := by simp [strs]
theorem cut58_ok (s : Bs) (hs : s.size ≤ 4000000000) : CallsOK Tryz.prog 58 [sV s, .v (.int .u8 46)] (.row 0 (strs (spl (bsL s))).length) [(9, flat sC (strs (spl (bsL s))))] := by
  refine callsOK mixed Tryz.call58 Tryz.func58 rfl (by rw [Tryz.ntmps58]; simp) ?_ rfl
  rw [Tryz.ntmps58]
  have hl : (bsL s).length = s.size := bsL_len s
  repeat with_reducible refine aw_assoc ?_
  first | with_reducible refine aw_region0 (by decide +kernel) fun K' hK => ?_ | with_reducible refine aw_toS (aw_region0 (by decide +kernel) fun K' hK => ?_)
  simp []
  first | refine hK _ _ _ ?_ | done
  clear K' hK
  repeat with_reducible refine aw_assoc ?_
  first | with_reducible refine aw_region0 (by decide +kernel) fun K' hK => ?_ | with_reducible refine aw_toS (aw_region0 (by decide +kernel) fun K' hK => ?_)
  simp []
  first | refine hK _ _ _ ?_ | done
  clear K' hK
  repeat with_reducible refine aw_assoc ?_
  first | with_reducible refine aw_region0 (by decide +kernel) fun K' hK => ?_ | with_reducible refine aw_toS (aw_region0 (by decide +kernel) fun K' hK => ?_)
  simp []
  first | refine hK _ _ _ ?_ | done
  clear K' hK
  repeat with_reducible refine aw_assoc ?_
  first | with_reducible refine aw_region0 (by decide +kernel) fun K' hK => ?_ | with_reducible refine aw_toS (aw_region0 (by decide +kernel) fun K' hK => ?_)
  simp []
  first | refine hK _ _ _ ?_ | done
  clear K' hK
  repeat with_reducible refine aw_assoc ?_
  first | with_reducible refine aw_block ?_ | with_reducible refine aw_toS (aw_block ?_)
  refine aw_loop (fun t G nx => t 0 = sV s ∧ t 1 = .v (.int .u8 46) ∧ ∃ (i f : Nat) (out : List (List UInt8)), t 7 = iV i ∧ t 6 = iV f ∧ CutAt (bsL s) out f i ∧ ∃ r, t 5 = .row r (strs out).length ∧ G r = some (.row 9 (flat sC (strs out))) ∧ r < nx) (fun s' _ _ => match s' 7 with | .v (.int _ n) => s.size + 1 - n.toNat | _ => 0) ?_ ?_
  · exact ⟨by simp, by simp, 0, 0, [], by simp, by simp, .inl ⟨by omega, by omega, fun j a b => by omega, by simp, by simp⟩, 1, by simp [strs], by simp [strs], by omega⟩
  · rintro t G nx - ⟨t0, t1, i, f, out, t7, t6, hcut, r, t5, hr, hrn⟩
    have hw : IntKind.i64.wrap (↑i + 1) = ((i + 1 : Nat) : Int) := wrapS (by rcases hcut with h | h <;> omega)
    repeat with_reducible refine aw_assoc ?_
    first | with_reducible refine aw_region0 (by decide +kernel) fun K' hK => ?_ | with_reducible refine aw_toS (aw_region0 (by decide +kernel) fun K' hK => ?_)
    simp [t0, t7]
    first | refine hK _ _ _ ?_ | done
    clear K' hK
    repeat with_reducible refine aw_assoc ?_
    first | with_reducible refine aw_condP fun A B hA hB => ?_ | with_reducible refine aw_toS (aw_condP fun A B hA hB => ?_)
    simp []
    refine ⟨fun hi2 => hA ?_, fun hi2 => hB ?_⟩ <;> clear hA hB A B <;> (try simp at hi2) <;> (try with_reducible refine aw_skip ?_)
    · obtain ⟨hfi, hof, hno, hyes⟩ := cut_step hcut (by omega)
      repeat with_reducible refine aw_assoc ?_
      first | with_reducible refine aw_block ?_ | with_reducible refine aw_toS (aw_block ?_)
      repeat with_reducible refine aw_assoc ?_
      refine aw_cut (fun u H ny => H r = some (.row 9 (flat sC (strs out))) ∧ r < ny ∧ u 0 = sV s ∧ u 1 = .v (.int .u8 46) ∧ u 5 = .row r (strs out).length ∧ u 6 = iV f ∧ u 7 = iV i ∧ u 24 = bV (!decide (i < (bsL s).length ∧ by8 (bsL s) i ≠ 46))) ?_ ?_
      · by_cases he : i = s.size
        · have he' : ((i : Nat) : Int) = s.size := by omega
          have hn : ¬ i < (bsL s).length := by omega
          repeat with_reducible refine aw_assoc ?_
          first | with_reducible refine aw_region0 (by decide +kernel) fun K' hK => ?_ | with_reducible refine aw_toS (aw_region0 (by decide +kernel) fun K' hK => ?_)
          simp [t0, t7, he, he']
          first | refine hK _ _ _ ?_ | done
          clear K' hK
          with_reducible refine aw_end ?_
          simp [hr, hrn, t0, t1, t5, t6, t7, he, hl]
        · have he' : ¬ ((i : Nat) : Int) = s.size := by omega
          have hi3 : i < s.size := by omega
          have hcc : byteA s i = by8 (bsL s) i := rfl
          generalize hc : by8 (bsL s) i = c at hcc
          by_cases h46 : (c.toNat : Int) = 46
          · have h46' : c = 46 := u8_of (n := 46) h46 (by decide)
            repeat with_reducible refine aw_assoc ?_
            first | with_reducible refine aw_region0 (by decide +kernel) fun K' hK => ?_ | with_reducible refine aw_toS (aw_region0 (by decide +kernel) fun K' hK => ?_)
            simp [t0, t1, t7, he, he', hi3, hcc, h46]
            first | refine hK _ _ _ ?_ | done
            clear K' hK
            with_reducible refine aw_end ?_
            simp [hr, hrn, t0, t1, t5, t6, t7, hl, hi3, h46']
          · have h46' : ¬ c = 46 := fun h => h46 (by rw [h]; rfl)
            repeat with_reducible refine aw_assoc ?_
            first | with_reducible refine aw_region0 (by decide +kernel) fun K' hK => ?_ | with_reducible refine aw_toS (aw_region0 (by decide +kernel) fun K' hK => ?_)
            simp [t0, t1, t7, he, he', hi3, hcc, h46]
            first | refine hK _ _ _ ?_ | done
            clear K' hK
            with_reducible refine aw_end ?_
            simp [hr, hrn, t0, t1, t5, t6, t7, hl, hi3, h46']
      rintro u H nx ⟨hr, hrn, u0, u1, u5, u6, u7, u24⟩
      by_cases hq : i < (bsL s).length ∧ by8 (bsL s) i ≠ 46
      · have hb : (!decide (i < (bsL s).length ∧ by8 (bsL s) i ≠ 46)) = false := by simp [hq]
        rw [hb] at u24
        repeat with_reducible refine aw_assoc ?_
        first | with_reducible refine aw_condP fun A B hA hB => ?_ | with_reducible refine aw_toS (aw_condP fun A B hA hB => ?_)
        simp [u24]
        refine ⟨fun hc => hA ?_, fun hc => hB ?_⟩ <;> clear hA hB A B <;> (try (simp at hc; done)) <;> (try (exfalso; simp at hc; omega)) <;> clear hc <;> (try with_reducible refine aw_skip ?_)
        first | with_reducible refine aw_skipL ?_ | skip
        refine blockK_normal ?_
        repeat with_reducible refine aw_assoc ?_
        first | with_reducible refine aw_region0 (by decide +kernel) fun K' hK => ?_ | with_reducible refine aw_toS (aw_region0 (by decide +kernel) fun K' hK => ?_)
        simp [u7, hw]
        first | refine hK _ _ _ ?_ | done
        clear K' hK
        refine aw_skipL (loopK_normal ?_ ?_)
        · exact ⟨by simp [u0], by simp [u1], i + 1, f, out, by simp [hw], by simp [u6], hno hq, r, by simp [u5], hr, hrn⟩
        · simp [t7, hw]; omega
      · have hb : (!decide (i < (bsL s).length ∧ by8 (bsL s) i ≠ 46)) = true := by simp only [hq]; rfl
        rw [hb] at u24
        have hnew := hyes hq
        have hsl : s.extract f i = ofL (((bsL s).take i).drop f) := by apply bsL_inj; rw [bsL_ofL, bsL_ext]
        have i1 : i ≤ s.size := by omega
        have hlo : (strs out).length ≤ f := by simpa [strs] using hof
        have b1 : (strs out).length + 1 ≤ 9223372036854775807 := by omega
        have b2 : ((strs out).length + 1) * 16 ≤ 140737488355328 := by omega
        have n1 : ¬ r = nx := by omega
        repeat with_reducible refine aw_assoc ?_
        first | with_reducible refine aw_condP fun A B hA hB => ?_ | with_reducible refine aw_toS (aw_condP fun A B hA hB => ?_)
        simp [u24]
        refine ⟨fun hc => hA ?_, fun hc => hB ?_⟩ <;> clear hA hB A B <;> (try (simp at hc; done)) <;> (try (exfalso; simp at hc; omega)) <;> clear hc <;> (try with_reducible refine aw_skip ?_)
        repeat with_reducible refine aw_assoc ?_
        first | with_reducible refine aw_region0 (by decide +kernel) fun K' hK => ?_ | with_reducible refine aw_toS (aw_region0 (by decide +kernel) fun K' hK => ?_)
        simp [u5, u0, u6, u7, bnd_some, hfi, i1, hr, b1, b2, n1, treeOf_row, srcOf_row]
        first | refine hK _ _ _ ?_ | done
        clear K' hK
        repeat with_reducible refine aw_assoc ?_
        first | with_reducible refine aw_region0 (by decide +kernel) fun K' hK => ?_ | with_reducible refine aw_toS (aw_region0 (by decide +kernel) fun K' hK => ?_)
        simp [u7, hw]
        first | refine hK _ _ _ ?_ | done
        clear K' hK
        first | with_reducible refine aw_skipL ?_ | skip
        refine blockK_normal ?_
        repeat with_reducible refine aw_assoc ?_
        first | with_reducible refine aw_region0 (by decide +kernel) fun K' hK => ?_ | with_reducible refine aw_toS (aw_region0 (by decide +kernel) fun K' hK => ?_)
        simp [u7, hw]
        first | refine hK _ _ _ ?_ | done
        clear K' hK
        refine aw_skipL (loopK_normal ?_ ?_)
        · refine ⟨by simp [u0], by simp [u1], i + 1, i + 1, _, by simp [hw], by simp [hw], hnew, nx + 1, by simp [strs_snoc], ?_, by omega⟩
          rw [strs_snoc, ← hsl, Hp.upd_self, ← flat_app]; rfl
        · simp [t7, hw]; omega
    · repeat with_reducible refine aw_assoc ?_
      first | with_reducible refine aw_exit ?_ | with_reducible refine aw_exitL ?_
      refine loopK_exit (blockK_exit ?_)
      have hout : out = spl (bsL s) := by
        rcases hcut with h | h
        · omega
        · exact h.2.1
      subst hout
      repeat with_reducible refine aw_assoc ?_
      first | with_reducible refine aw_region0 (by decide +kernel) fun K' hK => ?_ | with_reducible refine aw_toS (aw_region0 (by decide +kernel) fun K' hK => ?_)
      simp [t5]
      first | refine hK _ _ _ ?_ | done
      clear K' hK
      repeat with_reducible refine aw_assoc ?_
      first | with_reducible refine aw_ret ?_ | with_reducible refine aw_retL ?_ | with_reducible refine aw_skipL ?_
      simp [blockK, loopK, Post, resA, res1, expT, expA, exp1, expM, expL, okT, okA, ok1, rowOf, Tryz.f58, hr]
theorem spl_len : ∀ (l : List UInt8), ∀ x ∈ spl l, x.length ≤ l.length
  | [], x, h => by simp [spl] at h; simp [h]
  | b :: l, x, h => by
    have ih := spl_len l
    rw [spl] at h
    split at h
    · rcases List.mem_cons.1 h with rfl | h
      · simp
      · have := ih x h
        simp; omega
    · cases hs : spl l with
      | nil => exact absurd hs (spl_ne l)
      | cons p ps =>
        rw [hs] at h ih
        rcases List.mem_cons.1 h with rfl | h
        · have := ih p (by simp)
          simp; omega
        · have := ih x (List.mem_cons_of_mem _ h)
          simp; omega
theorem spl_count : ∀ (l : List UInt8), (spl l).length ≤ l.length + 1
  | [] => by simp [spl]
  | b :: l => by
    have ih := spl_count l
    rw [spl]
    split
    · simp; omega
    · cases hs : spl l with
      | nil => simp
      | cons p ps =>
        rw [hs] at ih
        simp at ih ⊢; omega
theorem strs_nth {L : List (List UInt8)} {i : Nat} (h : i < L.length) : nth (strs L) i = ofL (nth L i) := by
  rw [nth_eq (by simpa [strs] using h), nth_eq h]
  simp [strs]
theorem strs_len {L : List (List UInt8)} : (strs L).length = L.length := by simp [strs]
theorem right37_ok (v : Ver) (hs : v.pre.size ≤ 4000000000) : CallsOK Tryz.prog 37 [.agg v.cells] (bV (verOk v)) [] := by
  refine callsOK mixed Tryz.call37 Tryz.func37 rfl (by rw [Tryz.ntmps37]; simp) ?_ rfl
  rw [Tryz.ntmps37]
  have hl : (bsL v.pre).length = v.pre.size := bsL_len v.pre
  repeat with_reducible refine aw_assoc ?_
  first | with_reducible refine aw_region0 (by decide +kernel) fun K' hK => ?_ | with_reducible refine aw_toS (aw_region0 (by decide +kernel) fun K' hK => ?_)
  simp []
  first | refine hK _ _ _ ?_ | done
  clear K' hK
  repeat with_reducible refine aw_assoc ?_
  first | with_reducible refine aw_region0 (by decide +kernel) fun K' hK => ?_ | with_reducible refine aw_toS (aw_region0 (by decide +kernel) fun K' hK => ?_)
  simp []
  refine acall_flat (may57_ok v.maj) rfl (by first | rfl | (simp []; done) | (simp []; rfl) | (simp []; exact ⟨rfl, rfl⟩)) ?_
  cases h1 : inR v.maj with
  | false =>
    simp
    first | refine hK _ _ _ ?_ | done
    clear K' hK
    repeat with_reducible refine aw_assoc ?_
    first | with_reducible refine aw_condP fun A B hA hB => ?_ | with_reducible refine aw_toS (aw_condP fun A B hA hB => ?_)
    simp []
    refine ⟨fun hc => hA ?_, fun hc => hB ?_⟩ <;> clear hA hB A B <;> (try (simp at hc; done)) <;> (try (exfalso; simp at hc; omega)) <;> clear hc <;> (try with_reducible refine aw_skip ?_)
    repeat with_reducible refine aw_assoc ?_
    first | with_reducible refine aw_region0 (by decide +kernel) fun K' hK => ?_ | with_reducible refine aw_toS (aw_region0 (by decide +kernel) fun K' hK => ?_)
    simp []
    first | refine hK _ _ _ ?_ | done
    clear K' hK
    repeat with_reducible refine aw_assoc ?_
    first | with_reducible refine aw_ret ?_ | with_reducible refine aw_retL ?_ | with_reducible refine aw_skipL ?_
    simp [blockK, loopK, Post, resA, res1, expT, expA, exp1, expM, expL, okT, okA, ok1, rowOf, Tryz.f37]
    simp [verOk, h1]
  | true =>
  simp
  refine acall_flat (may57_ok v.min) rfl (by first | rfl | (simp []; done) | (simp []; rfl) | (simp []; exact ⟨rfl, rfl⟩)) ?_
  cases h2 : inR v.min with
  | false =>
    simp
    first | refine hK _ _ _ ?_ | done
    clear K' hK
    repeat with_reducible refine aw_assoc ?_
    first | with_reducible refine aw_condP fun A B hA hB => ?_ | with_reducible refine aw_toS (aw_condP fun A B hA hB => ?_)
    simp []
    refine ⟨fun hc => hA ?_, fun hc => hB ?_⟩ <;> clear hA hB A B <;> (try (simp at hc; done)) <;> (try (exfalso; simp at hc; omega)) <;> clear hc <;> (try with_reducible refine aw_skip ?_)
    repeat with_reducible refine aw_assoc ?_
    first | with_reducible refine aw_region0 (by decide +kernel) fun K' hK => ?_ | with_reducible refine aw_toS (aw_region0 (by decide +kernel) fun K' hK => ?_)
    simp []
    first | refine hK _ _ _ ?_ | done
    clear K' hK
    repeat with_reducible refine aw_assoc ?_
    first | with_reducible refine aw_ret ?_ | with_reducible refine aw_retL ?_ | with_reducible refine aw_skipL ?_
    simp [blockK, loopK, Post, resA, res1, expT, expA, exp1, expM, expL, okT, okA, ok1, rowOf, Tryz.f37]
    simp [verOk, h2]
  | true =>
  simp
  refine acall_flat (may57_ok v.pat) rfl (by first | rfl | (simp []; done) | (simp []; rfl) | (simp []; exact ⟨rfl, rfl⟩)) ?_
  cases h3 : inR v.pat with
  | false =>
    simp
    first | refine hK _ _ _ ?_ | done
    clear K' hK
    repeat with_reducible refine aw_assoc ?_
    first | with_reducible refine aw_condP fun A B hA hB => ?_ | with_reducible refine aw_toS (aw_condP fun A B hA hB => ?_)
    simp []
    refine ⟨fun hc => hA ?_, fun hc => hB ?_⟩ <;> clear hA hB A B <;> (try (simp at hc; done)) <;> (try (exfalso; simp at hc; omega)) <;> clear hc <;> (try with_reducible refine aw_skip ?_)
    repeat with_reducible refine aw_assoc ?_
    first | with_reducible refine aw_region0 (by decide +kernel) fun K' hK => ?_ | with_reducible refine aw_toS (aw_region0 (by decide +kernel) fun K' hK => ?_)
    simp []
    first | refine hK _ _ _ ?_ | done
    clear K' hK
    repeat with_reducible refine aw_assoc ?_
    first | with_reducible refine aw_ret ?_ | with_reducible refine aw_retL ?_ | with_reducible refine aw_skipL ?_
    simp [blockK, loopK, Post, resA, res1, expT, expA, exp1, expM, expL, okT, okA, ok1, rowOf, Tryz.f37]
    simp [verOk, h3]
  | true =>
  simp
  first | refine hK _ _ _ ?_ | done
  clear K' hK
  repeat with_reducible refine aw_assoc ?_
  first | with_reducible refine aw_condP fun A B hA hB => ?_ | with_reducible refine aw_toS (aw_condP fun A B hA hB => ?_)
  simp []
  refine ⟨fun hc => hA ?_, fun hc => hB ?_⟩ <;> clear hA hB A B <;> (try (simp at hc; done)) <;> (try (exfalso; simp at hc; omega)) <;> clear hc <;> (try with_reducible refine aw_skip ?_)
  by_cases he : v.pre = ⟨#[]⟩
  · repeat with_reducible refine aw_assoc ?_
    first | with_reducible refine aw_region0 (by decide +kernel) fun K' hK => ?_ | with_reducible refine aw_toS (aw_region0 (by decide +kernel) fun K' hK => ?_)
    simp [he]
    first | refine hK _ _ _ ?_ | done
    clear K' hK
    repeat with_reducible refine aw_assoc ?_
    first | with_reducible refine aw_condP fun A B hA hB => ?_ | with_reducible refine aw_toS (aw_condP fun A B hA hB => ?_)
    simp []
    refine ⟨fun hc => hA ?_, fun hc => hB ?_⟩ <;> clear hA hB A B <;> (try (simp at hc; done)) <;> (try (exfalso; simp at hc; omega)) <;> clear hc <;> (try with_reducible refine aw_skip ?_)
    repeat with_reducible refine aw_assoc ?_
    first | with_reducible refine aw_region0 (by decide +kernel) fun K' hK => ?_ | with_reducible refine aw_toS (aw_region0 (by decide +kernel) fun K' hK => ?_)
    simp []
    first | refine hK _ _ _ ?_ | done
    clear K' hK
    repeat with_reducible refine aw_assoc ?_
    first | with_reducible refine aw_ret ?_ | with_reducible refine aw_retL ?_ | with_reducible refine aw_skipL ?_
    simp [blockK, loopK, Post, resA, res1, expT, expA, exp1, expM, expL, okT, okA, ok1, rowOf, Tryz.f37]
    simp [verOk, h1, h2, h3, preOk, he, bsL_empty]
  · have hne : ¬ bsL v.pre = [] := fun h => he ((empty_iff _).2 h)
    have hfin : verOk v = (decide ((spl (bsL v.pre)).length ≤ 5) && (spl (bsL v.pre)).all partF) := by
      rw [verOk, preOk, h1, h2, h3, dot_spl]
      simp [hne]
    rw [hfin]
    repeat with_reducible refine aw_assoc ?_
    first | with_reducible refine aw_region0 (by decide +kernel) fun K' hK => ?_ | with_reducible refine aw_toS (aw_region0 (by decide +kernel) fun K' hK => ?_)
    simp [he]
    first | refine hK _ _ _ ?_ | done
    clear K' hK
    repeat with_reducible refine aw_assoc ?_
    first | with_reducible refine aw_condP fun A B hA hB => ?_ | with_reducible refine aw_toS (aw_condP fun A B hA hB => ?_)
    simp []
    refine ⟨fun hc => hA ?_, fun hc => hB ?_⟩ <;> clear hA hB A B <;> (try (simp at hc; done)) <;> (try (exfalso; simp at hc; omega)) <;> clear hc <;> (try with_reducible refine aw_skip ?_)
    repeat with_reducible refine aw_assoc ?_
    first | with_reducible refine aw_region0 (by decide +kernel) fun K' hK => ?_ | with_reducible refine aw_toS (aw_region0 (by decide +kernel) fun K' hK => ?_)
    simp []
    refine acall_new (cut58_ok v.pre hs) (by first | rfl | (simp []; done) | (simp []; rfl) | (simp []; exact ⟨rfl, rfl⟩)) ?_
    simp [addJ_one]
    first | refine hK _ _ _ ?_ | done
    clear K' hK
    repeat with_reducible refine aw_assoc ?_
    first | with_reducible refine aw_region0 (by decide +kernel) fun K' hK => ?_ | with_reducible refine aw_toS (aw_region0 (by decide +kernel) fun K' hK => ?_)
    simp []
    first | refine hK _ _ _ ?_ | done
    clear K' hK
    have hsl := spl_len (bsL v.pre)
    have hsc := spl_count (bsL v.pre)
    generalize spl (bsL v.pre) = L at hsl hsc
    have hLl : (strs L).length = L.length := strs_len
    refine aw_gen (fun s G nx => s 3 = .row 1 (strs L).length ∧ s 4 = iV 0 ∧ G 1 = some (.row 9 (flat sC (strs L)))) ?_ ?_
    · simp
    rintro s G nx ⟨s3, s4, g1⟩
    repeat with_reducible refine aw_assoc ?_
    first | with_reducible refine aw_block ?_ | with_reducible refine aw_toS (aw_block ?_)
    refine aw_loop (fun s G nx => s 3 = .row 1 (strs L).length ∧ G 1 = some (.row 9 (flat sC (strs L))) ∧ ∃ i : Nat, s 4 = iV i ∧ i ≤ (strs L).length ∧ (L.take i).all partF = true) (fun s _ _ => match s 4 with | .v (.int _ n) => (strs L).length - n.toNat | _ => 0) ?_ ?_
    · exact ⟨s3, g1, 0, by simp [s4], by omega, by simp⟩
    · rintro s G nx - ⟨s3, g1, i, s4, hi, hall⟩
      repeat with_reducible refine aw_assoc ?_
      first | with_reducible refine aw_region0 (by decide +kernel) fun K' hK => ?_ | with_reducible refine aw_toS (aw_region0 (by decide +kernel) fun K' hK => ?_)
      simp [s3, s4, g1]
      first | refine hK _ _ _ ?_ | done
      clear K' hK
      repeat with_reducible refine aw_assoc ?_
      first | with_reducible refine aw_condP fun A B hA hB => ?_ | with_reducible refine aw_toS (aw_condP fun A B hA hB => ?_)
      simp []
      refine ⟨fun hi2 => hA ?_, fun hi2 => hB ?_⟩ <;> clear hA hB A B <;> (try simp at hi2) <;> (try with_reducible refine aw_skip ?_)
      · have hi3 : i < L.length := by omega
        have hw : IntKind.i64.wrap (↑i + 1) = ((i + 1 : Nat) : Int) := wrapS (by omega)
        have hst := all_take1 (p := partF) hi3
        rw [hall, Bool.true_and] at hst
        have hmem := hsl _ (nth_mem hi3)
        have hpp := part59_ok (nth (strs L) i) (by rw [strs_nth hi3, ofL_size]; omega)
        rw [strs_nth hi3, bsL_ofL] at hpp
        repeat with_reducible refine aw_assoc ?_
        first | with_reducible refine aw_block ?_ | with_reducible refine aw_toS (aw_block ?_)
        repeat with_reducible refine aw_assoc ?_
        first | with_reducible refine aw_region0 (by decide +kernel) fun K' hK => ?_ | with_reducible refine aw_toS (aw_region0 (by decide +kernel) fun K' hK => ?_)
        simp [s3, s4, g1, hi2, strs_nth hi3]
        refine acall_flat hpp rfl (by first | rfl | (simp []; done) | (simp []; rfl) | (simp []; exact ⟨rfl, rfl⟩)) ?_
        cases hp : partF (nth L i) with
        | true =>
          rw [hp] at hst
          simp
          first | refine hK _ _ _ ?_ | done
          clear K' hK
          repeat with_reducible refine aw_assoc ?_
          first | with_reducible refine aw_condP fun A B hA hB => ?_ | with_reducible refine aw_toS (aw_condP fun A B hA hB => ?_)
          simp []
          refine ⟨fun hc => hA ?_, fun hc => hB ?_⟩ <;> clear hA hB A B <;> (try (simp at hc; done)) <;> (try (exfalso; simp at hc; omega)) <;> clear hc <;> (try with_reducible refine aw_skip ?_)
          first | with_reducible refine aw_skipL ?_ | skip
          refine blockK_normal ?_
          repeat with_reducible refine aw_assoc ?_
          first | with_reducible refine aw_region0 (by decide +kernel) fun K' hK => ?_ | with_reducible refine aw_toS (aw_region0 (by decide +kernel) fun K' hK => ?_)
          simp [s4, hw]
          first | refine hK _ _ _ ?_ | done
          clear K' hK
          refine aw_skipL (loopK_normal ?_ ?_)
          · exact ⟨by simp [s3], g1, i + 1, by simp [hw], by omega, hst⟩
          · simp [s4, hw]; omega
        | false =>
          simp
          first | refine hK _ _ _ ?_ | done
          clear K' hK
          repeat with_reducible refine aw_assoc ?_
          first | with_reducible refine aw_condP fun A B hA hB => ?_ | with_reducible refine aw_toS (aw_condP fun A B hA hB => ?_)
          simp []
          refine ⟨fun hc => hA ?_, fun hc => hB ?_⟩ <;> clear hA hB A B <;> (try (simp at hc; done)) <;> (try (exfalso; simp at hc; omega)) <;> clear hc <;> (try with_reducible refine aw_skip ?_)
          repeat with_reducible refine aw_assoc ?_
          first | with_reducible refine aw_region0 (by decide +kernel) fun K' hK => ?_ | with_reducible refine aw_toS (aw_region0 (by decide +kernel) fun K' hK => ?_)
          simp []
          first | refine hK _ _ _ ?_ | done
          clear K' hK
          repeat with_reducible refine aw_assoc ?_
          first | with_reducible refine aw_ret ?_ | with_reducible refine aw_retL ?_ | with_reducible refine aw_skipL ?_
          simp [blockK, loopK, Post, resA, res1, expT, expA, exp1, expM, expL, okT, okA, ok1, rowOf, Tryz.f37]
          intro _
          exact ⟨_, nth_mem hi3, hp⟩
      · repeat with_reducible refine aw_assoc ?_
        first | with_reducible refine aw_exit ?_ | with_reducible refine aw_exitL ?_
        refine loopK_exit (blockK_exit ?_)
        have : i = L.length := by omega
        subst this
        rw [List.take_length] at hall
        repeat with_reducible refine aw_assoc ?_
        first | with_reducible refine aw_region0 (by decide +kernel) fun K' hK => ?_ | with_reducible refine aw_toS (aw_region0 (by decide +kernel) fun K' hK => ?_)
        simp [s3, g1]
        first | refine hK _ _ _ ?_ | done
        clear K' hK
        repeat with_reducible refine aw_assoc ?_
        first | with_reducible refine aw_ret ?_ | with_reducible refine aw_retL ?_ | with_reducible refine aw_skipL ?_
        simp [blockK, loopK, Post, resA, res1, expT, expA, exp1, expM, expL, okT, okA, ok1, rowOf, Tryz.f37]
        simp [hall, hLl]
        omega
end Go.Proofs.YtomidniaekeafaaGreatDoorAbs
/- hoggetref15: child, Height, Check, There. -/
namespace Go.Proofs.YtomidniaekeafaaGreatDoorAbs
set_option linter.unusedSimpArgs false
set_option linter.unusedVariables false
open Go Go.RowKit Go.Proofs
set_option maxRecDepth 100000
set_option maxHeartbeats 1000000
/-- Parents stand ahead, up to a place. -/
def Pre (t : List Pl) (n : Nat) : Prop := parN t 0 = -1 ∧ ∀ j, 1 ≤ j → j ≤ n → 0 ≤ parN t j ∧ parN t j < j
theorem Pre.dn {t : List Pl} {n : Nat} (h : Pre t n) : ∀ j, j ≤ n → parN t j < j := by
  intro j hj
  rcases Nat.eq_zero_or_pos j with rfl | h1
  · rw [h.1]; omega
  · exact (h.2 j h1 hj).2
theorem Pre.le {t : List Pl} {n m : Nat} (h : Pre t n) (hm : m ≤ n) : Pre t m := ⟨h.1, fun j a b => h.2 j a (by omega)⟩
theorem upF_eqL {t : List Pl} {n : Nat} (hd : ∀ j, j ≤ n → parN t j < j) : ∀ (m k i : Nat), i < k → i < m → i ≤ n → upF t k i = upN t i
  | 0, k, i, _, h, _ => by omega
  | m + 1, 0, i, h, _, _ => by omega
  | m + 1, k + 1, i, hk, hm, hi => by
    have := hd i hi
    unfold upN
    rw [upF, upF]
    by_cases hp : parN t i < 0
    · rw [if_pos hp, if_pos hp]
    · rw [if_neg hp, if_neg hp, upF_eqL hd m k _ (by omega) (by omega) (by omega), upF_eqL hd m i _ (by omega) (by omega) (by omega)]
theorem up_stepL {t : List Pl} {n : Nat} (h : Pre t n) {i : Nat} (hi : i ≤ n) : upN t i = i :: (if parN t i < 0 then [] else upN t (parN t i).toNat) := by
  have := h.dn i hi
  conv => lhs; unfold upN
  rw [upF]
  by_cases hp : parN t i < 0
  · rw [if_pos hp, if_pos hp]
  · rw [if_neg hp, if_neg hp, upF_eqL h.dn (i + 1) i _ (by omega) (by omega) (by omega)]
theorem dD_valL {t : List Pl} {n : Nat} (hn : n < t.length) (h : Pre t n) : ∀ i, i ≤ n → ∀ j, j ≤ i → nth (dD t i) j + 1 = ((upN t j).length : Int)
  | 0, hi, j, hj => by
    have : j = 0 := by omega
    subst this
    rw [up_zero h.1, dD, nth_eq (by simp; omega)]
    simp
  | i + 1, hi, j, hj => by
    have ih := dD_valL hn h i (by omega)
    rw [dD, nth_setG (by rw [dD_len]; omega), nth_tail (by omega)]
    by_cases hj2 : j = i + 1
    · subst hj2
      obtain ⟨h1, h2⟩ := h.2 (i + 1) (by omega) hi
      have hq : (nth t (i + 1)).par = parN t (i + 1) := rfl
      rw [if_pos rfl, hq, ih _ (by omega), up_stepL h hi, if_neg (by omega)]
      simp
    · rw [if_neg hj2]
      exact ih j (by omega)
/-- A place is right, the ones ahead of it being so. -/
theorem okAt_iffL {t : List Pl} {i : Nat} (h : i + 1 < t.length) (hp : Pre t i) : okAt t i = true ↔ (0 ≤ parN t (i + 1) ∧ parN t (i + 1) ≤ i) ∧ rightF (nth t (i + 1)).name (nth t (i + 1)).ver = true ∧
    (∀ j, 1 ≤ j → j ≤ i → parN t j = parN t (i + 1) → (nth t j).name = (nth t (i + 1)).name → False) ∧ heightN t (i + 1) ≤ 12 := by
  rw [okAt_iff h]
  constructor
  · rintro ⟨a, b, c, d⟩
    have hp' : Pre t (i + 1) := ⟨hp.1, fun j h1 h2 => by
      rcases Nat.lt_or_ge i j with h | h
      · have : j = i + 1 := by omega
        subst this; omega
      · exact hp.2 j h1 h⟩
    rw [dD_valL (by omega) hp i (Nat.le_refl _) _ (by omega)] at d
    refine ⟨a, b, c, ?_⟩
    unfold heightN
    rw [up_stepL hp' (Nat.le_refl _), if_neg (by omega)]
    simp; omega
  · rintro ⟨a, b, c, d⟩
    have hp' : Pre t (i + 1) := ⟨hp.1, fun j h1 h2 => by
      rcases Nat.lt_or_ge i j with h | h
      · have : j = i + 1 := by omega
        subst this; omega
      · exact hp.2 j h1 h⟩
    refine ⟨a, b, c, ?_⟩
    rw [dD_valL (by omega) hp i (Nat.le_refl _) _ (by omega)]
    unfold heightN at d
    rw [up_stepL hp' (Nat.le_refl _), if_neg (by omega)] at d
    simp at d; omega
theorem Good.pre {t : List Pl} (g : Good t) {n : Nat} (hn : n < t.length) : Pre t n := ⟨root_par g.root, fun j h1 h2 => g.par j h1 (by omega)⟩
-- child
def chR (t : List Pl) (m : Nat) (p : Int) (b : Bs) : Int := match (List.range m).find? (fun i => decide (1 ≤ i) && chP p b (nth t i)) with
  | some i => i
  | none => -1
theorem find_range {q : Nat → Bool} {i : Nat} (hq : q i = true) : ∀ m : Nat, i < m → (∀ j, j < i → q j = false) → (List.range m).find? q = some i
  | 0, h, _ => by omega
  | m + 1, h, hn => by
    rw [List.range_succ, List.find?_append]
    rcases Nat.lt_or_ge i m with h1 | h1
    · rw [find_range hq m h1 hn]; rfl
    · have : i = m := by omega
      subst this
      have h0 : (List.range i).find? q = none := by
        rw [List.find?_eq_none]
        intro x hx
        rw [hn x (List.mem_range.1 hx)]; simp
      rw [h0]; simp [hq]
theorem chR_at {t : List Pl} {m i : Nat} {p : Int} {b : Bs} (h1 : 1 ≤ i) (hi : i < m) (hq : chP p b (nth t i) = true) (hn : ∀ j, 1 ≤ j → j < i → chP p b (nth t j) = false) : chR t m p b = i := by
  unfold chR
  rw [find_range (i := i) (by simp [h1, hq]) m hi (fun j hj => by
    by_cases h : 1 ≤ j
    · simp [hn j h hj]
    · simp [h])]
theorem chR_no {t : List Pl} {m : Nat} {p : Int} {b : Bs} (hn : ∀ j, 1 ≤ j → j < m → chP p b (nth t j) = false) : chR t m p b = -1 := by
  unfold chR
  have h0 : (List.range m).find? (fun i => decide (1 ≤ i) && chP p b (nth t i)) = none := by
    rw [List.find?_eq_none]
    intro x hx
    by_cases h : 1 ≤ x
    · simp [hn x h (List.mem_range.1 hx)]
    · simp [h]
  rw [h0]
theorem chR_nn {t : List Pl} {m : Nat} {p : Int} {b : Bs} : 0 ≤ chR t m p b ↔ ∃ k, 1 ≤ k ∧ k < m ∧ parN t k = p ∧ (nth t k).name = b := by
  unfold chR
  cases h : (List.range m).find? (fun i => decide (1 ≤ i) && chP p b (nth t i)) with
  | some i =>
    have h1 := List.mem_range.1 (List.mem_of_find?_eq_some h)
    have h2 := List.find?_some h
    simp [chP] at h2
    simp only [Int.natCast_nonneg, true_iff]
    exact ⟨i, h2.1, h1, h2.2.1, h2.2.2⟩
  | none =>
    rw [List.find?_eq_none] at h
    constructor
    · intro h
      have h : (0 : Int) ≤ -1 := h
      omega
    · rintro ⟨k, h1, h2, h3, h4⟩
      refine absurd ?_ (h k (List.mem_range.2 h2))
      simp [h1, chP, h4]
      exact h3
theorem chR_eq {t : List Pl} {p : Int} {b : Bs} (g : Good t) (hp : 0 ≤ p) : chR t t.length p b = atI (chF t p b) := by
  have h0 := root_par g.root
  cases h : chF t p b with
  | some k =>
    obtain ⟨a1, a2, a3⟩ := chF_some h
    have hk : 1 ≤ k := by
      rcases Nat.eq_zero_or_pos k with rfl | h
      · omega
      · exact h
    refine chR_at hk a1 (by simp [chP, a3]; exact a2) fun j j1 jk => ?_
    cases hq : chP p b (nth t j) with
    | false => rfl
    | true =>
      simp [chP] at hq
      have := g.child hp (k := j) (by omega) hq.1 hq.2
      rw [h] at this
      injection this with this
      omega
  | none =>
    refine chR_no fun j j1 jl => ?_
    cases hq : chP p b (nth t j) with
    | false => rfl
    | true =>
      simp [chP] at hq
      exact (chF_none.1 h j jl hq.1 hq.2).elim
theorem child38_ok (t : List Pl) (hl : t.length ≤ 1000000000) (m : Nat) (hm : m ≤ t.length) (p : Int) (b : Bs) : CallsOK Tryz.prog 38 [rowT Pl.cells t, iV m, iV p, sV b] (iV (chR t m p b)) [] := by
  refine callsOK mixed Tryz.call38 Tryz.func38 rfl (by rw [Tryz.ntmps38]; simp) ?_ rfl
  rw [Tryz.ntmps38]
  repeat with_reducible refine aw_assoc ?_
  first | with_reducible refine aw_region0 (by decide +kernel) fun K' hK => ?_ | with_reducible refine aw_toS (aw_region0 (by decide +kernel) fun K' hK => ?_)
  simp []
  first | refine hK _ _ _ ?_ | done
  clear K' hK
  repeat with_reducible refine aw_assoc ?_
  first | with_reducible refine aw_region0 (by decide +kernel) fun K' hK => ?_ | with_reducible refine aw_toS (aw_region0 (by decide +kernel) fun K' hK => ?_)
  simp []
  first | refine hK _ _ _ ?_ | done
  clear K' hK
  repeat with_reducible refine aw_assoc ?_
  first | with_reducible refine aw_block ?_ | with_reducible refine aw_toS (aw_block ?_)
  refine aw_loop (fun s G nx => s 0 = rowT Pl.cells t ∧ s 1 = iV m ∧ s 2 = iV p ∧ s 3 = sV b ∧ ∃ i : Nat, s 9 = iV i ∧ i ≤ m + 1 ∧ 1 ≤ i ∧ ∀ j, 1 ≤ j → j < i → chP p b (nth t j) = false) (fun s _ _ => match s 9 with | .v (.int _ n) => m + 1 - n.toNat | _ => 0) ?_ ?_
  · exact ⟨by simp, by simp, by simp, by simp, 1, by simp, by omega, by omega, fun j a b => by omega⟩
  · rintro s G nx - ⟨s0, s1, s2, s3, i, s9, hi, hi1, hn⟩
    have hw : IntKind.i64.wrap (↑i + 1) = ((i + 1 : Nat) : Int) := wrapS (by omega)
    repeat with_reducible refine aw_assoc ?_
    first | with_reducible refine aw_region0 (by decide +kernel) fun K' hK => ?_ | with_reducible refine aw_toS (aw_region0 (by decide +kernel) fun K' hK => ?_)
    simp [s1, s9]
    first | refine hK _ _ _ ?_ | done
    clear K' hK
    repeat with_reducible refine aw_assoc ?_
    first | with_reducible refine aw_condP fun A B hA hB => ?_ | with_reducible refine aw_toS (aw_condP fun A B hA hB => ?_)
    simp []
    refine ⟨fun hi2 => hA ?_, fun hi2 => hB ?_⟩ <;> clear hA hB A B <;> (try simp at hi2) <;> (try with_reducible refine aw_skip ?_)
    · have hi3 : i < t.length := by omega
      repeat with_reducible refine aw_assoc ?_
      first | with_reducible refine aw_block ?_ | with_reducible refine aw_toS (aw_block ?_)
      by_cases c1 : (nth t i).par = p
      · by_cases c2 : (nth t i).name = b
        · repeat with_reducible refine aw_assoc ?_
          first | with_reducible refine aw_region0 (by decide +kernel) fun K' hK => ?_ | with_reducible refine aw_toS (aw_region0 (by decide +kernel) fun K' hK => ?_)
          simp [s0, s2, s3, s9, hi3, c1, c2]
          first | refine hK _ _ _ ?_ | done
          clear K' hK
          repeat with_reducible refine aw_assoc ?_
          first | with_reducible refine aw_condP fun A B hA hB => ?_ | with_reducible refine aw_toS (aw_condP fun A B hA hB => ?_)
          simp []
          refine ⟨fun hc => hA ?_, fun hc => hB ?_⟩ <;> clear hA hB A B <;> (try (simp at hc; done)) <;> (try (exfalso; simp at hc; omega)) <;> clear hc <;> (try with_reducible refine aw_skip ?_)
          repeat with_reducible refine aw_assoc ?_
          first | with_reducible refine aw_region0 (by decide +kernel) fun K' hK => ?_ | with_reducible refine aw_toS (aw_region0 (by decide +kernel) fun K' hK => ?_)
          simp [s9]
          first | refine hK _ _ _ ?_ | done
          clear K' hK
          repeat with_reducible refine aw_assoc ?_
          first | with_reducible refine aw_ret ?_ | with_reducible refine aw_retL ?_ | with_reducible refine aw_skipL ?_
          simp [blockK, loopK, Post, resA, res1, expT, expA, exp1, expM, expL, okT, okA, ok1, rowOf, Tryz.f38]
          exact (chR_at hi1 hi2 (by simp [chP, c1, c2]) hn).symm
        · repeat with_reducible refine aw_assoc ?_
          first | with_reducible refine aw_region0 (by decide +kernel) fun K' hK => ?_ | with_reducible refine aw_toS (aw_region0 (by decide +kernel) fun K' hK => ?_)
          simp [s0, s2, s3, s9, hi3, c1, c2]
          first | refine hK _ _ _ ?_ | done
          clear K' hK
          repeat with_reducible refine aw_assoc ?_
          first | with_reducible refine aw_condP fun A B hA hB => ?_ | with_reducible refine aw_toS (aw_condP fun A B hA hB => ?_)
          simp []
          refine ⟨fun hc => hA ?_, fun hc => hB ?_⟩ <;> clear hA hB A B <;> (try (simp at hc; done)) <;> (try (exfalso; simp at hc; omega)) <;> clear hc <;> (try with_reducible refine aw_skip ?_)
          first | with_reducible refine aw_skipL ?_ | skip
          refine blockK_normal ?_
          repeat with_reducible refine aw_assoc ?_
          first | with_reducible refine aw_region0 (by decide +kernel) fun K' hK => ?_ | with_reducible refine aw_toS (aw_region0 (by decide +kernel) fun K' hK => ?_)
          simp [s9, hw]
          first | refine hK _ _ _ ?_ | done
          clear K' hK
          refine aw_skipL (loopK_normal ?_ ?_)
          · refine ⟨by simp [s0], by simp [s1], by simp [s2], by simp [s3], i + 1, by simp [hw], by omega, by omega, fun j a b => ?_⟩
            rcases Nat.lt_or_ge j i with h | h
            · exact hn j a h
            · have : j = i := by omega
              subst this; simp [chP, c2]
          · simp [s9, hw]; omega
      · repeat with_reducible refine aw_assoc ?_
        first | with_reducible refine aw_region0 (by decide +kernel) fun K' hK => ?_ | with_reducible refine aw_toS (aw_region0 (by decide +kernel) fun K' hK => ?_)
        simp [s0, s2, s3, s9, hi3, c1]
        first | refine hK _ _ _ ?_ | done
        clear K' hK
        repeat with_reducible refine aw_assoc ?_
        first | with_reducible refine aw_condP fun A B hA hB => ?_ | with_reducible refine aw_toS (aw_condP fun A B hA hB => ?_)
        simp []
        refine ⟨fun hc => hA ?_, fun hc => hB ?_⟩ <;> clear hA hB A B <;> (try (simp at hc; done)) <;> (try (exfalso; simp at hc; omega)) <;> clear hc <;> (try with_reducible refine aw_skip ?_)
        first | with_reducible refine aw_skipL ?_ | skip
        refine blockK_normal ?_
        repeat with_reducible refine aw_assoc ?_
        first | with_reducible refine aw_region0 (by decide +kernel) fun K' hK => ?_ | with_reducible refine aw_toS (aw_region0 (by decide +kernel) fun K' hK => ?_)
        simp [s9, hw]
        first | refine hK _ _ _ ?_ | done
        clear K' hK
        refine aw_skipL (loopK_normal ?_ ?_)
        · refine ⟨by simp [s0], by simp [s1], by simp [s2], by simp [s3], i + 1, by simp [hw], by omega, by omega, fun j a b => ?_⟩
          rcases Nat.lt_or_ge j i with h | h
          · exact hn j a h
          · have : j = i := by omega
            subst this; simp [chP, c1]
        · simp [s9, hw]; omega
    · repeat with_reducible refine aw_assoc ?_
      first | with_reducible refine aw_exit ?_ | with_reducible refine aw_exitL ?_
      refine loopK_exit (blockK_exit ?_)
      repeat with_reducible refine aw_assoc ?_
      first | with_reducible refine aw_region0 (by decide +kernel) fun K' hK => ?_ | with_reducible refine aw_toS (aw_region0 (by decide +kernel) fun K' hK => ?_)
      simp []
      first | refine hK _ _ _ ?_ | done
      clear K' hK
      repeat with_reducible refine aw_assoc ?_
      first | with_reducible refine aw_ret ?_ | with_reducible refine aw_retL ?_ | with_reducible refine aw_skipL ?_
      simp [blockK, loopK, Post, resA, res1, expT, expA, exp1, expM, expL, okT, okA, ok1, rowOf, Tryz.f38]
      exact (chR_no fun j a b => hn j a (by omega)).symm
theorem height39_ok (t : List Pl) (hl : t.length ≤ 1000000000) (n : Nat) (hn : n < t.length) (hp : Pre t n) : CallsOK Tryz.prog 39 [rowT Pl.cells t, iV n] (iV (heightN t n)) [] := by
  refine callsOK mixed Tryz.call39 Tryz.func39 rfl (by rw [Tryz.ntmps39]; simp) ?_ rfl
  rw [Tryz.ntmps39]
  have htot := up_len (t := t) n
  repeat with_reducible refine aw_assoc ?_
  first | with_reducible refine aw_region0 (by decide +kernel) fun K' hK => ?_ | with_reducible refine aw_toS (aw_region0 (by decide +kernel) fun K' hK => ?_)
  simp []
  first | refine hK _ _ _ ?_ | done
  clear K' hK
  repeat with_reducible refine aw_assoc ?_
  first | with_reducible refine aw_region0 (by decide +kernel) fun K' hK => ?_ | with_reducible refine aw_toS (aw_region0 (by decide +kernel) fun K' hK => ?_)
  simp []
  first | refine hK _ _ _ ?_ | done
  clear K' hK
  repeat with_reducible refine aw_assoc ?_
  first | with_reducible refine aw_block ?_ | with_reducible refine aw_toS (aw_block ?_)
  refine aw_loop (fun s G nx => s 0 = rowT Pl.cells t ∧ ∃ (j h : Nat), s 1 = iV j ∧ s 5 = iV h ∧ j ≤ n ∧ h + (upN t j).length = (upN t n).length) (fun s _ _ => match s 1 with | .v (.int _ n) => n.toNat | _ => 0) ?_ ?_
  · exact ⟨by simp, n, 0, by simp, by simp, by omega, by omega⟩
  · rintro s G nx - ⟨s0, j, h, s1, s5, hj, hh⟩
    have o1 := s1
    repeat with_reducible refine aw_assoc ?_
    first | with_reducible refine aw_region0 (by decide +kernel) fun K' hK => ?_ | with_reducible refine aw_toS (aw_region0 (by decide +kernel) fun K' hK => ?_)
    simp [s1]
    first | refine hK _ _ _ ?_ | done
    clear K' hK
    by_cases hj0 : (0 : Int) < j
    · have hpj := hp.2 j (by omega) hj
      have hst := up_stepL hp hj
      rw [if_neg (by omega)] at hst
      rw [hst] at hh
      simp at hh
      obtain ⟨k, hk⟩ : ∃ k : Nat, parN t j = k := ⟨(parN t j).toNat, by omega⟩
      have hkp : (nth t j).par = k := hk
      rw [hk] at hh hpj
      have hj3 : j < t.length := by omega
      have hw : IntKind.i64.wrap (↑h + 1) = ((h + 1 : Nat) : Int) := wrapS (by omega)
      repeat with_reducible refine aw_assoc ?_
      first | with_reducible refine aw_condP fun A B hA hB => ?_ | with_reducible refine aw_toS (aw_condP fun A B hA hB => ?_)
      simp [hj0]
      refine ⟨fun hc => hA ?_, fun hc => hB ?_⟩ <;> clear hA hB A B <;> (try (simp at hc; done)) <;> (try (exfalso; simp at hc; omega)) <;> clear hc <;> (try with_reducible refine aw_skip ?_)
      repeat with_reducible refine aw_assoc ?_
      first | with_reducible refine aw_block ?_ | with_reducible refine aw_toS (aw_block ?_)
      repeat with_reducible refine aw_assoc ?_
      first | with_reducible refine aw_region0 (by decide +kernel) fun K' hK => ?_ | with_reducible refine aw_toS (aw_region0 (by decide +kernel) fun K' hK => ?_)
      simp [s0, s1, hj3, hkp]
      first | refine hK _ _ _ ?_ | done
      clear K' hK
      repeat with_reducible refine aw_assoc ?_
      first | with_reducible refine aw_region0 (by decide +kernel) fun K' hK => ?_ | with_reducible refine aw_toS (aw_region0 (by decide +kernel) fun K' hK => ?_)
      simp [s5, hw]
      first | refine hK _ _ _ ?_ | done
      clear K' hK
      first | with_reducible refine aw_skipL ?_ | skip
      refine blockK_normal ?_
      refine aw_skipL (loopK_normal ?_ ?_)
      · exact ⟨by simp [s0], k, h + 1, by simp, by simp [hw], by omega, by simp at hh; omega⟩
      · simp [o1]; omega
    · have : j = 0 := by omega
      subst this
      rw [up_zero hp.1] at hh
      repeat with_reducible refine aw_assoc ?_
      first | with_reducible refine aw_condP fun A B hA hB => ?_ | with_reducible refine aw_toS (aw_condP fun A B hA hB => ?_)
      simp [hj0]
      refine ⟨fun hc => hA ?_, fun hc => hB ?_⟩ <;> clear hA hB A B <;> (try (simp at hc; done)) <;> (try (exfalso; simp at hc; omega)) <;> clear hc <;> (try with_reducible refine aw_skip ?_)
      repeat with_reducible refine aw_assoc ?_
      first | with_reducible refine aw_exit ?_ | with_reducible refine aw_exitL ?_
      refine loopK_exit (blockK_exit ?_)
      repeat with_reducible refine aw_assoc ?_
      first | with_reducible refine aw_region0 (by decide +kernel) fun K' hK => ?_ | with_reducible refine aw_toS (aw_region0 (by decide +kernel) fun K' hK => ?_)
      simp [s5]
      first | refine hK _ _ _ ?_ | done
      clear K' hK
      repeat with_reducible refine aw_assoc ?_
      first | with_reducible refine aw_ret ?_ | with_reducible refine aw_retL ?_ | with_reducible refine aw_skipL ?_
      simp [blockK, loopK, Post, resA, res1, expT, expA, exp1, expM, expL, okT, okA, ok1, rowOf, Tryz.f39]
      unfold heightN
      simp at hh; omega
end Go.Proofs.YtomidniaekeafaaGreatDoorAbs
/- hoggetref15: Check, There. -/
namespace Go.Proofs.YtomidniaekeafaaGreatDoorAbs
set_option linter.unusedSimpArgs false
set_option linter.unusedVariables false
open Go Go.RowKit Go.Proofs
set_option maxRecDepth 100000
set_option maxHeartbeats 1000000
theorem rightF_eq (b : Bs) (v : Ver) : rightF b v = (goodF (bsL b) && verOk v) := by
  unfold rightF
  rw [Bool.and_comm]
theorem check25_ok (t : List Pl) (ht : OKs t) : CallsOK Tryz.prog 25 [rowT Pl.cells t] (iV (checkN t)) [] := by
  refine callsOK mixed Tryz.call25 Tryz.func25 rfl (by rw [Tryz.ntmps25]; simp) ?_ rfl
  rw [Tryz.ntmps25]
  have hl := ht.1
  repeat with_reducible refine aw_assoc ?_
  first | with_reducible refine aw_region0 (by decide +kernel) fun K' hK => ?_ | with_reducible refine aw_toS (aw_region0 (by decide +kernel) fun K' hK => ?_)
  simp []
  first | refine hK _ _ _ ?_ | done
  clear K' hK
  repeat with_reducible refine aw_assoc ?_
  first | with_reducible refine aw_region0 (by decide +kernel) fun K' hK => ?_ | with_reducible refine aw_toS (aw_region0 (by decide +kernel) fun K' hK => ?_)
  simp []
  first | refine hK _ _ _ ?_ | done
  clear K' hK
  by_cases h2 : (200 : Int) < t.length
  · repeat with_reducible refine aw_assoc ?_
    first | with_reducible refine aw_condP fun A B hA hB => ?_ | with_reducible refine aw_toS (aw_condP fun A B hA hB => ?_)
    simp [h2]
    refine ⟨fun hc => hA ?_, fun hc => hB ?_⟩ <;> clear hA hB A B <;> (try (simp at hc; done)) <;> (try (exfalso; simp at hc; omega)) <;> clear hc <;> (try with_reducible refine aw_skip ?_)
    repeat with_reducible refine aw_assoc ?_
    first | with_reducible refine aw_region0 (by decide +kernel) fun K' hK => ?_ | with_reducible refine aw_toS (aw_region0 (by decide +kernel) fun K' hK => ?_)
    simp []
    first | refine hK _ _ _ ?_ | done
    clear K' hK
    repeat with_reducible refine aw_assoc ?_
    first | with_reducible refine aw_ret ?_ | with_reducible refine aw_retL ?_ | with_reducible refine aw_skipL ?_
    simp [blockK, loopK, Post, resA, res1, expT, expA, exp1, expM, expL, okT, okA, ok1, rowOf, Tryz.f25]
    rw [checkN, if_pos (by omega)]
  repeat with_reducible refine aw_assoc ?_
  first | with_reducible refine aw_condP fun A B hA hB => ?_ | with_reducible refine aw_toS (aw_condP fun A B hA hB => ?_)
  simp [h2]
  refine ⟨fun hc => hA ?_, fun hc => hB ?_⟩ <;> clear hA hB A B <;> (try (simp at hc; done)) <;> (try (exfalso; simp at hc; omega)) <;> clear hc <;> (try with_reducible refine aw_skip ?_)
  have h2' : ¬ 200 < t.length := by omega
  repeat with_reducible refine aw_assoc ?_
  first | with_reducible refine aw_region0 (by decide +kernel) fun K' hK => ?_ | with_reducible refine aw_toS (aw_region0 (by decide +kernel) fun K' hK => ?_)
  simp [rootC]
  first | refine hK _ _ _ ?_ | done
  clear K' hK
  by_cases he : t = []
  · repeat with_reducible refine aw_assoc ?_
    first | with_reducible refine aw_region1 (by decide +kernel) (by decide +kernel) fun K' hK => ?_ | with_reducible refine aw_toS (aw_region1 (by decide +kernel) (by decide +kernel) fun K' hK => ?_)
    simp (maxSteps := 1000000) [he]
    first | refine hK _ _ _ ?_ | done
    clear K' hK
    repeat with_reducible refine aw_assoc ?_
    first | with_reducible refine aw_condP fun A B hA hB => ?_ | with_reducible refine aw_toS (aw_condP fun A B hA hB => ?_)
    simp []
    refine ⟨fun hc => hA ?_, fun hc => hB ?_⟩ <;> clear hA hB A B <;> (try (simp at hc; done)) <;> (try (exfalso; simp at hc; omega)) <;> clear hc <;> (try with_reducible refine aw_skip ?_)
    repeat with_reducible refine aw_assoc ?_
    first | with_reducible refine aw_region0 (by decide +kernel) fun K' hK => ?_ | with_reducible refine aw_toS (aw_region0 (by decide +kernel) fun K' hK => ?_)
    simp []
    first | refine hK _ _ _ ?_ | done
    clear K' hK
    repeat with_reducible refine aw_assoc ?_
    first | with_reducible refine aw_ret ?_ | with_reducible refine aw_retL ?_ | with_reducible refine aw_skipL ?_
    simp [blockK, loopK, Post, resA, res1, expT, expA, exp1, expM, expL, okT, okA, ok1, rowOf, Tryz.f25]
    rw [checkN, if_neg h2', if_pos (.inl he)]
  have hpos : 0 < t.length := List.length_pos_iff.2 he
  have hpos' : (0 : Int) < t.length := by omega
  have hz : ¬ (t.length : Int) = 0 := by omega
  by_cases hr : nth t 0 = rootP
  case neg =>
    repeat with_reducible refine aw_assoc ?_
    first | with_reducible refine aw_region1 (by decide +kernel) (by decide +kernel) fun K' hK => ?_ | with_reducible refine aw_toS (aw_region1 (by decide +kernel) (by decide +kernel) fun K' hK => ?_)
    simp (maxSteps := 1000000) [hz, hpos, hpos', hr, he, rootC]
    first | refine hK _ _ _ ?_ | done
    clear K' hK
    repeat with_reducible refine aw_assoc ?_
    first | with_reducible refine aw_condP fun A B hA hB => ?_ | with_reducible refine aw_toS (aw_condP fun A B hA hB => ?_)
    simp []
    refine ⟨fun hc => hA ?_, fun hc => hB ?_⟩ <;> clear hA hB A B <;> (try (simp at hc; done)) <;> (try (exfalso; simp at hc; omega)) <;> clear hc <;> (try with_reducible refine aw_skip ?_)
    repeat with_reducible refine aw_assoc ?_
    first | with_reducible refine aw_region0 (by decide +kernel) fun K' hK => ?_ | with_reducible refine aw_toS (aw_region0 (by decide +kernel) fun K' hK => ?_)
    simp []
    first | refine hK _ _ _ ?_ | done
    clear K' hK
    repeat with_reducible refine aw_assoc ?_
    first | with_reducible refine aw_ret ?_ | with_reducible refine aw_retL ?_ | with_reducible refine aw_skipL ?_
    simp [blockK, loopK, Post, resA, res1, expT, expA, exp1, expM, expL, okT, okA, ok1, rowOf, Tryz.f25]
    rw [checkN, if_neg h2', if_pos (.inr hr)]
  repeat with_reducible refine aw_assoc ?_
  first | with_reducible refine aw_region1 (by decide +kernel) (by decide +kernel) fun K' hK => ?_ | with_reducible refine aw_toS (aw_region1 (by decide +kernel) (by decide +kernel) fun K' hK => ?_)
  simp (maxSteps := 1000000) [hz, hpos, hpos', hr, he, rootC]
  first | refine hK _ _ _ ?_ | done
  clear K' hK
  repeat with_reducible refine aw_assoc ?_
  first | with_reducible refine aw_condP fun A B hA hB => ?_ | with_reducible refine aw_toS (aw_condP fun A B hA hB => ?_)
  simp []
  refine ⟨fun hc => hA ?_, fun hc => hB ?_⟩ <;> clear hA hB A B <;> (try (simp at hc; done)) <;> (try (exfalso; simp at hc; omega)) <;> clear hc <;> (try with_reducible refine aw_skip ?_)
  repeat with_reducible refine aw_assoc ?_
  first | with_reducible refine aw_region0 (by decide +kernel) fun K' hK => ?_ | with_reducible refine aw_toS (aw_region0 (by decide +kernel) fun K' hK => ?_)
  simp []
  first | refine hK _ _ _ ?_ | done
  clear K' hK
  repeat with_reducible refine aw_assoc ?_
  first | with_reducible refine aw_block ?_ | with_reducible refine aw_toS (aw_block ?_)
  have hbad : ∀ {i : Nat}, i + 1 < t.length → okAt t i = false → checkN t = 150 := fun {i} hi h => by
    rw [checkN, if_neg h2', if_neg (by simp [he, hr]), treeOk, range_false (i := i) (by rw [List.length_tail]; omega) h]; rfl
  refine aw_loop (fun s G nx => s 0 = rowT Pl.cells t ∧ ∃ m : Nat, s 4 = iV m ∧ 1 ≤ m ∧ m ≤ t.length ∧ ∀ j, j + 1 < m → okAt t j = true) (fun s _ _ => match s 4 with | .v (.int _ n) => t.length - n.toNat | _ => 0) ?_ ?_
  · exact ⟨by simp, 1, by simp, by omega, by omega, fun j hj => by omega⟩
  · rintro s G nx - ⟨s0, m, s4, hm1, hm, hall⟩
    have o4 := s4
    have hw : IntKind.i64.wrap ((m : Int) + 1) = ((m + 1 : Nat) : Int) := wrapS (by omega)
    obtain ⟨i, hmi⟩ : ∃ i, m = i + 1 := ⟨m - 1, by omega⟩
    have hpre : Pre t i := ⟨root_par hr, fun j h1 hj => by
      obtain ⟨j, rfl⟩ : ∃ m, j = m + 1 := ⟨j - 1, by omega⟩
      have := okAt_par (t := t) (i := j) (by omega) (hall j (by omega))
      omega⟩
    repeat with_reducible refine aw_assoc ?_
    first | with_reducible refine aw_region0 (by decide +kernel) fun K' hK => ?_ | with_reducible refine aw_toS (aw_region0 (by decide +kernel) fun K' hK => ?_)
    simp [s0, s4]
    first | refine hK _ _ _ ?_ | done
    clear K' hK
    repeat with_reducible refine aw_assoc ?_
    first | with_reducible refine aw_condP fun A B hA hB => ?_ | with_reducible refine aw_toS (aw_condP fun A B hA hB => ?_)
    simp []
    refine ⟨fun hi2 => hA ?_, fun hi2 => hB ?_⟩ <;> clear hA hB A B <;> (try simp at hi2) <;> (try with_reducible refine aw_skip ?_)
    · have hi3 : i + 1 < t.length := by omega
      have hok := okAt_iffL hi3 hpre
      rw [← hmi] at hok
      have hpm : nth t m ∈ t := nth_mem hi2
      obtain ⟨b1, b2⟩ := ht.2 _ hpm
      have hpar : parN t m = (nth t m).par := rfl
      generalize hp : nth t m = p at hpar hok b1 b2
      rw [hpar] at hok
      have hff : ¬ ((0 ≤ p.par ∧ p.par ≤ i) ∧ rightF p.name p.ver = true ∧ (∀ (j : Nat), 1 ≤ j → j ≤ i → parN t j = p.par → (nth t j).name = p.name → False) ∧ heightN t m ≤ 12) → okAt t i = false := fun h => by
        cases h1 : okAt t i with
        | false => rfl
        | true => exact (h (hok.1 h1)).elim
      repeat with_reducible refine aw_assoc ?_
      first | with_reducible refine aw_block ?_ | with_reducible refine aw_toS (aw_block ?_)
      repeat with_reducible refine aw_assoc ?_
      refine aw_cut (fun u G' nx' => u 0 = rowT Pl.cells t ∧ u 4 = iV m ∧ ∃ id, u 5 = .ptr id 0 ∧ G' id = some (.var 34 p.cells) ∧ id < nx') ?_ ?_
      · repeat with_reducible refine aw_assoc ?_
        first | with_reducible refine aw_region0 (by decide +kernel) fun K' hK => ?_ | with_reducible refine aw_toS (aw_region0 (by decide +kernel) fun K' hK => ?_)
        simp [s0, s4, hi2, hp]
        first | refine hK _ _ _ ?_ | done
        clear K' hK
        with_reducible refine aw_end ?_
        exact ⟨by simp [s0], by simp [s4], nx, by simp, by simp, by omega⟩
      rintro u H ny ⟨u0, u4, id, u5, hid, hidn⟩
      repeat with_reducible refine aw_assoc ?_
      refine aw_cut (fun v H ny => v 0 = rowT Pl.cells t ∧ v 4 = iV m ∧ v 66 = bV (!okAt t i)) ?_ ?_
      · by_cases c1 : p.par < 0
        · have hf := hff (fun h => by omega)
          repeat with_reducible refine aw_assoc ?_
          first | with_reducible refine aw_region0 (by decide +kernel) fun K' hK => ?_ | with_reducible refine aw_toS (aw_region0 (by decide +kernel) fun K' hK => ?_)
          simp [u5, hid, c1]
          first | refine hK _ _ _ ?_ | done
          clear K' hK
          with_reducible refine aw_end ?_
          simp [u0, u4, hf]
        by_cases c2 : (m : Int) ≤ p.par
        · have hf := hff (fun h => by omega)
          repeat with_reducible refine aw_assoc ?_
          first | with_reducible refine aw_region0 (by decide +kernel) fun K' hK => ?_ | with_reducible refine aw_toS (aw_region0 (by decide +kernel) fun K' hK => ?_)
          simp [u4, u5, hid, c1, c2]
          first | refine hK _ _ _ ?_ | done
          clear K' hK
          with_reducible refine aw_end ?_
          simp [u0, u4, hf]
        have hpre2 : Pre t m := ⟨hpre.1, fun j h1 hj => by
          rcases Nat.lt_or_ge i j with h | h
          · have : j = m := by omega
            subst this
            rw [hpar]; omega
          · exact hpre.2 j h1 h⟩
        repeat with_reducible refine aw_assoc ?_
        first | with_reducible refine aw_region0 (by decide +kernel) fun K' hK => ?_ | with_reducible refine aw_toS (aw_region0 (by decide +kernel) fun K' hK => ?_)
        simp [u4, u5, hid, c1, c2]
        refine acall_flat (good36_ok p.name (by omega)) rfl (by first | rfl | (simp []; done) | (simp []; rfl) | (simp []; exact ⟨rfl, rfl⟩)) ?_
        cases c3 : goodF (bsL p.name) with
        | false =>
          have hf := hff (fun h => by have := h.2.1; rw [rightF_eq, c3] at this; cases this)
          simp
          first | refine hK _ _ _ ?_ | done
          clear K' hK
          with_reducible refine aw_end ?_
          simp [u0, u4, hf]
        | true =>
        simp [u5, hid]
        refine acall_flat (right37_ok p.ver (by omega)) rfl (by first | rfl | (simp []; done) | (simp []; rfl) | (simp []; exact ⟨rfl, rfl⟩)) ?_
        cases c4 : verOk p.ver with
        | false =>
          have hf := hff (fun h => by have := h.2.1; rw [rightF_eq, c4] at this; simp at this)
          simp
          first | refine hK _ _ _ ?_ | done
          clear K' hK
          with_reducible refine aw_end ?_
          simp [u0, u4, hf]
        | true =>
        simp [u0, u4, u5, hid]
        refine acall_flat (child38_ok t hl m (by omega) p.par p.name) rfl (by first | rfl | (simp []; done) | (simp []; rfl) | (simp []; exact ⟨rfl, rfl⟩)) ?_
        have hch := chR_nn (t := t) (m := m) (p := p.par) (b := p.name)
        by_cases c5 : 0 ≤ chR t m p.par p.name
        · have hf := hff (fun h => by
            obtain ⟨k, k1, k2, k3, k4⟩ := hch.1 c5
            exact h.2.2.1 k k1 (by omega) k3 k4)
          simp [c5]
          first | refine hK _ _ _ ?_ | done
          clear K' hK
          with_reducible refine aw_end ?_
          simp [u0, u4, hf]
        simp [c5, u0, u4]
        refine acall_flat (height39_ok t hl m hi2 hpre2) rfl (by first | rfl | (simp []; done) | (simp []; rfl) | (simp []; exact ⟨rfl, rfl⟩)) ?_
        by_cases c6 : 12 < heightN t m
        · have hf := hff (fun h => by omega)
          simp [c6]
          first | refine hK _ _ _ ?_ | done
          clear K' hK
          with_reducible refine aw_end ?_
          simp [u0, u4, hf]
        · have hf : okAt t i = true := hok.2 ⟨by omega, by rw [rightF_eq, c3, c4]; rfl, fun j j1 j2 j3 j4 => c5 (hch.2 ⟨j, j1, by omega, j3, j4⟩), by omega⟩
          simp [c6]
          first | refine hK _ _ _ ?_ | done
          clear K' hK
          with_reducible refine aw_end ?_
          simp [u0, u4, hf]
      rintro v H ny ⟨v0, v4, v66⟩
      cases hf : okAt t i with
      | false =>
        rw [hf] at v66
        repeat with_reducible refine aw_assoc ?_
        first | with_reducible refine aw_condP fun A B hA hB => ?_ | with_reducible refine aw_toS (aw_condP fun A B hA hB => ?_)
        simp [v66]
        refine ⟨fun hc => hA ?_, fun hc => hB ?_⟩ <;> clear hA hB A B <;> (try (simp at hc; done)) <;> (try (exfalso; simp at hc; omega)) <;> clear hc <;> (try with_reducible refine aw_skip ?_)
        repeat with_reducible refine aw_assoc ?_
        first | with_reducible refine aw_region0 (by decide +kernel) fun K' hK => ?_ | with_reducible refine aw_toS (aw_region0 (by decide +kernel) fun K' hK => ?_)
        simp []
        first | refine hK _ _ _ ?_ | done
        clear K' hK
        repeat with_reducible refine aw_assoc ?_
        first | with_reducible refine aw_ret ?_ | with_reducible refine aw_retL ?_ | with_reducible refine aw_skipL ?_
        simp [blockK, loopK, Post, resA, res1, expT, expA, exp1, expM, expL, okT, okA, ok1, rowOf, Tryz.f25]
        exact (hbad hi3 hf).symm
      | true =>
        rw [hf] at v66
        repeat with_reducible refine aw_assoc ?_
        first | with_reducible refine aw_condP fun A B hA hB => ?_ | with_reducible refine aw_toS (aw_condP fun A B hA hB => ?_)
        simp [v66]
        refine ⟨fun hc => hA ?_, fun hc => hB ?_⟩ <;> clear hA hB A B <;> (try (simp at hc; done)) <;> (try (exfalso; simp at hc; omega)) <;> clear hc <;> (try with_reducible refine aw_skip ?_)
        first | with_reducible refine aw_skipL ?_ | skip
        refine blockK_normal ?_
        repeat with_reducible refine aw_assoc ?_
        first | with_reducible refine aw_region0 (by decide +kernel) fun K' hK => ?_ | with_reducible refine aw_toS (aw_region0 (by decide +kernel) fun K' hK => ?_)
        simp [v4, hw]
        first | refine hK _ _ _ ?_ | done
        clear K' hK
        refine aw_skipL (loopK_normal ?_ ?_)
        · refine ⟨by simp [v0], m + 1, by simp [hw], by omega, by omega, fun j hj => ?_⟩
          rcases Nat.lt_or_ge j i with h | h
          · exact hall j (by omega)
          · have : j = i := by omega
            subst this; exact hf
        · simp [o4, hw]; omega
    · repeat with_reducible refine aw_assoc ?_
      first | with_reducible refine aw_exit ?_ | with_reducible refine aw_exitL ?_
      refine loopK_exit (blockK_exit ?_)
      repeat with_reducible refine aw_assoc ?_
      first | with_reducible refine aw_region0 (by decide +kernel) fun K' hK => ?_ | with_reducible refine aw_toS (aw_region0 (by decide +kernel) fun K' hK => ?_)
      simp []
      first | refine hK _ _ _ ?_ | done
      clear K' hK
      repeat with_reducible refine aw_assoc ?_
      first | with_reducible refine aw_ret ?_ | with_reducible refine aw_retL ?_ | with_reducible refine aw_skipL ?_
      simp [blockK, loopK, Post, resA, res1, expT, expA, exp1, expM, expL, okT, okA, ok1, rowOf, Tryz.f25]
      have hto : treeOk t = true := by
        unfold treeOk
        rw [List.all_eq_true]
        intro j hj
        have := List.mem_range.1 hj
        rw [List.length_tail] at this
        exact hall j (by omega)
      rw [checkN, if_neg h2', if_neg (by simp [he, hr]), if_pos hto]
theorem there47_ok (t : List Pl) (ht : OKs t) (i : Int) : CallsOK Tryz.prog 47 [rowT Pl.cells t, iV i] (bV (holdsF t i)) [] := by
  refine callsOK mixed Tryz.call47 Tryz.func47 rfl (by rw [Tryz.ntmps47]; simp) ?_ rfl
  rw [Tryz.ntmps47]
  repeat with_reducible refine aw_assoc ?_
  first | with_reducible refine aw_region0 (by decide +kernel) fun K' hK => ?_ | with_reducible refine aw_toS (aw_region0 (by decide +kernel) fun K' hK => ?_)
  simp []
  first | refine hK _ _ _ ?_ | done
  clear K' hK
  by_cases h1 : 0 ≤ i
  · by_cases h2 : i < t.length
    · repeat with_reducible refine aw_assoc ?_
      first | with_reducible refine aw_region0 (by decide +kernel) fun K' hK => ?_ | with_reducible refine aw_toS (aw_region0 (by decide +kernel) fun K' hK => ?_)
      simp [h1, h2]
      refine acall_flat (check25_ok t ht) rfl (by first | rfl | (simp []; done) | (simp []; rfl) | (simp []; exact ⟨rfl, rfl⟩)) ?_
      simp
      first | refine hK _ _ _ ?_ | done
      clear K' hK
      repeat with_reducible refine aw_assoc ?_
      first | with_reducible refine aw_ret ?_ | with_reducible refine aw_retL ?_ | with_reducible refine aw_skipL ?_
      simp [blockK, loopK, Post, resA, res1, expT, expA, exp1, expM, expL, okT, okA, ok1, rowOf, Tryz.f47]
      simp [holdsF, h1, h2]
    · repeat with_reducible refine aw_assoc ?_
      first | with_reducible refine aw_region0 (by decide +kernel) fun K' hK => ?_ | with_reducible refine aw_toS (aw_region0 (by decide +kernel) fun K' hK => ?_)
      simp [h1, h2]
      first | refine hK _ _ _ ?_ | done
      clear K' hK
      repeat with_reducible refine aw_assoc ?_
      first | with_reducible refine aw_ret ?_ | with_reducible refine aw_retL ?_ | with_reducible refine aw_skipL ?_
      simp [blockK, loopK, Post, resA, res1, expT, expA, exp1, expM, expL, okT, okA, ok1, rowOf, Tryz.f47]
      simp [holdsF, h1, h2]
  · repeat with_reducible refine aw_assoc ?_
    first | with_reducible refine aw_region0 (by decide +kernel) fun K' hK => ?_ | with_reducible refine aw_toS (aw_region0 (by decide +kernel) fun K' hK => ?_)
    simp [h1]
    first | refine hK _ _ _ ?_ | done
    clear K' hK
    repeat with_reducible refine aw_assoc ?_
    first | with_reducible refine aw_ret ?_ | with_reducible refine aw_retL ?_ | with_reducible refine aw_skipL ?_
    simp [blockK, loopK, Post, resA, res1, expT, expA, exp1, expM, expL, okT, okA, ok1, rowOf, Tryz.f47]
    simp [holdsF, h1]
end Go.Proofs.YtomidniaekeafaaGreatDoorAbs
/- hoggetref15: under, Resolved, Resolve, Below; hoggetref10.Ints. -/
namespace Go.Proofs.YtomidniaekeafaaGreatDoorAbs
set_option linter.unusedSimpArgs false
set_option linter.unusedVariables false
open Go Go.RowKit Go.Proofs
set_option maxRecDepth 100000
set_option maxHeartbeats 1000000
theorem under50_ok (t : List Pl) (g : Good t) (i : Nat) (hi : i < t.length) (x : Nat) : CallsOK Tryz.prog 50 [rowT Pl.cells t, iV i, iV x] (bV (underF t i x)) [] := by
  refine callsOK mixed Tryz.call50 Tryz.func50 rfl (by rw [Tryz.ntmps50]; simp) ?_ rfl
  rw [Tryz.ntmps50]
  repeat with_reducible refine aw_assoc ?_
  first | with_reducible refine aw_region0 (by decide +kernel) fun K' hK => ?_ | with_reducible refine aw_toS (aw_region0 (by decide +kernel) fun K' hK => ?_)
  simp []
  first | refine hK _ _ _ ?_ | done
  clear K' hK
  repeat with_reducible refine aw_assoc ?_
  first | with_reducible refine aw_block ?_ | with_reducible refine aw_toS (aw_block ?_)
  refine aw_loop (fun s G nx => s 0 = rowT Pl.cells t ∧ s 2 = iV x ∧ ∃ j : Nat, s 1 = iV j ∧ j < t.length ∧ underF t j x = underF t i x) (fun s _ _ => match s 1 with | .v (.int _ n) => n.toNat | _ => 0) ?_ ?_
  · exact ⟨by simp, by simp, i, by simp, hi, rfl⟩
  · rintro s G nx - ⟨s0, s2, j, s1, hj, hu⟩
    have o1 := s1
    repeat with_reducible refine aw_assoc ?_
    first | with_reducible refine aw_region0 (by decide +kernel) fun K' hK => ?_ | with_reducible refine aw_toS (aw_region0 (by decide +kernel) fun K' hK => ?_)
    simp [s1, s2]
    first | refine hK _ _ _ ?_ | done
    clear K' hK
    repeat with_reducible refine aw_assoc ?_
    first | with_reducible refine aw_condP fun A B hA hB => ?_ | with_reducible refine aw_toS (aw_condP fun A B hA hB => ?_)
    simp []
    refine ⟨fun hx => hA ?_, fun hx => hB ?_⟩ <;> clear hA hB A B <;> (try simp at hx) <;> (try with_reducible refine aw_skip ?_)
    · have hp := g.par j (by omega) hj
      obtain ⟨k, hk⟩ : ∃ k : Nat, parN t j = k := ⟨(parN t j).toNat, by omega⟩
      have hkp : (nth t j).par = k := hk
      have hst := under_step g.dn hj (x : Int)
      rw [hk] at hst hp
      have h1 : ¬ (j : Int) = x := by omega
      have h2 : ¬ (k : Int) < 0 := by omega
      simp only [h1, h2, decide_false, Bool.false_or, Bool.not_false, Bool.true_and, Int.toNat_natCast] at hst
      repeat with_reducible refine aw_assoc ?_
      first | with_reducible refine aw_block ?_ | with_reducible refine aw_toS (aw_block ?_)
      repeat with_reducible refine aw_assoc ?_
      first | with_reducible refine aw_region0 (by decide +kernel) fun K' hK => ?_ | with_reducible refine aw_toS (aw_region0 (by decide +kernel) fun K' hK => ?_)
      simp [s0, s1, hj, hkp]
      first | refine hK _ _ _ ?_ | done
      clear K' hK
      first | with_reducible refine aw_skipL ?_ | skip
      refine blockK_normal ?_
      refine aw_skipL (loopK_normal ?_ ?_)
      · exact ⟨by simp [s0], by simp [s2], k, by simp, by omega, by rw [← hst]; exact hu⟩
      · simp [o1]; omega
    · repeat with_reducible refine aw_assoc ?_
      first | with_reducible refine aw_exit ?_ | with_reducible refine aw_exitL ?_
      refine loopK_exit (blockK_exit ?_)
      repeat with_reducible refine aw_assoc ?_
      first | with_reducible refine aw_region0 (by decide +kernel) fun K' hK => ?_ | with_reducible refine aw_toS (aw_region0 (by decide +kernel) fun K' hK => ?_)
      simp [s1, s2]
      first | refine hK _ _ _ ?_ | done
      clear K' hK
      repeat with_reducible refine aw_assoc ?_
      first | with_reducible refine aw_ret ?_ | with_reducible refine aw_retL ?_ | with_reducible refine aw_skipL ?_
      simp [blockK, loopK, Post, resA, res1, expT, expA, exp1, expM, expL, okT, okA, ok1, rowOf, Tryz.f50]
      rw [← hu]
      by_cases he : j = x
      · subst he
        simp [under_self g hj]
      · have : underF t j x = false := by
          cases h : underF t j x with
          | false => rfl
          | true => have := under_ge g hj h; omega
        rw [this]
        simp; omega
theorem resolved49_ok (t : List Pl) (g : Good t) (ht : OKs t) (i : Nat) (hi : i < t.length) (b : Bs) : CallsOK Tryz.prog 49 [rowT Pl.cells t, iV i, sV b] (iV (resolveN t i b)) [] := by
  refine callsOK mixed Tryz.call49 Tryz.func49 rfl (by rw [Tryz.ntmps49]; simp) ?_ rfl
  rw [Tryz.ntmps49]
  repeat with_reducible refine aw_assoc ?_
  first | with_reducible refine aw_region0 (by decide +kernel) fun K' hK => ?_ | with_reducible refine aw_toS (aw_region0 (by decide +kernel) fun K' hK => ?_)
  simp []
  first | refine hK _ _ _ ?_ | done
  clear K' hK
  repeat with_reducible refine aw_assoc ?_
  first | with_reducible refine aw_block ?_ | with_reducible refine aw_toS (aw_block ?_)
  refine aw_loop (fun s G nx => s 0 = rowT Pl.cells t ∧ s 2 = sV b ∧ ∃ p : Int, s 1 = iV p ∧ ((∃ j : Nat, p = j ∧ j < t.length ∧ resolveN t j b = resolveN t i b) ∨ (p = -1 ∧ resolveN t i b = -1))) (fun s _ _ => match s 1 with | .v (.int _ n) => (n + 1).toNat | _ => 0) ?_ ?_
  · exact ⟨by simp, by simp, i, by simp, .inl ⟨i, rfl, hi, rfl⟩⟩
  · rintro s G nx - ⟨s0, s2, p, s1, hp⟩
    rcases hp with ⟨j, rfl, hj, hr⟩ | ⟨rfl, hr⟩
    · have o1 := s1
      have hd := g.dn j hj
      have hge : -1 ≤ parN t j := by
        rcases Nat.eq_zero_or_pos j with rfl | h
        · rw [root_par g.root]; omega
        · have := g.par j h hj; omega
      have hch := chR_eq (b := b) g (p := (j : Int)) (by omega)
      repeat with_reducible refine aw_assoc ?_
      first | with_reducible refine aw_region0 (by decide +kernel) fun K' hK => ?_ | with_reducible refine aw_toS (aw_region0 (by decide +kernel) fun K' hK => ?_)
      simp [s1]
      first | refine hK _ _ _ ?_ | done
      clear K' hK
      repeat with_reducible refine aw_assoc ?_
      first | with_reducible refine aw_condP fun A B hA hB => ?_ | with_reducible refine aw_toS (aw_condP fun A B hA hB => ?_)
      simp []
      refine ⟨fun hc => hA ?_, fun hc => hB ?_⟩ <;> clear hA hB A B <;> (try (simp at hc; done)) <;> (try (exfalso; simp at hc; omega)) <;> clear hc <;> (try with_reducible refine aw_skip ?_)
      repeat with_reducible refine aw_assoc ?_
      first | with_reducible refine aw_block ?_ | with_reducible refine aw_toS (aw_block ?_)
      repeat with_reducible refine aw_assoc ?_
      first | with_reducible refine aw_region0 (by decide +kernel) fun K' hK => ?_ | with_reducible refine aw_toS (aw_region0 (by decide +kernel) fun K' hK => ?_)
      simp [s0, s1, s2]
      refine acall_flat (child38_ok t ht.1 t.length (Nat.le_refl _) j b) rfl (by first | rfl | (simp []; done) | (simp []; rfl) | (simp []; exact ⟨rfl, rfl⟩)) ?_
      rw [hch]
      simp
      first | refine hK _ _ _ ?_ | done
      clear K' hK
      cases hc : chF t j b with
      | some k =>
        rw [res_at g hj hc] at hr
        have h0 : (0 : Int) ≤ atI (some k) := by simp [atI]
        repeat with_reducible refine aw_assoc ?_
        first | with_reducible refine aw_region0 (by decide +kernel) fun K' hK => ?_ | with_reducible refine aw_toS (aw_region0 (by decide +kernel) fun K' hK => ?_)
        simp [h0]
        first | refine hK _ _ _ ?_ | done
        clear K' hK
        repeat with_reducible refine aw_assoc ?_
        first | with_reducible refine aw_condP fun A B hA hB => ?_ | with_reducible refine aw_toS (aw_condP fun A B hA hB => ?_)
        simp []
        refine ⟨fun hc => hA ?_, fun hc => hB ?_⟩ <;> clear hA hB A B <;> (try (simp at hc; done)) <;> (try (exfalso; simp at hc; omega)) <;> clear hc <;> (try with_reducible refine aw_skip ?_)
        repeat with_reducible refine aw_assoc ?_
        first | with_reducible refine aw_region0 (by decide +kernel) fun K' hK => ?_ | with_reducible refine aw_toS (aw_region0 (by decide +kernel) fun K' hK => ?_)
        simp []
        first | refine hK _ _ _ ?_ | done
        clear K' hK
        repeat with_reducible refine aw_assoc ?_
        first | with_reducible refine aw_ret ?_ | with_reducible refine aw_retL ?_ | with_reducible refine aw_skipL ?_
        simp [blockK, loopK, Post, resA, res1, expT, expA, exp1, expM, expL, okT, okA, ok1, rowOf, Tryz.f49]
        rw [← hr]; rfl
      | none =>
        have h0 : ¬ (0 : Int) ≤ atI none := by simp [atI]
        repeat with_reducible refine aw_assoc ?_
        first | with_reducible refine aw_region0 (by decide +kernel) fun K' hK => ?_ | with_reducible refine aw_toS (aw_region0 (by decide +kernel) fun K' hK => ?_)
        simp [h0]
        first | refine hK _ _ _ ?_ | done
        clear K' hK
        repeat with_reducible refine aw_assoc ?_
        first | with_reducible refine aw_condP fun A B hA hB => ?_ | with_reducible refine aw_toS (aw_condP fun A B hA hB => ?_)
        simp []
        refine ⟨fun hc => hA ?_, fun hc => hB ?_⟩ <;> clear hA hB A B <;> (try (simp at hc; done)) <;> (try (exfalso; simp at hc; omega)) <;> clear hc <;> (try with_reducible refine aw_skip ?_)
        repeat with_reducible refine aw_assoc ?_
        first | with_reducible refine aw_region0 (by decide +kernel) fun K' hK => ?_ | with_reducible refine aw_toS (aw_region0 (by decide +kernel) fun K' hK => ?_)
        simp [s0, s1, hj]
        first | refine hK _ _ _ ?_ | done
        clear K' hK
        first | with_reducible refine aw_skipL ?_ | skip
        refine blockK_normal ?_
        refine aw_skipL (loopK_normal ?_ ?_)
        · refine ⟨by simp [s0], by simp [s2], parN t j, by simp [parN], ?_⟩
          by_cases hp : 0 ≤ parN t j
          · rw [res_up g hj hc hp] at hr
            exact .inl ⟨(parN t j).toNat, by omega, by omega, by rw [Int.toNat_of_nonneg hp]; exact hr⟩
          · rw [res_root g hj hc (by omega)] at hr
            exact .inr ⟨by omega, hr.symm⟩
        · simp [o1]
          have : (nth t j).par = parN t j := rfl
          omega
    · repeat with_reducible refine aw_assoc ?_
      first | with_reducible refine aw_region0 (by decide +kernel) fun K' hK => ?_ | with_reducible refine aw_toS (aw_region0 (by decide +kernel) fun K' hK => ?_)
      simp [s1]
      first | refine hK _ _ _ ?_ | done
      clear K' hK
      repeat with_reducible refine aw_assoc ?_
      first | with_reducible refine aw_condP fun A B hA hB => ?_ | with_reducible refine aw_toS (aw_condP fun A B hA hB => ?_)
      simp []
      refine ⟨fun hc => hA ?_, fun hc => hB ?_⟩ <;> clear hA hB A B <;> (try (simp at hc; done)) <;> (try (exfalso; simp at hc; omega)) <;> clear hc <;> (try with_reducible refine aw_skip ?_)
      repeat with_reducible refine aw_assoc ?_
      first | with_reducible refine aw_exit ?_ | with_reducible refine aw_exitL ?_
      refine loopK_exit (blockK_exit ?_)
      repeat with_reducible refine aw_assoc ?_
      first | with_reducible refine aw_region0 (by decide +kernel) fun K' hK => ?_ | with_reducible refine aw_toS (aw_region0 (by decide +kernel) fun K' hK => ?_)
      simp []
      first | refine hK _ _ _ ?_ | done
      clear K' hK
      repeat with_reducible refine aw_assoc ?_
      first | with_reducible refine aw_ret ?_ | with_reducible refine aw_retL ?_ | with_reducible refine aw_skipL ?_
      simp [blockK, loopK, Post, resA, res1, expT, expA, exp1, expM, expL, okT, okA, ok1, rowOf, Tryz.f49]
      exact hr.symm
theorem resolve26_ok (t : List Pl) (ht : OKs t) (i : Int) (b : Bs) : CallsOK Tryz.prog 26 [rowT Pl.cells t, iV i, sV b] (iV (resolveN t i b)) [] := by
  refine callsOK mixed Tryz.call26 Tryz.func26 rfl (by rw [Tryz.ntmps26]; simp) ?_ rfl
  rw [Tryz.ntmps26]
  repeat with_reducible refine aw_assoc ?_
  first | with_reducible refine aw_region0 (by decide +kernel) fun K' hK => ?_ | with_reducible refine aw_toS (aw_region0 (by decide +kernel) fun K' hK => ?_)
  simp []
  first | refine hK _ _ _ ?_ | done
  clear K' hK
  repeat with_reducible refine aw_assoc ?_
  first | with_reducible refine aw_region0 (by decide +kernel) fun K' hK => ?_ | with_reducible refine aw_toS (aw_region0 (by decide +kernel) fun K' hK => ?_)
  simp []
  refine acall_flat (there47_ok t ht i) rfl (by first | rfl | (simp []; done) | (simp []; rfl) | (simp []; exact ⟨rfl, rfl⟩)) ?_
  cases hh : holdsF t i with
  | false =>
    simp
    first | refine hK _ _ _ ?_ | done
    clear K' hK
    repeat with_reducible refine aw_assoc ?_
    first | with_reducible refine aw_condP fun A B hA hB => ?_ | with_reducible refine aw_toS (aw_condP fun A B hA hB => ?_)
    simp []
    refine ⟨fun hc => hA ?_, fun hc => hB ?_⟩ <;> clear hA hB A B <;> (try (simp at hc; done)) <;> (try (exfalso; simp at hc; omega)) <;> clear hc <;> (try with_reducible refine aw_skip ?_)
    repeat with_reducible refine aw_assoc ?_
    first | with_reducible refine aw_region0 (by decide +kernel) fun K' hK => ?_ | with_reducible refine aw_toS (aw_region0 (by decide +kernel) fun K' hK => ?_)
    simp []
    first | refine hK _ _ _ ?_ | done
    clear K' hK
    repeat with_reducible refine aw_assoc ?_
    first | with_reducible refine aw_ret ?_ | with_reducible refine aw_retL ?_ | with_reducible refine aw_skipL ?_
    simp [blockK, loopK, Post, resA, res1, expT, expA, exp1, expM, expL, okT, okA, ok1, rowOf, Tryz.f26]
    rw [resolveN, hh]; rfl
  | true =>
    obtain ⟨g, h0, h1⟩ := holds_iff.1 hh
    obtain ⟨n, rfl⟩ : ∃ n : Nat, i = n := ⟨i.toNat, by omega⟩
    simp
    first | refine hK _ _ _ ?_ | done
    clear K' hK
    repeat with_reducible refine aw_assoc ?_
    first | with_reducible refine aw_condP fun A B hA hB => ?_ | with_reducible refine aw_toS (aw_condP fun A B hA hB => ?_)
    simp []
    refine ⟨fun hc => hA ?_, fun hc => hB ?_⟩ <;> clear hA hB A B <;> (try (simp at hc; done)) <;> (try (exfalso; simp at hc; omega)) <;> clear hc <;> (try with_reducible refine aw_skip ?_)
    repeat with_reducible refine aw_assoc ?_
    first | with_reducible refine aw_region0 (by decide +kernel) fun K' hK => ?_ | with_reducible refine aw_toS (aw_region0 (by decide +kernel) fun K' hK => ?_)
    simp []
    refine acall_flat (resolved49_ok t g ht n (by omega) b) rfl (by first | rfl | (simp []; done) | (simp []; rfl) | (simp []; exact ⟨rfl, rfl⟩)) ?_
    simp
    first | refine hK _ _ _ ?_ | done
    clear K' hK
    repeat with_reducible refine aw_assoc ?_
    first | with_reducible refine aw_ret ?_ | with_reducible refine aw_retL ?_ | with_reducible refine aw_skipL ?_
    simp [blockK, loopK, Post, resA, res1, expT, expA, exp1, expM, expL, okT, okA, ok1, rowOf, Tryz.f26]
theorem below29_ok (t : List Pl) (ht : OKs t) (i : Int) : CallsOK Tryz.prog 29 [rowT Pl.cells t, iV i] (.row 0 (belowL t i).length) [(3, flat iC (belowL t i))] := by
  refine callsOK mixed Tryz.call29 Tryz.func29 rfl (by rw [Tryz.ntmps29]; simp) ?_ rfl
  rw [Tryz.ntmps29]
  repeat with_reducible refine aw_assoc ?_
  first | with_reducible refine aw_region0 (by decide +kernel) fun K' hK => ?_ | with_reducible refine aw_toS (aw_region0 (by decide +kernel) fun K' hK => ?_)
  simp []
  first | refine hK _ _ _ ?_ | done
  clear K' hK
  repeat with_reducible refine aw_assoc ?_
  first | with_reducible refine aw_region0 (by decide +kernel) fun K' hK => ?_ | with_reducible refine aw_toS (aw_region0 (by decide +kernel) fun K' hK => ?_)
  simp []
  first | refine hK _ _ _ ?_ | done
  clear K' hK
  repeat with_reducible refine aw_assoc ?_
  first | with_reducible refine aw_region0 (by decide +kernel) fun K' hK => ?_ | with_reducible refine aw_toS (aw_region0 (by decide +kernel) fun K' hK => ?_)
  simp []
  refine acall_flat (there47_ok t ht i) rfl (by first | rfl | (simp []; done) | (simp []; rfl) | (simp []; exact ⟨rfl, rfl⟩)) ?_
  cases hh : holdsF t i with
  | false =>
    have e : belowL t i = [] := by rw [belowL, hh]; rfl
    simp
    first | refine hK _ _ _ ?_ | done
    clear K' hK
    repeat with_reducible refine aw_assoc ?_
    first | with_reducible refine aw_condP fun A B hA hB => ?_ | with_reducible refine aw_toS (aw_condP fun A B hA hB => ?_)
    simp []
    refine ⟨fun hc => hA ?_, fun hc => hB ?_⟩ <;> clear hA hB A B <;> (try (simp at hc; done)) <;> (try (exfalso; simp at hc; omega)) <;> clear hc <;> (try with_reducible refine aw_skip ?_)
    repeat with_reducible refine aw_assoc ?_
    first | with_reducible refine aw_region0 (by decide +kernel) fun K' hK => ?_ | with_reducible refine aw_toS (aw_region0 (by decide +kernel) fun K' hK => ?_)
    simp []
    first | refine hK _ _ _ ?_ | done
    clear K' hK
    repeat with_reducible refine aw_assoc ?_
    first | with_reducible refine aw_ret ?_ | with_reducible refine aw_retL ?_ | with_reducible refine aw_skipL ?_
    simp [blockK, loopK, Post, resA, res1, expT, expA, exp1, expM, expL, okT, okA, ok1, rowOf, Tryz.f29]
    rw [e]
    exact ⟨[1], ⟨rfl, rfl⟩, rfl⟩
  | true =>
    obtain ⟨g, hi0, hi1⟩ := holds_iff.1 hh
    obtain ⟨n, rfl⟩ : ∃ n : Nat, i = n := ⟨i.toNat, by omega⟩
    have hn : n < t.length := by omega
    have hl := ht.1
    have e : belowL t n = belowK t n t.length := by rw [belowL, hh]; simp
    have hk0 : belowK t n n = [] := by
      unfold belowK
      rw [show (List.range n).filter (fun j => decide (n ≤ j) && underF t j n) = [] from List.filter_eq_nil_iff.2 (fun j hj => by have := List.mem_range.1 hj; simp; omega)]; rfl
    simp
    first | refine hK _ _ _ ?_ | done
    clear K' hK
    repeat with_reducible refine aw_assoc ?_
    first | with_reducible refine aw_condP fun A B hA hB => ?_ | with_reducible refine aw_toS (aw_condP fun A B hA hB => ?_)
    simp []
    refine ⟨fun hc => hA ?_, fun hc => hB ?_⟩ <;> clear hA hB A B <;> (try (simp at hc; done)) <;> (try (exfalso; simp at hc; omega)) <;> clear hc <;> (try with_reducible refine aw_skip ?_)
    repeat with_reducible refine aw_assoc ?_
    first | with_reducible refine aw_region0 (by decide +kernel) fun K' hK => ?_ | with_reducible refine aw_toS (aw_region0 (by decide +kernel) fun K' hK => ?_)
    simp []
    first | refine hK _ _ _ ?_ | done
    clear K' hK
    repeat with_reducible refine aw_assoc ?_
    first | with_reducible refine aw_block ?_ | with_reducible refine aw_toS (aw_block ?_)
    refine aw_loop (fun u G nx => u 0 = rowT Pl.cells t ∧ u 1 = iV n ∧ ∃ k r : Nat, u 6 = iV k ∧ n ≤ k ∧ k ≤ t.length ∧ u 5 = .row r (belowK t n k).length ∧ G r = some (.row 3 (flat iC (belowK t n k))) ∧ r < nx) (fun u _ _ => match u 6 with | .v (.int _ n) => t.length - n.toNat | _ => 0) ?_ ?_
    · exact ⟨by simp, by simp, n, 1, by simp, by omega, by omega, by simp [hk0], by simp [hk0], by omega⟩
    · rintro u G nx - ⟨u0, u1, k, r, u6, hnk, hk, u5, gr, hrn⟩
      have hw : IntKind.i64.wrap (↑k + 1) = ((k + 1 : Nat) : Int) := wrapS (by omega)
      have hbs := belowK_succ (t := t) hnk
      have hlen := belowK_len (t := t) (i := n) (k := k)
      repeat with_reducible refine aw_assoc ?_
      first | with_reducible refine aw_region0 (by decide +kernel) fun K' hK => ?_ | with_reducible refine aw_toS (aw_region0 (by decide +kernel) fun K' hK => ?_)
      simp [u0, u6]
      first | refine hK _ _ _ ?_ | done
      clear K' hK
      repeat with_reducible refine aw_assoc ?_
      first | with_reducible refine aw_condP fun A B hA hB => ?_ | with_reducible refine aw_toS (aw_condP fun A B hA hB => ?_)
      simp []
      refine ⟨fun hi2 => hA ?_, fun hi2 => hB ?_⟩ <;> clear hA hB A B <;> (try simp at hi2) <;> (try with_reducible refine aw_skip ?_)
      · repeat with_reducible refine aw_assoc ?_
        first | with_reducible refine aw_block ?_ | with_reducible refine aw_toS (aw_block ?_)
        repeat with_reducible refine aw_assoc ?_
        first | with_reducible refine aw_region0 (by decide +kernel) fun K' hK => ?_ | with_reducible refine aw_toS (aw_region0 (by decide +kernel) fun K' hK => ?_)
        simp [u0, u1, u6]
        refine acall_flat (under50_ok t g k hi2 n) rfl (by first | rfl | (simp []; done) | (simp []; rfl) | (simp []; exact ⟨rfl, rfl⟩)) ?_
        simp
        first | refine hK _ _ _ ?_ | done
        clear K' hK
        cases hu : underF t k n with
        | true =>
          rw [hu] at hbs
          have b1 : (belowK t n k).length + 1 ≤ 9223372036854775807 := by omega
          have b2 : ((belowK t n k).length + 1) * 8 ≤ 140737488355328 := by omega
          have n1 : ¬ r = nx := by omega
          repeat with_reducible refine aw_assoc ?_
          first | with_reducible refine aw_condP fun A B hA hB => ?_ | with_reducible refine aw_toS (aw_condP fun A B hA hB => ?_)
          simp []
          refine ⟨fun hc => hA ?_, fun hc => hB ?_⟩ <;> clear hA hB A B <;> (try (simp at hc; done)) <;> (try (exfalso; simp at hc; omega)) <;> clear hc <;> (try with_reducible refine aw_skip ?_)
          repeat with_reducible refine aw_assoc ?_
          first | with_reducible refine aw_region0 (by decide +kernel) fun K' hK => ?_ | with_reducible refine aw_toS (aw_region0 (by decide +kernel) fun K' hK => ?_)
          simp [u5, u6, gr, b1, b2, n1, treeOf_row, srcOf_row]
          first | refine hK _ _ _ ?_ | done
          clear K' hK
          first | with_reducible refine aw_skipL ?_ | skip
          refine blockK_normal ?_
          repeat with_reducible refine aw_assoc ?_
          first | with_reducible refine aw_region0 (by decide +kernel) fun K' hK => ?_ | with_reducible refine aw_toS (aw_region0 (by decide +kernel) fun K' hK => ?_)
          simp [u6, hw]
          first | refine hK _ _ _ ?_ | done
          clear K' hK
          refine aw_skipL (loopK_normal ?_ ?_)
          · refine ⟨by simp [u0], by simp [u1], k + 1, nx + 1, by simp [hw], by omega, by omega, ?_, ?_, by omega⟩
            · rw [hbs]; simp
            · rw [hbs, if_pos rfl, Hp.upd_self, ← flat_app]; rfl
          · simp [u6, hw]; omega
        | false =>
          rw [hu] at hbs
          have hbs' : belowK t n (k + 1) = belowK t n k := by rw [hbs]; simp
          repeat with_reducible refine aw_assoc ?_
          first | with_reducible refine aw_condP fun A B hA hB => ?_ | with_reducible refine aw_toS (aw_condP fun A B hA hB => ?_)
          simp []
          refine ⟨fun hc => hA ?_, fun hc => hB ?_⟩ <;> clear hA hB A B <;> (try (simp at hc; done)) <;> (try (exfalso; simp at hc; omega)) <;> clear hc <;> (try with_reducible refine aw_skip ?_)
          first | with_reducible refine aw_skipL ?_ | skip
          refine blockK_normal ?_
          repeat with_reducible refine aw_assoc ?_
          first | with_reducible refine aw_region0 (by decide +kernel) fun K' hK => ?_ | with_reducible refine aw_toS (aw_region0 (by decide +kernel) fun K' hK => ?_)
          simp [u6, hw]
          first | refine hK _ _ _ ?_ | done
          clear K' hK
          refine aw_skipL (loopK_normal ?_ ?_)
          · exact ⟨by simp [u0], by simp [u1], k + 1, r, by simp [hw], by omega, by omega, by rw [hbs']; simp [u5], by rw [hbs']; exact gr, hrn⟩
          · simp [u6, hw]; omega
      · repeat with_reducible refine aw_assoc ?_
        first | with_reducible refine aw_exit ?_ | with_reducible refine aw_exitL ?_
        refine loopK_exit (blockK_exit ?_)
        have : k = t.length := by omega
        subst this
        repeat with_reducible refine aw_assoc ?_
        first | with_reducible refine aw_region0 (by decide +kernel) fun K' hK => ?_ | with_reducible refine aw_toS (aw_region0 (by decide +kernel) fun K' hK => ?_)
        simp [u5]
        first | refine hK _ _ _ ?_ | done
        clear K' hK
        repeat with_reducible refine aw_assoc ?_
        first | with_reducible refine aw_ret ?_ | with_reducible refine aw_retL ?_ | with_reducible refine aw_skipL ?_
        simp [blockK, loopK, Post, resA, res1, expT, expA, exp1, expM, expL, okT, okA, ok1, rowOf, Tryz.f29, gr]
        rw [e]
        exact ⟨[r], ⟨rfl, rfl⟩, by simp [rowOf, gr]⟩
theorem ints27_ok (a b : List Int) (ha : a.length ≤ 1000000000) : CallsOK Tryz.prog 27 [rowT iC a, rowT iC b] (bV (decide (a = b))) [] := by
  refine callsOK mixed Tryz.call27 Tryz.func27 rfl (by rw [Tryz.ntmps27]; simp) ?_ rfl
  rw [Tryz.ntmps27]
  repeat with_reducible refine aw_assoc ?_
  first | with_reducible refine aw_region0 (by decide +kernel) fun K' hK => ?_ | with_reducible refine aw_toS (aw_region0 (by decide +kernel) fun K' hK => ?_)
  simp []
  first | refine hK _ _ _ ?_ | done
  clear K' hK
  repeat with_reducible refine aw_assoc ?_
  first | with_reducible refine aw_region0 (by decide +kernel) fun K' hK => ?_ | with_reducible refine aw_toS (aw_region0 (by decide +kernel) fun K' hK => ?_)
  simp []
  first | refine hK _ _ _ ?_ | done
  clear K' hK
  repeat with_reducible refine aw_assoc ?_
  first | with_reducible refine aw_condP fun A B hA hB => ?_ | with_reducible refine aw_toS (aw_condP fun A B hA hB => ?_)
  simp []
  refine ⟨fun hl => hA ?_, fun hl => hB ?_⟩ <;> clear hA hB A B <;> (try simp at hl) <;> (try with_reducible refine aw_skip ?_)
  · repeat with_reducible refine aw_assoc ?_
    first | with_reducible refine aw_region0 (by decide +kernel) fun K' hK => ?_ | with_reducible refine aw_toS (aw_region0 (by decide +kernel) fun K' hK => ?_)
    simp []
    first | refine hK _ _ _ ?_ | done
    clear K' hK
    repeat with_reducible refine aw_assoc ?_
    first | with_reducible refine aw_ret ?_ | with_reducible refine aw_retL ?_ | with_reducible refine aw_skipL ?_
    simp [blockK, loopK, Post, resA, res1, expT, expA, exp1, expM, expL, okT, okA, ok1, rowOf, Tryz.f27]
    intro e; exact hl (by rw [e])
  · repeat with_reducible refine aw_assoc ?_
    first | with_reducible refine aw_region0 (by decide +kernel) fun K' hK => ?_ | with_reducible refine aw_toS (aw_region0 (by decide +kernel) fun K' hK => ?_)
    simp []
    first | refine hK _ _ _ ?_ | done
    clear K' hK
    repeat with_reducible refine aw_assoc ?_
    first | with_reducible refine aw_block ?_ | with_reducible refine aw_toS (aw_block ?_)
    refine aw_loop (fun s G nx => s 0 = rowT iC a ∧ s 1 = rowT iC b ∧ ∃ i : Nat, s 5 = iV i ∧ i ≤ a.length ∧ a.take i = b.take i) (fun s _ _ => match s 5 with | .v (.int _ n) => a.length - n.toNat | _ => 0) ?_ ?_
    · exact ⟨by simp, by simp, 0, by simp, by omega, by simp⟩
    · rintro s G nx - ⟨s0, s1, i, s5, hi, ht⟩
      have hw : IntKind.i64.wrap (↑i + 1) = ((i + 1 : Nat) : Int) := wrapS (by omega)
      repeat with_reducible refine aw_assoc ?_
      first | with_reducible refine aw_region0 (by decide +kernel) fun K' hK => ?_ | with_reducible refine aw_toS (aw_region0 (by decide +kernel) fun K' hK => ?_)
      simp [s0, s5]
      first | refine hK _ _ _ ?_ | done
      clear K' hK
      repeat with_reducible refine aw_assoc ?_
      first | with_reducible refine aw_condP fun A B hA hB => ?_ | with_reducible refine aw_toS (aw_condP fun A B hA hB => ?_)
      simp []
      refine ⟨fun hi2 => hA ?_, fun hi2 => hB ?_⟩ <;> clear hA hB A B <;> (try simp at hi2) <;> (try with_reducible refine aw_skip ?_)
      · have hi3 : i < b.length := by omega
        repeat with_reducible refine aw_assoc ?_
        first | with_reducible refine aw_block ?_ | with_reducible refine aw_toS (aw_block ?_)
        repeat with_reducible refine aw_assoc ?_
        first | with_reducible refine aw_region1 (by decide +kernel) (by decide +kernel) fun K' hK => ?_ | with_reducible refine aw_toS (aw_region1 (by decide +kernel) (by decide +kernel) fun K' hK => ?_)
        simp (maxSteps := 1000000) [s0, s1, s5, hi2, hi3]
        first | refine hK _ _ _ ?_ | done
        clear K' hK
        by_cases h1 : nth a i = nth b i
        · repeat with_reducible refine aw_assoc ?_
          first | with_reducible refine aw_condP fun A B hA hB => ?_ | with_reducible refine aw_toS (aw_condP fun A B hA hB => ?_)
          simp [h1]
          refine ⟨fun hc => hA ?_, fun hc => hB ?_⟩ <;> clear hA hB A B <;> (try (simp at hc; done)) <;> (try (exfalso; simp at hc; omega)) <;> clear hc <;> (try with_reducible refine aw_skip ?_)
          first | with_reducible refine aw_skipL ?_ | skip
          refine blockK_normal ?_
          repeat with_reducible refine aw_assoc ?_
          first | with_reducible refine aw_region0 (by decide +kernel) fun K' hK => ?_ | with_reducible refine aw_toS (aw_region0 (by decide +kernel) fun K' hK => ?_)
          simp [s5, hw]
          first | refine hK _ _ _ ?_ | done
          clear K' hK
          refine aw_skipL (loopK_normal ?_ ?_)
          · exact ⟨by simp [s0], by simp [s1], i + 1, by simp [hw], by omega, take_nth hi2 hi3 ht h1⟩
          · simp [s5, hw]; omega
        · repeat with_reducible refine aw_assoc ?_
          first | with_reducible refine aw_condP fun A B hA hB => ?_ | with_reducible refine aw_toS (aw_condP fun A B hA hB => ?_)
          simp [h1]
          refine ⟨fun hc => hA ?_, fun hc => hB ?_⟩ <;> clear hA hB A B <;> (try (simp at hc; done)) <;> (try (exfalso; simp at hc; omega)) <;> clear hc <;> (try with_reducible refine aw_skip ?_)
          repeat with_reducible refine aw_assoc ?_
          first | with_reducible refine aw_region0 (by decide +kernel) fun K' hK => ?_ | with_reducible refine aw_toS (aw_region0 (by decide +kernel) fun K' hK => ?_)
          simp []
          first | refine hK _ _ _ ?_ | done
          clear K' hK
          repeat with_reducible refine aw_assoc ?_
          first | with_reducible refine aw_ret ?_ | with_reducible refine aw_retL ?_ | with_reducible refine aw_skipL ?_
          simp [blockK, loopK, Post, resA, res1, expT, expA, exp1, expM, expL, okT, okA, ok1, rowOf, Tryz.f27]
          exact ne_nth h1
      · repeat with_reducible refine aw_assoc ?_
        first | with_reducible refine aw_exit ?_ | with_reducible refine aw_exitL ?_
        refine loopK_exit (blockK_exit ?_)
        repeat with_reducible refine aw_assoc ?_
        first | with_reducible refine aw_region0 (by decide +kernel) fun K' hK => ?_ | with_reducible refine aw_toS (aw_region0 (by decide +kernel) fun K' hK => ?_)
        simp []
        first | refine hK _ _ _ ?_ | done
        clear K' hK
        repeat with_reducible refine aw_assoc ?_
        first | with_reducible refine aw_ret ?_ | with_reducible refine aw_retL ?_ | with_reducible refine aw_skipL ?_
        simp [blockK, loopK, Post, resA, res1, expT, expA, exp1, expM, expL, okT, okA, ok1, rowOf, Tryz.f27]
        exact eq_of_take (by omega) (by omega) ht
end Go.Proofs.YtomidniaekeafaaGreatDoorAbs
/- hoggetref03.Path; hoggetref15: PathOf, Path, Find. -/
namespace Go.Proofs.YtomidniaekeafaaGreatDoorAbs
set_option linter.unusedSimpArgs false
set_option linter.unusedVariables false
open Go Go.RowKit Go.Proofs
set_option maxRecDepth 100000
set_option maxHeartbeats 1000000
theorem join_two' (b c : Bs) (l : List Bs) : joinB (b :: c :: l) = nmL ++ (bsL b ++ 47 :: joinB (c :: l)) := by rw [join_two]; rfl
theorem join_one' (b : Bs) : joinB [b] = nmL ++ bsL b := by rw [join_one]; simp
theorem join_snoc {b : Bs} : ∀ {l : List Bs}, joinB (l ++ [b]) = (if l = [] then [] else joinB l ++ [47]) ++ (nmL ++ bsL b)
  | [] => by simp [join_one']
  | [a] => by
    rw [List.singleton_append, join_two', join_one', join_one']
    simp
  | a :: c :: l => by
    have ih := join_snoc (b := b) (l := c :: l)
    rw [if_neg (List.cons_ne_nil _ _)] at ih
    have e : a :: c :: l ++ [b] = a :: c :: (l ++ [b]) := rfl
    have e2 : c :: l ++ [b] = c :: (l ++ [b]) := rfl
    rw [e2] at ih
    rw [e, join_two', ih, if_neg (List.cons_ne_nil _ _), join_two']
    simp
theorem join_size {l : List Bs} (hl : l.length ≤ 12) (hg : ∀ b ∈ l, goodF (bsL b) = true) : (joinB l).length ≤ 648 := by
  have := join_len [47] 53 (l.map fun b => bsL (preB b)) (fun x hx => by
    obtain ⟨b, hb, rfl⟩ := List.mem_map.1 hx
    rw [pre_bytes]
    have := good_len (hg b hb)
    simp [nmL]; omega)
  rw [List.length_map] at this
  have h3 : l.length * (53 + ([47] : List UInt8).length) ≤ 12 * 54 := Nat.mul_le_mul_right _ hl
  unfold joinB
  omega
theorem path64_ok (l : List Bs) (hl : l.length ≤ 1000000000) (hs : ∀ b ∈ l, b.size ≤ 4000000000) : CallsOK Tryz.prog 64 [rowT sC l] (.tup [sV (pathS l), iV (pathCode l)]) [] := by
  refine callsOK mixed Tryz.call64 Tryz.func64 rfl (by rw [Tryz.ntmps64]; simp) ?_ rfl
  rw [Tryz.ntmps64]
  have hbad : pathCode l ≠ 0 → pathCode l = 30 ∧ pathS l = ⟨#[]⟩ := fun h => by
    refine ⟨?_, by rw [pathS, if_neg h]⟩
    unfold pathCode at h ⊢
    split
    · rfl
    · rename_i h1
      rw [if_neg h1] at h
      split
      · rename_i h2
        rw [if_pos h2] at h
        exact absurd rfl h
      · rfl
  repeat with_reducible refine aw_assoc ?_
  first | with_reducible refine aw_region0 (by decide +kernel) fun K' hK => ?_ | with_reducible refine aw_toS (aw_region0 (by decide +kernel) fun K' hK => ?_)
  simp []
  first | refine hK _ _ _ ?_ | done
  clear K' hK
  by_cases h12 : (12 : Int) < l.length
  · obtain ⟨h1, h2⟩ := hbad (fun h => by have := (code_iff.1 h).1; omega)
    repeat with_reducible refine aw_assoc ?_
    first | with_reducible refine aw_region0 (by decide +kernel) fun K' hK => ?_ | with_reducible refine aw_toS (aw_region0 (by decide +kernel) fun K' hK => ?_)
    simp [h12]
    first | refine hK _ _ _ ?_ | done
    clear K' hK
    repeat with_reducible refine aw_assoc ?_
    first | with_reducible refine aw_condP fun A B hA hB => ?_ | with_reducible refine aw_toS (aw_condP fun A B hA hB => ?_)
    simp []
    refine ⟨fun hc => hA ?_, fun hc => hB ?_⟩ <;> clear hA hB A B <;> (try (simp at hc; done)) <;> (try (exfalso; simp at hc; omega)) <;> clear hc <;> (try with_reducible refine aw_skip ?_)
    repeat with_reducible refine aw_assoc ?_
    first | with_reducible refine aw_region0 (by decide +kernel) fun K' hK => ?_ | with_reducible refine aw_toS (aw_region0 (by decide +kernel) fun K' hK => ?_)
    simp []
    first | refine hK _ _ _ ?_ | done
    clear K' hK
    repeat with_reducible refine aw_assoc ?_
    first | with_reducible refine aw_ret ?_ | with_reducible refine aw_retL ?_ | with_reducible refine aw_skipL ?_
    simp [blockK, loopK, Post, resA, res1, expT, expA, exp1, expM, expL, okT, okA, ok1, rowOf, Tryz.f64]
    rw [h1, h2]; simp
  repeat with_reducible refine aw_assoc ?_
  first | with_reducible refine aw_region0 (by decide +kernel) fun K' hK => ?_ | with_reducible refine aw_toS (aw_region0 (by decide +kernel) fun K' hK => ?_)
  simp [h12]
  first | refine hK _ _ _ ?_ | done
  clear K' hK
  repeat with_reducible refine aw_assoc ?_
  first | with_reducible refine aw_condP fun A B hA hB => ?_ | with_reducible refine aw_toS (aw_condP fun A B hA hB => ?_)
  simp []
  refine ⟨fun hc => hA ?_, fun hc => hB ?_⟩ <;> clear hA hB A B <;> (try (simp at hc; done)) <;> (try (exfalso; simp at hc; omega)) <;> clear hc <;> (try with_reducible refine aw_skip ?_)
  repeat with_reducible refine aw_assoc ?_
  first | with_reducible refine aw_region0 (by decide +kernel) fun K' hK => ?_ | with_reducible refine aw_toS (aw_region0 (by decide +kernel) fun K' hK => ?_)
  simp []
  first | refine hK _ _ _ ?_ | done
  clear K' hK
  repeat with_reducible refine aw_assoc ?_
  first | with_reducible refine aw_region0 (by decide +kernel) fun K' hK => ?_ | with_reducible refine aw_toS (aw_region0 (by decide +kernel) fun K' hK => ?_)
  simp []
  first | refine hK _ _ _ ?_ | done
  clear K' hK
  repeat with_reducible refine aw_assoc ?_
  first | with_reducible refine aw_block ?_ | with_reducible refine aw_toS (aw_block ?_)
  refine aw_loop (fun s G nx => s 0 = rowT sC l ∧ ∃ i : Nat, s 5 = iV i ∧ i ≤ l.length ∧ s 4 = sV (ofL (joinB (l.take i))) ∧ ∀ b ∈ l.take i, goodF (bsL b) = true) (fun s _ _ => match s 5 with | .v (.int _ n) => l.length - n.toNat | _ => 0) ?_ ?_
  · exact ⟨by simp, 0, by simp, by omega, by simp [joinB, Lib.join, List.intercalate, ofL], by simp⟩
  · rintro s G nx - ⟨s0, i, s5, hi, s4, hg⟩
    have hw : IntKind.i64.wrap (↑i + 1) = ((i + 1 : Nat) : Int) := wrapS (by omega)
    repeat with_reducible refine aw_assoc ?_
    first | with_reducible refine aw_region0 (by decide +kernel) fun K' hK => ?_ | with_reducible refine aw_toS (aw_region0 (by decide +kernel) fun K' hK => ?_)
    simp [s0, s5]
    first | refine hK _ _ _ ?_ | done
    clear K' hK
    repeat with_reducible refine aw_assoc ?_
    first | with_reducible refine aw_condP fun A B hA hB => ?_ | with_reducible refine aw_toS (aw_condP fun A B hA hB => ?_)
    simp []
    refine ⟨fun hi2 => hA ?_, fun hi2 => hB ?_⟩ <;> clear hA hB A B <;> (try simp at hi2) <;> (try with_reducible refine aw_skip ?_)
    · have hm := nth_mem hi2
      have htk : l.take (i + 1) = l.take i ++ [nth l i] := by
        rw [List.take_add_one, List.getElem?_eq_getElem hi2, ← nth_eq hi2]; rfl
      generalize hb : nth l i = b at hm htk
      have hsz := hs b hm
      repeat with_reducible refine aw_assoc ?_
      first | with_reducible refine aw_block ?_ | with_reducible refine aw_toS (aw_block ?_)
      repeat with_reducible refine aw_assoc ?_
      first | with_reducible refine aw_region0 (by decide +kernel) fun K' hK => ?_ | with_reducible refine aw_toS (aw_region0 (by decide +kernel) fun K' hK => ?_)
      simp [s0, s5, hi2, hb]
      refine acall_flat (good36_ok b (by omega)) rfl (by first | rfl | (simp []; done) | (simp []; rfl) | (simp []; exact ⟨rfl, rfl⟩)) ?_
      cases hgb : goodF (bsL b) with
      | false =>
        obtain ⟨h1, h2⟩ := hbad (fun h => by have := (code_iff.1 h).2 b hm; rw [hgb] at this; cases this)
        simp
        first | refine hK _ _ _ ?_ | done
        clear K' hK
        repeat with_reducible refine aw_assoc ?_
        first | with_reducible refine aw_condP fun A B hA hB => ?_ | with_reducible refine aw_toS (aw_condP fun A B hA hB => ?_)
        simp []
        refine ⟨fun hc => hA ?_, fun hc => hB ?_⟩ <;> clear hA hB A B <;> (try (simp at hc; done)) <;> (try (exfalso; simp at hc; omega)) <;> clear hc <;> (try with_reducible refine aw_skip ?_)
        repeat with_reducible refine aw_assoc ?_
        first | with_reducible refine aw_region0 (by decide +kernel) fun K' hK => ?_ | with_reducible refine aw_toS (aw_region0 (by decide +kernel) fun K' hK => ?_)
        simp []
        first | refine hK _ _ _ ?_ | done
        clear K' hK
        repeat with_reducible refine aw_assoc ?_
        first | with_reducible refine aw_ret ?_ | with_reducible refine aw_retL ?_ | with_reducible refine aw_skipL ?_
        simp [blockK, loopK, Post, resA, res1, expT, expA, exp1, expM, expL, okT, okA, ok1, rowOf, Tryz.f64]
        rw [h1, h2]; simp
      | true =>
        simp
        first | refine hK _ _ _ ?_ | done
        clear K' hK
        repeat with_reducible refine aw_assoc ?_
        first | with_reducible refine aw_condP fun A B hA hB => ?_ | with_reducible refine aw_toS (aw_condP fun A B hA hB => ?_)
        simp []
        refine ⟨fun hc => hA ?_, fun hc => hB ?_⟩ <;> clear hA hB A B <;> (try (simp at hc; done)) <;> (try (exfalso; simp at hc; omega)) <;> clear hc <;> (try with_reducible refine aw_skip ?_)
        have hjs := join_size (l := l.take i) (by rw [List.length_take]; omega) hg
        have hgl := good_len hgb
        have hbl := bsL_len b
        have hsn := join_snoc (b := b) (l := l.take i)
        repeat with_reducible refine aw_assoc ?_
        with_reducible refine aw_un ?_
        refine aw_cut (fun u H ny => u 0 = rowT sC l ∧ u 5 = iV i ∧ u 4 = sV (ofL (if l.take i = [] then [] else joinB (l.take i) ++ [47]))) ?_ ?_
        · by_cases hi0 : i = 0
          · subst hi0
            repeat with_reducible refine aw_assoc ?_
            first | with_reducible refine aw_region0 (by decide +kernel) fun K' hK => ?_ | with_reducible refine aw_toS (aw_region0 (by decide +kernel) fun K' hK => ?_)
            simp [s5]
            first | refine hK _ _ _ ?_ | done
            clear K' hK
            repeat with_reducible refine aw_assoc ?_
            first | with_reducible refine aw_condP fun A B hA hB => ?_ | with_reducible refine aw_toS (aw_condP fun A B hA hB => ?_)
            simp []
            refine ⟨fun hc => hA ?_, fun hc => hB ?_⟩ <;> clear hA hB A B <;> (try (simp at hc; done)) <;> (try (exfalso; simp at hc; omega)) <;> clear hc <;> (try with_reducible refine aw_skip ?_)
            with_reducible refine aw_end ?_
            simp [s0, s5, s4]
            rfl
          · have hi0' : (0 : Int) < i := by omega
            have hne : l.take i ≠ [] := by
              intro h
              have := congrArg List.length h
              rw [List.length_take, List.length_nil] at this
              omega
            have hf1 : Fits (ofL (joinB (l.take i))) ⟨#[47]⟩ := by
              unfold Fits
              rw [ofL_size]
              show _ + 1 ≤ _
              omega
            repeat with_reducible refine aw_assoc ?_
            first | with_reducible refine aw_region0 (by decide +kernel) fun K' hK => ?_ | with_reducible refine aw_toS (aw_region0 (by decide +kernel) fun K' hK => ?_)
            simp [s5, hi0']
            first | refine hK _ _ _ ?_ | done
            clear K' hK
            repeat with_reducible refine aw_assoc ?_
            first | with_reducible refine aw_condP fun A B hA hB => ?_ | with_reducible refine aw_toS (aw_condP fun A B hA hB => ?_)
            simp []
            refine ⟨fun hc => hA ?_, fun hc => hB ?_⟩ <;> clear hA hB A B <;> (try (simp at hc; done)) <;> (try (exfalso; simp at hc; omega)) <;> clear hc <;> (try with_reducible refine aw_skip ?_)
            repeat with_reducible refine aw_assoc ?_
            first | with_reducible refine aw_region0 (by decide +kernel) fun K' hK => ?_ | with_reducible refine aw_toS (aw_region0 (by decide +kernel) fun K' hK => ?_)
            simp [s4, hf1]
            first | refine hK _ _ _ ?_ | done
            clear K' hK
            with_reducible refine aw_end ?_
            rw [if_neg hne]
            simp [s0, s5]
            apply bsL_inj
            rw [bsL_app, bsL_ofL, bsL_ofL]; rfl
        rintro u H ny ⟨u0, u5, u4⟩
        generalize hJ : (if l.take i = [] then [] else joinB (l.take i) ++ [47]) = J at hsn u4
        have hJl : J.length ≤ 700 := by
          rw [← hJ]
          split
          · simp
          · rw [List.length_append]
            show _ + 1 ≤ 700
            omega
        have hf1 : Fits (ofL J) nmB := by
          unfold Fits
          rw [ofL_size]
          show _ + 13 ≤ _
          omega
        have hf2 : Fits (ofL J ++ nmB) b := by
          unfold Fits
          rw [app_size, ofL_size]
          show _ + 13 + _ ≤ _
          omega
        have enm : (⟨#[110, 111, 100, 101, 95, 109, 111, 100, 117, 108, 101, 115, 47]⟩ : Bs) = nmB := rfl
        repeat with_reducible refine aw_assoc ?_
        first | with_reducible refine aw_region0 (by decide +kernel) fun K' hK => ?_ | with_reducible refine aw_toS (aw_region0 (by decide +kernel) fun K' hK => ?_)
        simp [u0, u4, u5, hi2, hb, enm, hf1, hf2]
        first | refine hK _ _ _ ?_ | done
        clear K' hK
        first | with_reducible refine aw_skipL ?_ | skip
        refine blockK_normal ?_
        repeat with_reducible refine aw_assoc ?_
        first | with_reducible refine aw_region0 (by decide +kernel) fun K' hK => ?_ | with_reducible refine aw_toS (aw_region0 (by decide +kernel) fun K' hK => ?_)
        simp [u5, hw]
        first | refine hK _ _ _ ?_ | done
        clear K' hK
        refine aw_skipL (loopK_normal ?_ ?_)
        · refine ⟨by simp [u0], i + 1, by simp [hw], by omega, ?_, ?_⟩
          · rw [htk, hsn]
            simp
            apply bsL_inj
            rw [bsL_app, bsL_app, bsL_ofL, bsL_ofL]
            simp; rfl
          · intro x hx
            rw [htk] at hx
            rcases List.mem_append.1 hx with h | h
            · exact hg x h
            · rw [List.mem_singleton.1 h]; exact hgb
        · simp [s5, u5, hw]; omega
    · repeat with_reducible refine aw_assoc ?_
      first | with_reducible refine aw_exit ?_ | with_reducible refine aw_exitL ?_
      refine loopK_exit (blockK_exit ?_)
      have : i = l.length := by omega
      subst this
      rw [List.take_length] at s4 hg
      have hc := code_iff.2 ⟨by omega, hg⟩
      repeat with_reducible refine aw_assoc ?_
      first | with_reducible refine aw_region0 (by decide +kernel) fun K' hK => ?_ | with_reducible refine aw_toS (aw_region0 (by decide +kernel) fun K' hK => ?_)
      simp [s4]
      first | refine hK _ _ _ ?_ | done
      clear K' hK
      repeat with_reducible refine aw_assoc ?_
      first | with_reducible refine aw_ret ?_ | with_reducible refine aw_retL ?_ | with_reducible refine aw_skipL ?_
      simp [blockK, loopK, Post, resA, res1, expT, expA, exp1, expM, expL, okT, okA, ok1, rowOf, Tryz.f64]
      rw [hc, pathS_ok hc]; simp
theorem c9 : Tryz.prog.cellsOf 9 = 1 := by kernel_rfl
theorem src_row9 {G : Hp} {r : Nat} {L : List Bs} (h : G r = some (.row 9 (flat sC L))) : srcOf Tryz.prog G (.row r L.length) = some (L.length, flat sC L) := by
  rw [srcOf_row, treeOf_of h c9 rfl]; rfl
theorem pathof48_ok (t : List Pl) (g : Good t) (ht : OKs t) (i : Nat) (hi : i < t.length) : CallsOK Tryz.prog 48 [rowT Pl.cells t, iV i] (sV (pathS (pathL t i))) [] := by
  refine callsOK mixed Tryz.call48 Tryz.func48 rfl (by rw [Tryz.ntmps48]; simp) ?_ rfl
  rw [Tryz.ntmps48]
  have hshort := path_short g hi
  repeat with_reducible refine aw_assoc ?_
  first | with_reducible refine aw_region0 (by decide +kernel) fun K' hK => ?_ | with_reducible refine aw_toS (aw_region0 (by decide +kernel) fun K' hK => ?_)
  simp []
  first | refine hK _ _ _ ?_ | done
  clear K' hK
  repeat with_reducible refine aw_assoc ?_
  first | with_reducible refine aw_region0 (by decide +kernel) fun K' hK => ?_ | with_reducible refine aw_toS (aw_region0 (by decide +kernel) fun K' hK => ?_)
  simp []
  first | refine hK _ _ _ ?_ | done
  clear K' hK
  repeat with_reducible refine aw_assoc ?_
  first | with_reducible refine aw_block ?_ | with_reducible refine aw_toS (aw_block ?_)
  refine aw_loop (fun s G nx => s 0 = rowT Pl.cells t ∧ ∃ (j r : Nat) (L : List Bs), s 1 = iV j ∧ j < t.length ∧ pathL t i = pathL t j ++ L ∧ s 5 = .row r L.length ∧ G r = some (.row 9 (flat sC L)) ∧ r < nx) (fun s _ _ => match s 1 with | .v (.int _ n) => n.toNat | _ => 0) ?_ ?_
  · exact ⟨by simp, i, 0, [], by simp, hi, by simp, by simp, by simp, by omega⟩
  · rintro s G nx - ⟨s0, j, r, L, s1, hj, hL, s5, hr, hrn⟩
    have o1 := s1
    repeat with_reducible refine aw_assoc ?_
    first | with_reducible refine aw_region0 (by decide +kernel) fun K' hK => ?_ | with_reducible refine aw_toS (aw_region0 (by decide +kernel) fun K' hK => ?_)
    simp [s1]
    first | refine hK _ _ _ ?_ | done
    clear K' hK
    by_cases hj0 : (0 : Int) < j
    · have hp := g.par j (by omega) hj
      obtain ⟨k, hk⟩ : ∃ k : Nat, parN t j = k := ⟨(parN t j).toNat, by omega⟩
      have hkp : (nth t j).par = k := hk
      have hst := path_step g (by omega) hj
      rw [hk, Int.toNat_natCast] at hst
      rw [hst, List.append_assoc] at hL
      have hll : L.length ≤ 12 := by
        have := congrArg List.length hL
        simp at this; omega
      generalize hb : (nth t j).name = b at hst hL
      have b1 : L.length + 1 ≤ 9223372036854775807 := by omega
      have b2 : (L.length + 1) * 16 ≤ 140737488355328 := by omega
      repeat with_reducible refine aw_assoc ?_
      first | with_reducible refine aw_condP fun A B hA hB => ?_ | with_reducible refine aw_toS (aw_condP fun A B hA hB => ?_)
      simp [hj0]
      refine ⟨fun hc => hA ?_, fun hc => hB ?_⟩ <;> clear hA hB A B <;> (try (simp at hc; done)) <;> (try (exfalso; simp at hc; omega)) <;> clear hc <;> (try with_reducible refine aw_skip ?_)
      repeat with_reducible refine aw_assoc ?_
      first | with_reducible refine aw_block ?_ | with_reducible refine aw_toS (aw_block ?_)
      repeat with_reducible refine aw_assoc ?_
      refine aw_cut (fun u H ny => u 0 = rowT Pl.cells t ∧ u 1 = iV j ∧ u 5 = .row r L.length ∧ H r = some (.row 9 (flat sC L)) ∧ ∃ q, u 6 = .row q 1 ∧ H q = some (.row 9 (flat sC [b])) ∧ q < ny ∧ r ≠ q ∧ r < ny) ?_ ?_
      · repeat with_reducible refine aw_assoc ?_
        first | with_reducible refine aw_region0 (by decide +kernel) fun K' hK => ?_ | with_reducible refine aw_toS (aw_region0 (by decide +kernel) fun K' hK => ?_)
        simp [s0, s1, hj, hb]
        first | refine hK _ _ _ ?_ | done
        clear K' hK
        with_reducible refine aw_end ?_
        exact ⟨by simp [s0], by simp [s1], by simp [s5], by rw [Hp.upd_ne _ _ (by omega)]; exact hr, nx, by simp, by simp; rfl, by omega, by omega, by omega⟩
      rintro u H ny ⟨u0, u1, u5, hr, q, u6, hq, hqn, hrq, hrn⟩
      have c1 : 1 + L.length ≤ 9223372036854775807 := by omega
      have c2 : (1 + L.length) * 16 ≤ 140737488355328 := by omega
      have n1 : ¬ r = ny := by omega
      have n2 : ¬ q = ny := by omega
      have n3 : ¬ q = r := by omega
      have hfl : (flat sC L).length = L.length := by rw [flat_sC]; simp
      have hsrc := src_row9 hr
      repeat with_reducible refine aw_assoc ?_
      first | with_reducible refine aw_region0 (by decide +kernel) fun K' hK => ?_ | with_reducible refine aw_toS (aw_region0 (by decide +kernel) fun K' hK => ?_)
      simp [u5, u6, hq, c1, c2, n1, n2, n3, hsrc, hfl]
      first | refine hK _ _ _ ?_ | done
      clear K' hK
      repeat with_reducible refine aw_assoc ?_
      first | with_reducible refine aw_region0 (by decide +kernel) fun K' hK => ?_ | with_reducible refine aw_toS (aw_region0 (by decide +kernel) fun K' hK => ?_)
      simp []
      first | refine hK _ _ _ ?_ | done
      clear K' hK
      repeat with_reducible refine aw_assoc ?_
      first | with_reducible refine aw_region0 (by decide +kernel) fun K' hK => ?_ | with_reducible refine aw_toS (aw_region0 (by decide +kernel) fun K' hK => ?_)
      simp [u0, u1, hj, hkp]
      first | refine hK _ _ _ ?_ | done
      clear K' hK
      first | with_reducible refine aw_skipL ?_ | skip
      refine blockK_normal ?_
      refine aw_skipL (loopK_normal ?_ ?_)
      · refine ⟨by simp [u0], k, ny, [b] ++ L, by simp, by omega, hL, ?_, ?_, by omega⟩
        · simp; omega
        · rw [Hp.upd_self, ← flat_app]
      · simp [o1]; omega
    · have : j = 0 := by omega
      subst this
      rw [path_zero g, List.nil_append] at hL
      have htr : treeOf Tryz.prog G (.row r L.length) = some (rowT sC L) := treeOf_of hr c9 rfl
      repeat with_reducible refine aw_assoc ?_
      first | with_reducible refine aw_condP fun A B hA hB => ?_ | with_reducible refine aw_toS (aw_condP fun A B hA hB => ?_)
      simp [hj0]
      refine ⟨fun hc => hA ?_, fun hc => hB ?_⟩ <;> clear hA hB A B <;> (try (simp at hc; done)) <;> (try (exfalso; simp at hc; omega)) <;> clear hc <;> (try with_reducible refine aw_skip ?_)
      repeat with_reducible refine aw_assoc ?_
      first | with_reducible refine aw_exit ?_ | with_reducible refine aw_exitL ?_
      refine loopK_exit (blockK_exit ?_)
      repeat with_reducible refine aw_assoc ?_
      first | with_reducible refine aw_region0 (by decide +kernel) fun K' hK => ?_ | with_reducible refine aw_toS (aw_region0 (by decide +kernel) fun K' hK => ?_)
      simp [s5]
      refine acall_flat (path64_ok L (by rw [← hL]; omega) (fun b hb => ?_)) rfl (by first | rfl | (simp [htr]; done) | (simp [htr]; rfl) | (simp [htr]; exact ⟨rfl, rfl⟩)) ?_
      · have := path_good g _ (Nat.lt_succ_self i) hi b (by rw [hL]; exact hb)
        have := good_len this
        rw [bsL_len] at this
        omega
      rw [← hL]
      simp
      first | refine hK _ _ _ ?_ | done
      clear K' hK
      repeat with_reducible refine aw_assoc ?_
      first | with_reducible refine aw_region0 (by decide +kernel) fun K' hK => ?_ | with_reducible refine aw_toS (aw_region0 (by decide +kernel) fun K' hK => ?_)
      simp []
      first | refine hK _ _ _ ?_ | done
      clear K' hK
      repeat with_reducible refine aw_assoc ?_
      first | with_reducible refine aw_ret ?_ | with_reducible refine aw_retL ?_ | with_reducible refine aw_skipL ?_
      simp [blockK, loopK, Post, resA, res1, expT, expA, exp1, expM, expL, okT, okA, ok1, rowOf, Tryz.f48]
theorem path23_ok (t : List Pl) (ht : OKs t) (i : Int) : CallsOK Tryz.prog 23 [rowT Pl.cells t, iV i] (.tup [sV (pathOf t i), bV (holdsF t i)]) [] := by
  refine callsOK mixed Tryz.call23 Tryz.func23 rfl (by rw [Tryz.ntmps23]; simp) ?_ rfl
  rw [Tryz.ntmps23]
  repeat with_reducible refine aw_assoc ?_
  first | with_reducible refine aw_region0 (by decide +kernel) fun K' hK => ?_ | with_reducible refine aw_toS (aw_region0 (by decide +kernel) fun K' hK => ?_)
  simp []
  first | refine hK _ _ _ ?_ | done
  clear K' hK
  repeat with_reducible refine aw_assoc ?_
  first | with_reducible refine aw_region0 (by decide +kernel) fun K' hK => ?_ | with_reducible refine aw_toS (aw_region0 (by decide +kernel) fun K' hK => ?_)
  simp []
  refine acall_flat (there47_ok t ht i) rfl (by first | rfl | (simp []; done) | (simp []; rfl) | (simp []; exact ⟨rfl, rfl⟩)) ?_
  cases hh : holdsF t i with
  | false =>
    simp
    first | refine hK _ _ _ ?_ | done
    clear K' hK
    repeat with_reducible refine aw_assoc ?_
    first | with_reducible refine aw_condP fun A B hA hB => ?_ | with_reducible refine aw_toS (aw_condP fun A B hA hB => ?_)
    simp []
    refine ⟨fun hc => hA ?_, fun hc => hB ?_⟩ <;> clear hA hB A B <;> (try (simp at hc; done)) <;> (try (exfalso; simp at hc; omega)) <;> clear hc <;> (try with_reducible refine aw_skip ?_)
    repeat with_reducible refine aw_assoc ?_
    first | with_reducible refine aw_region0 (by decide +kernel) fun K' hK => ?_ | with_reducible refine aw_toS (aw_region0 (by decide +kernel) fun K' hK => ?_)
    simp []
    first | refine hK _ _ _ ?_ | done
    clear K' hK
    repeat with_reducible refine aw_assoc ?_
    first | with_reducible refine aw_ret ?_ | with_reducible refine aw_retL ?_ | with_reducible refine aw_skipL ?_
    simp [blockK, loopK, Post, resA, res1, expT, expA, exp1, expM, expL, okT, okA, ok1, rowOf, Tryz.f23]
    simp [pathOf, hh]
  | true =>
    obtain ⟨g, h0, h1⟩ := holds_iff.1 hh
    obtain ⟨n, rfl⟩ : ∃ n : Nat, i = n := ⟨i.toNat, by omega⟩
    simp
    first | refine hK _ _ _ ?_ | done
    clear K' hK
    repeat with_reducible refine aw_assoc ?_
    first | with_reducible refine aw_condP fun A B hA hB => ?_ | with_reducible refine aw_toS (aw_condP fun A B hA hB => ?_)
    simp []
    refine ⟨fun hc => hA ?_, fun hc => hB ?_⟩ <;> clear hA hB A B <;> (try (simp at hc; done)) <;> (try (exfalso; simp at hc; omega)) <;> clear hc <;> (try with_reducible refine aw_skip ?_)
    repeat with_reducible refine aw_assoc ?_
    first | with_reducible refine aw_region0 (by decide +kernel) fun K' hK => ?_ | with_reducible refine aw_toS (aw_region0 (by decide +kernel) fun K' hK => ?_)
    simp []
    refine acall_flat (pathof48_ok t g ht n (by omega)) rfl (by first | rfl | (simp []; done) | (simp []; rfl) | (simp []; exact ⟨rfl, rfl⟩)) ?_
    simp
    first | refine hK _ _ _ ?_ | done
    clear K' hK
    repeat with_reducible refine aw_assoc ?_
    first | with_reducible refine aw_ret ?_ | with_reducible refine aw_retL ?_ | with_reducible refine aw_skipL ?_
    simp [blockK, loopK, Post, resA, res1, expT, expA, exp1, expM, expL, okT, okA, ok1, rowOf, Tryz.f23]
    simp [pathOf, hh]
theorem find_nat {t : List Pl} {s : Bs} {i : Nat} (g : Good t) (hi : i < t.length) (h : pathS (pathL t i) = s) : findF t s = some (i : Int) := find_iff.2 ⟨g, i, rfl, hi, h⟩
theorem find24_ok (t : List Pl) (ht : OKs t) (s : Bs) : CallsOK Tryz.prog 24 [rowT Pl.cells t, sV s] (.tup [iV ((findF t s).getD 0), bV (findF t s).isSome]) [] := by
  refine callsOK mixed Tryz.call24 Tryz.func24 rfl (by rw [Tryz.ntmps24]; simp) ?_ rfl
  rw [Tryz.ntmps24]
  have hl := ht.1
  repeat with_reducible refine aw_assoc ?_
  first | with_reducible refine aw_region0 (by decide +kernel) fun K' hK => ?_ | with_reducible refine aw_toS (aw_region0 (by decide +kernel) fun K' hK => ?_)
  simp []
  first | refine hK _ _ _ ?_ | done
  clear K' hK
  repeat with_reducible refine aw_assoc ?_
  first | with_reducible refine aw_region0 (by decide +kernel) fun K' hK => ?_ | with_reducible refine aw_toS (aw_region0 (by decide +kernel) fun K' hK => ?_)
  simp []
  first | refine hK _ _ _ ?_ | done
  clear K' hK
  repeat with_reducible refine aw_assoc ?_
  first | with_reducible refine aw_block ?_ | with_reducible refine aw_toS (aw_block ?_)
  refine aw_loop (fun u G nx => u 0 = rowT Pl.cells t ∧ u 1 = sV s ∧ ∃ i : Nat, u 6 = iV i ∧ i ≤ t.length ∧ (Good t → ∀ j, j < i → pathS (pathL t j) ≠ s) ∧ (i = 0 ∨ Good t)) (fun u _ _ => match u 6 with | .v (.int _ n) => t.length - n.toNat | _ => 0) ?_ ?_
  · exact ⟨by simp, by simp, 0, by simp, by omega, fun _ j hj => by omega, .inl rfl⟩
  · rintro u G nx - ⟨u0, u1, i, u6, hi, hn, hg⟩
    have hw : IntKind.i64.wrap (↑i + 1) = ((i + 1 : Nat) : Int) := wrapS (by omega)
    by_cases hi2 : i < t.length
    · by_cases hc : checkN t = 0
      · have g := check_iff.1 hc
        repeat with_reducible refine aw_assoc ?_
        first | with_reducible refine aw_region0 (by decide +kernel) fun K' hK => ?_ | with_reducible refine aw_toS (aw_region0 (by decide +kernel) fun K' hK => ?_)
        simp [u0, u6, hi2]
        refine acall_flat (check25_ok t ht) rfl (by first | rfl | (simp []; done) | (simp []; rfl) | (simp []; exact ⟨rfl, rfl⟩)) ?_
        simp [hc]
        first | refine hK _ _ _ ?_ | done
        clear K' hK
        repeat with_reducible refine aw_assoc ?_
        first | with_reducible refine aw_condP fun A B hA hB => ?_ | with_reducible refine aw_toS (aw_condP fun A B hA hB => ?_)
        simp []
        refine ⟨fun hc => hA ?_, fun hc => hB ?_⟩ <;> clear hA hB A B <;> (try (simp at hc; done)) <;> (try (exfalso; simp at hc; omega)) <;> clear hc <;> (try with_reducible refine aw_skip ?_)
        repeat with_reducible refine aw_assoc ?_
        first | with_reducible refine aw_block ?_ | with_reducible refine aw_toS (aw_block ?_)
        repeat with_reducible refine aw_assoc ?_
        first | with_reducible refine aw_region0 (by decide +kernel) fun K' hK => ?_ | with_reducible refine aw_toS (aw_region0 (by decide +kernel) fun K' hK => ?_)
        simp [u0, u6, u1]
        refine acall_flat (pathof48_ok t g ht i hi2) rfl (by first | rfl | (simp []; done) | (simp []; rfl) | (simp []; exact ⟨rfl, rfl⟩)) ?_
        by_cases hp : pathS (pathL t i) = s
        · simp [hp, u1]
          first | refine hK _ _ _ ?_ | done
          clear K' hK
          repeat with_reducible refine aw_assoc ?_
          first | with_reducible refine aw_condP fun A B hA hB => ?_ | with_reducible refine aw_toS (aw_condP fun A B hA hB => ?_)
          simp []
          refine ⟨fun hc => hA ?_, fun hc => hB ?_⟩ <;> clear hA hB A B <;> (try (simp at hc; done)) <;> (try (exfalso; simp at hc; omega)) <;> clear hc <;> (try with_reducible refine aw_skip ?_)
          repeat with_reducible refine aw_assoc ?_
          first | with_reducible refine aw_region0 (by decide +kernel) fun K' hK => ?_ | with_reducible refine aw_toS (aw_region0 (by decide +kernel) fun K' hK => ?_)
          simp [u6]
          first | refine hK _ _ _ ?_ | done
          clear K' hK
          repeat with_reducible refine aw_assoc ?_
          first | with_reducible refine aw_ret ?_ | with_reducible refine aw_retL ?_ | with_reducible refine aw_skipL ?_
          simp [blockK, loopK, Post, resA, res1, expT, expA, exp1, expM, expL, okT, okA, ok1, rowOf, Tryz.f24]
          rw [find_nat g hi2 hp]; simp
        · simp [hp, u1]
          first | refine hK _ _ _ ?_ | done
          clear K' hK
          repeat with_reducible refine aw_assoc ?_
          first | with_reducible refine aw_condP fun A B hA hB => ?_ | with_reducible refine aw_toS (aw_condP fun A B hA hB => ?_)
          simp []
          refine ⟨fun hc => hA ?_, fun hc => hB ?_⟩ <;> clear hA hB A B <;> (try (simp at hc; done)) <;> (try (exfalso; simp at hc; omega)) <;> clear hc <;> (try with_reducible refine aw_skip ?_)
          first | with_reducible refine aw_skipL ?_ | skip
          refine blockK_normal ?_
          repeat with_reducible refine aw_assoc ?_
          first | with_reducible refine aw_region0 (by decide +kernel) fun K' hK => ?_ | with_reducible refine aw_toS (aw_region0 (by decide +kernel) fun K' hK => ?_)
          simp [u6, hw]
          first | refine hK _ _ _ ?_ | done
          clear K' hK
          refine aw_skipL (loopK_normal ?_ ?_)
          · refine ⟨by simp [u0], by simp [u1], i + 1, by simp [hw], by omega, fun _ j hj => ?_, .inr g⟩
            rcases Nat.lt_or_ge j i with h | h
            · exact hn g j h
            · have : j = i := by omega
              subst this; exact hp
          · simp [u6, hw]; omega
      · have hf : findF t s = none := by
          cases h : findF t s with
          | none => rfl
          | some k => exact absurd (check_iff.2 (find_iff.1 h).1) hc
        repeat with_reducible refine aw_assoc ?_
        first | with_reducible refine aw_region0 (by decide +kernel) fun K' hK => ?_ | with_reducible refine aw_toS (aw_region0 (by decide +kernel) fun K' hK => ?_)
        simp [u0, u6, hi2]
        refine acall_flat (check25_ok t ht) rfl (by first | rfl | (simp []; done) | (simp []; rfl) | (simp []; exact ⟨rfl, rfl⟩)) ?_
        simp [hc]
        first | refine hK _ _ _ ?_ | done
        clear K' hK
        repeat with_reducible refine aw_assoc ?_
        first | with_reducible refine aw_condP fun A B hA hB => ?_ | with_reducible refine aw_toS (aw_condP fun A B hA hB => ?_)
        simp []
        refine ⟨fun hc => hA ?_, fun hc => hB ?_⟩ <;> clear hA hB A B <;> (try (simp at hc; done)) <;> (try (exfalso; simp at hc; omega)) <;> clear hc <;> (try with_reducible refine aw_skip ?_)
        repeat with_reducible refine aw_assoc ?_
        first | with_reducible refine aw_exit ?_ | with_reducible refine aw_exitL ?_
        refine loopK_exit (blockK_exit ?_)
        repeat with_reducible refine aw_assoc ?_
        first | with_reducible refine aw_region0 (by decide +kernel) fun K' hK => ?_ | with_reducible refine aw_toS (aw_region0 (by decide +kernel) fun K' hK => ?_)
        simp []
        first | refine hK _ _ _ ?_ | done
        clear K' hK
        repeat with_reducible refine aw_assoc ?_
        first | with_reducible refine aw_ret ?_ | with_reducible refine aw_retL ?_ | with_reducible refine aw_skipL ?_
        simp [blockK, loopK, Post, resA, res1, expT, expA, exp1, expM, expL, okT, okA, ok1, rowOf, Tryz.f24]
        rw [hf]; simp
    · have hf : findF t s = none := by
        cases h : findF t s with
        | none => rfl
        | some k =>
          obtain ⟨g, j, rfl, hj, hp⟩ := find_iff.1 h
          exact absurd hp (hn g j (by omega))
      repeat with_reducible refine aw_assoc ?_
      first | with_reducible refine aw_region0 (by decide +kernel) fun K' hK => ?_ | with_reducible refine aw_toS (aw_region0 (by decide +kernel) fun K' hK => ?_)
      simp [u0, u6, hi2]
      first | refine hK _ _ _ ?_ | done
      clear K' hK
      repeat with_reducible refine aw_assoc ?_
      first | with_reducible refine aw_condP fun A B hA hB => ?_ | with_reducible refine aw_toS (aw_condP fun A B hA hB => ?_)
      simp []
      refine ⟨fun hc => hA ?_, fun hc => hB ?_⟩ <;> clear hA hB A B <;> (try (simp at hc; done)) <;> (try (exfalso; simp at hc; omega)) <;> clear hc <;> (try with_reducible refine aw_skip ?_)
      repeat with_reducible refine aw_assoc ?_
      first | with_reducible refine aw_exit ?_ | with_reducible refine aw_exitL ?_
      refine loopK_exit (blockK_exit ?_)
      repeat with_reducible refine aw_assoc ?_
      first | with_reducible refine aw_region0 (by decide +kernel) fun K' hK => ?_ | with_reducible refine aw_toS (aw_region0 (by decide +kernel) fun K' hK => ?_)
      simp []
      first | refine hK _ _ _ ?_ | done
      clear K' hK
      repeat with_reducible refine aw_assoc ?_
      first | with_reducible refine aw_ret ?_ | with_reducible refine aw_retL ?_ | with_reducible refine aw_skipL ?_
      simp [blockK, loopK, Post, resA, res1, expT, expA, exp1, expM, expL, okT, okA, ok1, rowOf, Tryz.f24]
      rw [hf]; simp
end Go.Proofs.YtomidniaekeafaaGreatDoorAbs
