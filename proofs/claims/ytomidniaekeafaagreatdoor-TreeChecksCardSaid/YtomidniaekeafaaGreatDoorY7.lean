/- TreePaths. -/
import Derived.Test.YtomidniaekeafaaGreatDoorY6
import Derived.Test.YtomidniaekeafaaGreatDoorY3
/- slices.Reverse. -/
namespace Go.Proofs.YtomidniaekeafaaGreatDoorAbs
set_option linter.unusedSimpArgs false
set_option linter.unusedVariables false
open Go Go.RowKit Go.Proofs
set_option maxRecDepth 100000
set_option maxHeartbeats 1000000
@[simp] theorem elI67 : elI Tryz.prog 67 = some (9, 1, 16, [.string ⟨#[]⟩]) := by kernel_rfl
theorem nth_set {l : List Bs} {i k : Nat} {a : Bs} (hi : i < l.length) : nth (l.set i a) k = if k = i then a else nth l k := by
  unfold nth
  rw [List.getD_eq_getElem?_getD, List.getD_eq_getElem?_getD, List.getElem?_set]
  by_cases h : i = k
  · subst h; simp [hi]
  · have h' : ¬ k = i := fun e => h e.symm
    simp [h, h']
theorem reverse61 {l : List Bs} (hl : l.length ≤ 1000000000) {G : Hp} {nx r : Nat} (hG : G r = some (.row 9 (flat sC l))) {K : AV → Hp → Nat → Prop} (hK0 : ∀ G', (∀ j, j ≠ r → G' j = G j) → G' r = some (.row 9 (flat sC l.reverse)) → K (.tup []) G' nx) : InlK Tryz.prog 61 [.row r l.length] K G nx := by
  refine inlK mixed Tryz.call61 Tryz.func61 rfl (by rw [Tryz.ntmps61]; simp) fun hf => ?_
  rw [Tryz.ntmps61]
  have hr : r < nx := fresh_lt hf hG
  have hw0 : IntKind.i64.wrap ((l.length : Int) - 1) = (l.length : Int) - 1 := wrap64 (by omega) (by omega)
  repeat with_reducible refine aw_assoc ?_
  first | with_reducible refine aw_region0 (by decide +kernel) fun K' hK => ?_ | with_reducible refine aw_toS (aw_region0 (by decide +kernel) fun K' hK => ?_)
  simp [hG, hw0]
  first | refine hK _ _ _ ?_ | done
  clear K' hK
  repeat with_reducible refine aw_assoc ?_
  first | with_reducible refine aw_block ?_ | with_reducible refine aw_toS (aw_block ?_)
  refine aw_loop (fun s G' nx' => s 0 = .row r l.length ∧ nx' = nx ∧ (∀ j, j ≠ r → G' j = G j) ∧ ∃ i : Nat, s 2 = iV i ∧ s 3 = iV ((l.length : Int) - 1 - i) ∧ 2 * i ≤ l.length + 1 ∧ ∃ m : List Bs, G' r = some (.row 9 (flat sC m)) ∧ m.length = l.length ∧ ∀ k, k < l.length → nth m k = if k < i ∨ l.length - i ≤ k then nth l (l.length - 1 - k) else nth l k) (fun s _ _ => match s 2 with | .v (.int _ n) => l.length - n.toNat | _ => 0) ?_ ?_
  · refine ⟨by simp, rfl, fun _ _ => rfl, 0, by simp, by simp, by omega, l, hG, rfl, fun k hk => ?_⟩
    rw [if_neg (by omega)]
  · rintro s G' nx' - ⟨s0, rfl, hag, i, s2, s3, hi, m, gr, hm, hmk⟩
    repeat with_reducible refine aw_assoc ?_
    first | with_reducible refine aw_region0 (by decide +kernel) fun K' hK => ?_ | with_reducible refine aw_toS (aw_region0 (by decide +kernel) fun K' hK => ?_)
    simp [s2, s3]
    first | refine hK _ _ _ ?_ | done
    clear K' hK
    repeat with_reducible refine aw_assoc ?_
    first | with_reducible refine aw_condP fun A B hA hB => ?_ | with_reducible refine aw_toS (aw_condP fun A B hA hB => ?_)
    simp []
    refine ⟨fun hlt => hA ?_, fun hlt => hB ?_⟩ <;> clear hA hB A B <;> (try simp at hlt) <;> (try with_reducible refine aw_skip ?_)
    · repeat with_reducible refine aw_assoc ?_
      first | with_reducible refine aw_block ?_ | with_reducible refine aw_toS (aw_block ?_)
      have h1 : i < m.length := by omega
      have h2 : (i : Int) < l.length := by omega
      obtain ⟨j, hj⟩ : ∃ j : Nat, (l.length : Int) - 1 - i = j := ⟨l.length - 1 - i, by omega⟩
      have h3 : j < m.length := by omega
      have h4 : (j : Int) < l.length := by omega
      rw [hj] at s3
      have hp1 : putO (flat sC m) 1 i 0 [sV (nth m j)] = flat sC (m.set i (nth m j)) := putO_flat h1 (nth m j)
      have h5 : j < (m.set i (nth m j)).length := by simpa using h3
      have hp2 : putO (flat sC (m.set i (nth m j))) 1 j 0 [sV (nth m i)] = flat sC ((m.set i (nth m j)).set j (nth m i)) := putO_flat h5 (nth m i)
      have h6 : i < (m.set i (nth m j)).length := by simpa using h1
      repeat with_reducible refine aw_assoc ?_
      first | with_reducible refine aw_region1 (by decide +kernel) (by decide +kernel) fun K' hK => ?_ | with_reducible refine aw_toS (aw_region1 (by decide +kernel) (by decide +kernel) fun K' hK => ?_)
      simp (maxSteps := 1000000) [s0, s2, s3, gr, h1, h2, h3, h4, h5, h6, hp1, hp2]
      first | refine hK _ _ _ ?_ | done
      clear K' hK
      have hw1 : IntKind.i64.wrap ((i : Int) + 1) = ((i + 1 : Nat) : Int) := wrapS (by omega)
      have hw2 : IntKind.i64.wrap ((j : Int) - 1) = (l.length : Int) - 1 - (i + 1 : Nat) := by rw [wrap64 (by omega) (by omega)]; omega
      first | with_reducible refine aw_skipL ?_ | skip
      refine blockK_normal ?_
      repeat with_reducible refine aw_assoc ?_
      first | with_reducible refine aw_region0 (by decide +kernel) fun K' hK => ?_ | with_reducible refine aw_toS (aw_region0 (by decide +kernel) fun K' hK => ?_)
      simp [s2, s3, hw1, hw2]
      first | refine hK _ _ _ ?_ | done
      clear K' hK
      refine aw_skipL (loopK_normal ?_ ?_)
      · refine ⟨by simp [s0], rfl, fun k hk => by rw [Hp.upd_ne _ _ hk, Hp.upd_ne _ _ hk]; exact hag k hk, i + 1, by simp [hw1], by simp [hw2], by omega, (m.set i (nth m j)).set j (nth m i), by simp, by simp [hm], fun k hk => ?_⟩
        rw [nth_set h5, nth_set h1, hmk k hk, hmk i (by omega), hmk j (by omega)]
        have e1 : ¬ (i < i ∨ l.length - i ≤ i) := by omega
        have e2 : ¬ (j < i ∨ l.length - i ≤ j) := by omega
        rw [if_neg e1, if_neg e2]
        by_cases q1 : k = j
        · subst q1
          rw [if_pos rfl, if_pos (by omega)]
          congr 1; omega
        · rw [if_neg q1]
          by_cases q2 : k = i
          · subst q2
            rw [if_pos rfl, if_pos (by omega)]
            congr 1; omega
          · rw [if_neg q2]
            by_cases q3 : k < i ∨ l.length - i ≤ k
            · rw [if_pos q3, if_pos (by omega)]
            · rw [if_neg q3, if_neg (by omega)]
      · simp [s2, hw1]; omega
    · repeat with_reducible refine aw_assoc ?_
      first | with_reducible refine aw_exit ?_ | with_reducible refine aw_exitL ?_
      refine loopK_exit (blockK_exit ?_)
      refine aw_skipL ?_
      refine ⟨.inl rfl, .tup [], rfl, hK0 _ hag ?_⟩
      rw [gr]
      congr 3
      have hlr : m.length = l.reverse.length := by rw [hm, List.length_reverse]
      refine List.ext_getElem hlr fun k h1 h2 => ?_
      have h3 := hmk k (by omega)
      rw [nth_eq h1] at h3
      rw [h3, List.getElem_reverse]
      by_cases q : k < i ∨ l.length - i ≤ k
      · rw [if_pos q, nth_eq (by omega)]
      · rw [if_neg q, nth_eq (by omega)]
        congr 1; omega
end Go.Proofs.YtomidniaekeafaaGreatDoorAbs
/- names.Path. -/
namespace Go.Proofs.YtomidniaekeafaaGreatDoorAbs
set_option linter.unusedSimpArgs false
set_option linter.unusedVariables false
open Go Go.RowKit Go.Proofs
set_option maxRecDepth 100000
set_option maxHeartbeats 1000000
def nmB : Bs := ⟨#[110, 111, 100, 101, 95, 109, 111, 100, 117, 108, 101, 115, 47]⟩
def preB (b : Bs) : Bs := nmB ++ b
def pathCode (l : List Bs) : Int := if 12 < l.length then 30 else if l.all (fun b => goodF (bsL b)) then 0 else 30
def pathS (l : List Bs) : Bs := if pathCode l = 0 then ofL (Lib.join (l.map fun b => bsL (preB b)) [47]) else ⟨#[]⟩
theorem join_len (sep : List UInt8) (n : Nat) : ∀ (xs : List (List UInt8)), (∀ x ∈ xs, x.length ≤ n) → (Lib.join xs sep).length ≤ xs.length * (n + sep.length)
  | [], _ => by simp [Lib.join, List.intercalate]
  | [x], h => by
    have := h x (by simp)
    simp [Lib.join, List.intercalate]; omega
  | x :: y :: xs, h => by
    have h1 := h x (by simp)
    have ih := join_len sep n (y :: xs) (fun z hz => h z (List.mem_cons_of_mem _ hz))
    have e : Lib.join (x :: y :: xs) sep = x ++ (sep ++ Lib.join (y :: xs) sep) := by
      simp [Lib.join, List.intercalate]
    rw [e, List.length_append, List.length_append, List.length_cons, Nat.add_mul]
    omega
theorem good_len {l : List UInt8} (h : goodF l = true) : l.length ≤ 40 := by
  unfold goodF at h
  split at h
  · cases h
  · omega
theorem path62_ok (l : List Bs) (hl : l.length ≤ 1000000000) (hs : ∀ b ∈ l, b.size ≤ 4000000000) : CallsOK Tryz.prog 62 [rowT sC l] (.tup [sV (pathS l), iV (pathCode l)]) [] := by
  refine callsOK mixed Tryz.call62 Tryz.func62 rfl (by rw [Tryz.ntmps62]; simp) ?_ rfl
  rw [Tryz.ntmps62]
  repeat with_reducible refine aw_assoc ?_
  first | with_reducible refine aw_region0 (by decide +kernel) fun K' hK => ?_ | with_reducible refine aw_toS (aw_region0 (by decide +kernel) fun K' hK => ?_)
  simp []
  first | refine hK _ _ _ ?_ | done
  clear K' hK
  repeat with_reducible refine aw_assoc ?_
  first | with_reducible refine aw_region0 (by decide +kernel) fun K' hK => ?_ | with_reducible refine aw_toS (aw_region0 (by decide +kernel) fun K' hK => ?_)
  simp []
  first | refine hK _ _ _ ?_ | done
  clear K' hK
  by_cases h12 : (12 : Int) < l.length
  · repeat with_reducible refine aw_assoc ?_
    first | with_reducible refine aw_condP fun A B hA hB => ?_ | with_reducible refine aw_toS (aw_condP fun A B hA hB => ?_)
    simp [h12]
    refine ⟨fun hc => hA ?_, fun hc => hB ?_⟩ <;> clear hA hB A B <;> (try (simp at hc; done)) <;> (try (exfalso; simp at hc; omega)) <;> clear hc <;> (try with_reducible refine aw_skip ?_)
    repeat with_reducible refine aw_assoc ?_
    first | with_reducible refine aw_region0 (by decide +kernel) fun K' hK => ?_ | with_reducible refine aw_toS (aw_region0 (by decide +kernel) fun K' hK => ?_)
    simp []
    first | refine hK _ _ _ ?_ | done
    clear K' hK
    repeat with_reducible refine aw_assoc ?_
    first | with_reducible refine aw_ret ?_ | with_reducible refine aw_retL ?_ | with_reducible refine aw_skipL ?_
    simp [blockK, loopK, Post, resA, res1, expT, expA, exp1, expM, expL, okT, okA, ok1, rowOf, Tryz.f62]
    have e1 : pathCode l = 30 := by rw [pathCode, if_pos (by omega)]
    rw [pathS, e1]; exact ⟨rfl, rfl⟩
  · repeat with_reducible refine aw_assoc ?_
    first | with_reducible refine aw_condP fun A B hA hB => ?_ | with_reducible refine aw_toS (aw_condP fun A B hA hB => ?_)
    simp [h12]
    refine ⟨fun hc => hA ?_, fun hc => hB ?_⟩ <;> clear hA hB A B <;> (try (simp at hc; done)) <;> (try (exfalso; simp at hc; omega)) <;> clear hc <;> (try with_reducible refine aw_skip ?_)
    repeat with_reducible refine aw_assoc ?_
    first | with_reducible refine aw_region0 (by decide +kernel) fun K' hK => ?_ | with_reducible refine aw_toS (aw_region0 (by decide +kernel) fun K' hK => ?_)
    simp []
    first | refine hK _ _ _ ?_ | done
    clear K' hK
    repeat with_reducible refine aw_assoc ?_
    first | with_reducible refine aw_region0 (by decide +kernel) fun K' hK => ?_ | with_reducible refine aw_toS (aw_region0 (by decide +kernel) fun K' hK => ?_)
    simp []
    first | refine hK _ _ _ ?_ | done
    clear K' hK
    repeat with_reducible refine aw_assoc ?_
    first | with_reducible refine aw_block ?_ | with_reducible refine aw_toS (aw_block ?_)
    refine aw_loop (fun s G nx => s 10 = rowT sC l ∧ s 11 = iV l.length ∧ ∃ i r : Nat, s 12 = iV i ∧ i ≤ l.length ∧ s 4 = .row r i ∧ G r = some (.row 9 (flat sC ((l.take i).map preB))) ∧ r < nx ∧ (l.take i).all (fun b => goodF (bsL b)) = true) (fun s _ _ => match s 12 with | .v (.int _ n) => l.length - n.toNat | _ => 0) ?_ ?_
    · exact ⟨by simp, by simp, 0, 0, by simp, by omega, by simp, by simp, by omega, by simp⟩
    · rintro s G nx - ⟨s10, s11, i, r, s12, hi, s4, gr, hrn, hall⟩
      have hw : IntKind.i64.wrap (↑i + 1) = ((i + 1 : Nat) : Int) := wrapS (by omega)
      repeat with_reducible refine aw_assoc ?_
      first | with_reducible refine aw_region0 (by decide +kernel) fun K' hK => ?_ | with_reducible refine aw_toS (aw_region0 (by decide +kernel) fun K' hK => ?_)
      simp [s11, s12]
      first | refine hK _ _ _ ?_ | done
      clear K' hK
      repeat with_reducible refine aw_assoc ?_
      first | with_reducible refine aw_condP fun A B hA hB => ?_ | with_reducible refine aw_toS (aw_condP fun A B hA hB => ?_)
      simp []
      refine ⟨fun hi2 => hA ?_, fun hi2 => hB ?_⟩ <;> clear hA hB A B <;> (try simp at hi2) <;> (try with_reducible refine aw_skip ?_)
      · repeat with_reducible refine aw_assoc ?_
        first | with_reducible refine aw_block ?_ | with_reducible refine aw_toS (aw_block ?_)
        have hst := all_take1 (p := fun b => goodF (bsL b)) hi2
        generalize hp : nth l i = b at hst
        have hbm : b ∈ l := hp ▸ nth_mem hi2
        repeat with_reducible refine aw_assoc ?_
        first | with_reducible refine aw_region0 (by decide +kernel) fun K' hK => ?_ | with_reducible refine aw_toS (aw_region0 (by decide +kernel) fun K' hK => ?_)
        simp [s10, s12, hi2, hp]
        first | refine hK _ _ _ ?_ | done
        clear K' hK
        repeat with_reducible refine aw_assoc ?_
        first | with_reducible refine aw_region0 (by decide +kernel) fun K' hK => ?_ | with_reducible refine aw_toS (aw_region0 (by decide +kernel) fun K' hK => ?_)
        simp []
        refine acall_flat (good52_ok b (hs b hbm)) rfl (by simp) ?_
        simp
        first | refine hK _ _ _ ?_ | done
        clear K' hK
        cases hg : goodF (bsL b) with
        | false =>
          repeat with_reducible refine aw_assoc ?_
          first | with_reducible refine aw_condP fun A B hA hB => ?_ | with_reducible refine aw_toS (aw_condP fun A B hA hB => ?_)
          simp []
          refine ⟨fun hc => hA ?_, fun hc => hB ?_⟩ <;> clear hA hB A B <;> (try (simp at hc; done)) <;> (try (exfalso; simp at hc; omega)) <;> clear hc <;> (try with_reducible refine aw_skip ?_)
          repeat with_reducible refine aw_assoc ?_
          first | with_reducible refine aw_region0 (by decide +kernel) fun K' hK => ?_ | with_reducible refine aw_toS (aw_region0 (by decide +kernel) fun K' hK => ?_)
          simp []
          first | refine hK _ _ _ ?_ | done
          clear K' hK
          repeat with_reducible refine aw_assoc ?_
          first | with_reducible refine aw_ret ?_ | with_reducible refine aw_retL ?_ | with_reducible refine aw_skipL ?_
          simp [blockK, loopK, Post, resA, res1, expT, expA, exp1, expM, expL, okT, okA, ok1, rowOf, Tryz.f62]
          have e1 : pathCode l = 30 := by
            have : l.all (fun b => goodF (bsL b)) = false := List.all_eq_false.2 ⟨b, hbm, by simp [hg]⟩
            rw [pathCode, if_neg (by omega), this]; rfl
          rw [pathS, e1]; exact ⟨rfl, rfl⟩
        | true =>
          repeat with_reducible refine aw_assoc ?_
          first | with_reducible refine aw_condP fun A B hA hB => ?_ | with_reducible refine aw_toS (aw_condP fun A B hA hB => ?_)
          simp []
          refine ⟨fun hc => hA ?_, fun hc => hB ?_⟩ <;> clear hA hB A B <;> (try (simp at hc; done)) <;> (try (exfalso; simp at hc; omega)) <;> clear hc <;> (try with_reducible refine aw_skip ?_)
          have hbl := good_len hg
          rw [bsL_len] at hbl
          have hsz : ByteArray.size (⟨#[110, 111, 100, 101, 95, 109, 111, 100, 117, 108, 101, 115, 47]⟩ : Bs) = 13 := rfl
          have f1 : Fits ⟨#[110, 111, 100, 101, 95, 109, 111, 100, 117, 108, 101, 115, 47]⟩ b := by unfold Fits; omega
          have b1 : i + 1 ≤ 9223372036854775807 := by omega
          have b2 : (i + 1) * 16 ≤ 140737488355328 := by omega
          have hmin : min i l.length = i := by omega
          have n1 : ¬ r = nx := by omega
          repeat with_reducible refine aw_assoc ?_
          first | with_reducible refine aw_region0 (by decide +kernel) fun K' hK => ?_ | with_reducible refine aw_toS (aw_region0 (by decide +kernel) fun K' hK => ?_)
          simp [s4, f1, gr, b1, b2, hmin, n1, treeOf_row, srcOf_row]
          first | refine hK _ _ _ ?_ | done
          clear K' hK
          first | with_reducible refine aw_skipL ?_ | skip
          refine blockK_normal ?_
          repeat with_reducible refine aw_assoc ?_
          first | with_reducible refine aw_region0 (by decide +kernel) fun K' hK => ?_ | with_reducible refine aw_toS (aw_region0 (by decide +kernel) fun K' hK => ?_)
          simp [s12, hw]
          first | refine hK _ _ _ ?_ | done
          clear K' hK
          refine aw_skipL (loopK_normal ?_ ?_)
          · refine ⟨by simp [s10], by simp [s11], i + 1, nx + 1, by simp [hw], by omega, by simp, ?_, by omega, by rw [hst, hall, hg]; rfl⟩
            rw [Hp.upd_self, List.take_add_one, List.getElem?_eq_getElem hi2, ← nth_eq hi2, hp, Option.toList_some, List.map_append, List.map_singleton, ← flat_snoc, ← List.map_take]
            rfl
          · simp [s12, hw]; omega
      · repeat with_reducible refine aw_assoc ?_
        first | with_reducible refine aw_exit ?_ | with_reducible refine aw_exitL ?_
        refine loopK_exit (blockK_exit ?_)
        have hil : i = l.length := by omega
        subst hil
        rw [List.take_length] at gr hall
        have e1 : pathCode l = 0 := by rw [pathCode, if_neg (by omega), hall]; rfl
        have htr : treeOf Tryz.prog G (.row r l.length) = some (rowT sC (l.map preB)) := treeOf_of gr (by kernel_rfl) (by simp)
        have hlen : (Lib.join ((l.map preB).map bsL) (bsL ⟨#[47]⟩)).length ≤ 140737488355328 := by
          have h1 := join_len (bsL ⟨#[47]⟩) 53 ((l.map preB).map bsL) (fun x hx => by
            obtain ⟨y, hy, rfl⟩ := List.mem_map.1 hx
            obtain ⟨b, hb, rfl⟩ := List.mem_map.1 hy
            have := good_len (List.all_eq_true.1 hall b hb)
            rw [bsL_len] at this ⊢
            rw [preB, app_size]
            have : nmB.size = 13 := rfl
            omega)
          have h2 : (bsL ⟨#[47]⟩).length = 1 := rfl
          rw [h2] at h1
          rw [List.length_map, List.length_map] at h1
          omega
        repeat with_reducible refine aw_assoc ?_
        first | with_reducible refine aw_region0 (by decide +kernel) fun K' hK => ?_ | with_reducible refine aw_toS (aw_region0 (by decide +kernel) fun K' hK => ?_)
        simp [s4]
        refine acall_flat (join72 (l.map preB) ⟨#[47]⟩ (by simp; omega) hlen) rfl (by simp [htr]) ?_
        simp
        first | refine hK _ _ _ ?_ | done
        clear K' hK
        repeat with_reducible refine aw_assoc ?_
        first | with_reducible refine aw_ret ?_ | with_reducible refine aw_retL ?_ | with_reducible refine aw_skipL ?_
        simp [blockK, loopK, Post, resA, res1, expT, expA, exp1, expM, expL, okT, okA, ok1, rowOf, Tryz.f62]
        rw [pathS, e1, if_pos rfl]
        exact ⟨rfl, rfl⟩
end Go.Proofs.YtomidniaekeafaaGreatDoorAbs
/- tree.path, tree.Path. -/
namespace Go.Proofs.YtomidniaekeafaaGreatDoorAbs
set_option linter.unusedSimpArgs false
set_option linter.unusedVariables false
open Go Go.RowKit Go.Proofs
set_option maxRecDepth 100000
set_option maxHeartbeats 1000000
theorem rev0 : CallsOK Tryz.prog 61 [rowT sC []] (.tup []) [] := by
  refine callsOK mixed Tryz.call61 Tryz.func61 rfl (by rw [Tryz.ntmps61]; simp) ?_ rfl
  rw [Tryz.ntmps61]
  repeat with_reducible refine aw_assoc ?_
  first | with_reducible refine aw_region0 (by decide +kernel) fun K' hK => ?_ | with_reducible refine aw_toS (aw_region0 (by decide +kernel) fun K' hK => ?_)
  simp []
  first | refine hK _ _ _ ?_ | done
  clear K' hK
  repeat with_reducible refine aw_assoc ?_
  first | with_reducible refine aw_block ?_ | with_reducible refine aw_toS (aw_block ?_)
  refine aw_loop (fun s _ _ => s 2 = iV 0 ∧ s 3 = iV (-1)) (fun _ _ _ => 0) ?_ ?_
  · exact ⟨by simp, by simp; rfl⟩
  · rintro s G nx - ⟨s2, s3⟩
    repeat with_reducible refine aw_assoc ?_
    first | with_reducible refine aw_region0 (by decide +kernel) fun K' hK => ?_ | with_reducible refine aw_toS (aw_region0 (by decide +kernel) fun K' hK => ?_)
    simp [s2, s3]
    first | refine hK _ _ _ ?_ | done
    clear K' hK
    repeat with_reducible refine aw_assoc ?_
    first | with_reducible refine aw_condP fun A B hA hB => ?_ | with_reducible refine aw_toS (aw_condP fun A B hA hB => ?_)
    simp []
    refine ⟨fun hc => hA ?_, fun hc => hB ?_⟩ <;> clear hA hB A B <;> (try (simp at hc; done)) <;> (try (exfalso; simp at hc; omega)) <;> clear hc <;> (try with_reducible refine aw_skip ?_)
    repeat with_reducible refine aw_assoc ?_
    first | with_reducible refine aw_exit ?_ | with_reducible refine aw_exitL ?_
    refine loopK_exit (blockK_exit ?_)
    repeat with_reducible refine aw_assoc ?_
    first | with_reducible refine aw_ret ?_ | with_reducible refine aw_retL ?_ | with_reducible refine aw_skipL ?_
    simp [blockK, loopK, Post, resA, res1, expT, expA, exp1, expM, expL, okT, okA, ok1, rowOf, Tryz.f61]
def namesU (t : List Pl) (l : List Nat) : List Bs := (l.filter fun j => decide (0 < j)).map fun j => (nth t j).name
def pathL (t : List Pl) (i : Nat) : List Bs := (namesU t (upN t i)).reverse
def AccAt (G : Hp) (nx : Nat) (x : AV) (acc : List Bs) : Prop := (x = .v (.slice none 0 0) ∧ acc = []) ∨ ∃ r, x = .row r acc.length ∧ G r = some (.row 9 (flat sC acc)) ∧ 5 ≤ r ∧ r < nx
theorem upF_lt {t : List Pl} (hd : Dn t) : ∀ (k i : Nat), i < t.length → ∀ j ∈ upF t k i, j < t.length
  | 0, i, hi, j, hj => by simp [upF] at hj
  | k + 1, i, hi, j, hj => by
    rw [upF] at hj
    rcases List.mem_cons.1 hj with rfl | hj
    · exact hi
    · split at hj
      · simp at hj
      · rename_i hp
        have := hd i hi
        exact upF_lt hd k _ (by omega) j hj
theorem up_lt {t : List Pl} (hd : Dn t) {i : Nat} (hi : i < t.length) : ∀ j ∈ upN t i, j < t.length := upF_lt hd _ i hi
theorem path45_ok (t : List Pl) (hd : Dn t) (hl : t.length ≤ 1000000) (hs : ∀ p ∈ t, p.name.size ≤ 4000000000) (i : Nat) (hi : i < t.length) : CallsOK Tryz.prog 45 [rowT Pl.cells t, iV i] (sV (pathS (pathL t i))) [] := by
  refine callsOK mixed Tryz.call45 Tryz.func45 rfl (by rw [Tryz.ntmps45]; simp) ?_ rfl
  rw [Tryz.ntmps45]
  repeat with_reducible refine aw_assoc ?_
  first | with_reducible refine aw_region0 (by decide +kernel) fun K' hK => ?_ | with_reducible refine aw_toS (aw_region0 (by decide +kernel) fun K' hK => ?_)
  simp []
  first | refine hK _ _ _ ?_ | done
  clear K' hK
  repeat with_reducible refine aw_assoc ?_
  first | with_reducible refine aw_region0 (by decide +kernel) fun K' hK => ?_ | with_reducible refine aw_toS (aw_region0 (by decide +kernel) fun K' hK => ?_)
  simp []
  first | refine hK _ _ _ ?_ | done
  clear K' hK
  repeat with_reducible refine aw_assoc ?_
  first | with_reducible refine aw_region0 (by decide +kernel) fun K' hK => ?_ | with_reducible refine aw_toS (aw_region0 (by decide +kernel) fun K' hK => ?_)
  simp []
  refine acall_inlK (inlK mixed Tryz.call44 Tryz.func44 rfl (by rw [Tryz.ntmps44]; simp) fun hf => ?_)
  rw [Tryz.ntmps44]
  repeat with_reducible refine aw_assoc ?_
  first | with_reducible refine aw_region0 (by decide +kernel) fun K' hK => ?_ | with_reducible refine aw_toS (aw_region0 (by decide +kernel) fun K' hK => ?_)
  simp []
  first | refine hK _ _ _ ?_ | done
  clear K' hK
  repeat with_reducible refine aw_assoc ?_
  first | with_reducible refine aw_region0 (by decide +kernel) fun K' hK => ?_ | with_reducible refine aw_toS (aw_region0 (by decide +kernel) fun K' hK => ?_)
  simp []
  first | refine hK _ _ _ ?_ | done
  clear K' hK
  repeat with_reducible refine aw_assoc ?_
  first | with_reducible refine aw_ret ?_ | with_reducible refine aw_retL ?_ | with_reducible refine aw_skipL ?_
  simp [blockK, loopK, Post, resA, res1, expT, expA, exp1, expM, expL, okT, okA, ok1, rowOf, Tryz.f44]
  first | refine hK _ _ _ ?_ | done
  clear K' hK
  repeat with_reducible refine aw_assoc ?_
  refine aw_cutR (fun s G nx => s 5 = .ptr 1 0 ∧ 5 ≤ nx ∧ ∃ x, G 1 = some (.var 67 [x]) ∧ AccAt G nx x (namesU t (upN t i))) ?_ ?_
  · refine aw_gen (fun s G nx => s 2 = .ptr 0 0 ∧ s 5 = .ptr 1 0 ∧ s 11 = .fn 60 [.ptr 3 0, .ptr 2 0] ∧ nx = 4 ∧ G 0 = some (.var 22 [rowT Pl.cells t]) ∧ G 1 = some (.var 67 [.v (.slice none 0 0)]) ∧ G 2 = some (.var 22 [rowT Pl.cells t]) ∧ G 3 = some (.var 3 [iV i])) ?_ ?_
    · simp
      exact ⟨rfl, rfl⟩
    rintro s G nx ⟨s2, s5, s11, rfl, g0, g1, g2, g3⟩
    repeat with_reducible refine aw_assoc ?_
    first | with_reducible refine aw_block ?_ | with_reducible refine aw_toS (aw_block ?_)
    refine aw_range (f := 60) (fn := Tryz.f60) mixed s11 Tryz.call60 Tryz.func60 rfl (by rw [Tryz.ntmps60]; simp) rfl ?_
    rw [Tryz.ntmps60]
    generalize hL : (Lp.mk s 31 _ _ _) = L
    have hLs : L.s = s := by subst hL; rfl
    have htot := up_len (t := t) i
    refine up60 hd (by omega) rfl (fun j G nx => 5 ≤ nx ∧ ∃ acc x, G 1 = some (.var 67 [x]) ∧ AccAt G nx x acc ∧ namesU t (upN t i) = acc ++ namesU t (upN t j) ∧ acc.length + (upN t j).length ≤ i + 1 ∧ G 0 = some (.var 22 [rowT Pl.cells t]) ∧ j < t.length ∧ G 3 = some (.var 3 [iV j]) ∧ G 2 = some (.var 22 [rowT Pl.cells t]) ∧ G 4 = some (L.o .ready none)) ?_ ?_ ⟨by omega, [], _, by simp [g1], .inl ⟨rfl, rfl⟩, rfl, by simp; omega, by simp [g0], hi, by simp [g3], by simp [g2], by simp⟩
    · rintro j G nx ⟨hnx, acc, x, h1, hacc, hnm, hlen, h0, h2, h3, h4, h5⟩
      exact ⟨h2, h3, h4, h5⟩
    · rintro j G nx ⟨hnx, acc, x, h1, hacc, hnm, hlen, h0, h2, h3, h4, h5⟩
      have hst := up_step hd h2
      have hround : ∀ K : AV → Hp → Nat → Prop, (∀ G' nx' x', nx ≤ nx' → (∀ k, k = 0 ∨ k = 2 ∨ k = 3 → G' k = G k) → G' 4 = some (L.o .ready none) → G' 1 = some (.var 67 [x']) → AccAt G' nx' x' (acc ++ if 0 < j then [(nth t j).name] else []) → K (bV true) G' nx') → YldK Tryz.prog 4 [iV j] K G nx := by
        subst hL
        intro K k1
        refine yldK mixed h5 rfl (by simp) rfl rfl fun hf => ?_
        repeat with_reducible refine aw_assoc ?_
        first | with_reducible refine aw_region0 (by decide +kernel) fun K' hK => ?_ | with_reducible refine aw_toS (aw_region0 (by decide +kernel) fun K' hK => ?_)
        simp []
        first | refine hK _ _ _ ?_ | done
        clear K' hK
        refine ⟨rfl, h5, ?_⟩
        dsimp only
        generalize (Lp.mk s 31 _ _ _) = L at h5 k1 ⊢
        repeat with_reducible refine aw_assoc ?_
        first | with_reducible refine aw_block ?_ | with_reducible refine aw_toS (aw_block ?_)
        repeat with_reducible refine aw_assoc ?_
        first | with_reducible refine aw_region0 (by decide +kernel) fun K' hK => ?_ | with_reducible refine aw_toS (aw_region0 (by decide +kernel) fun K' hK => ?_)
        simp []
        first | refine hK _ _ _ ?_ | done
        clear K' hK
        by_cases hj : 0 < j
        · have hj' : (0 : Int) < j := by omega
          have hj2 : (j : Int) < t.length := by omega
          repeat with_reducible refine aw_assoc ?_
          first | with_reducible refine aw_condP fun A B hA hB => ?_ | with_reducible refine aw_toS (aw_condP fun A B hA hB => ?_)
          simp [hj']
          refine ⟨fun hc => hA ?_, fun hc => hB ?_⟩ <;> clear hA hB A B <;> (try (simp at hc; done)) <;> (try (exfalso; simp at hc; omega)) <;> clear hc <;> (try with_reducible refine aw_skip ?_)
          rcases hacc with ⟨rfl, rfl⟩ | ⟨r, rfl, hr, hr5, hrn⟩
          · have n0 : ¬ nx = 0 := by omega
            have n5 : ¬ 1 = nx := by omega
            have n6 : ¬ 1 = nx + 1 := by omega
            repeat with_reducible refine aw_assoc ?_
            first | with_reducible refine aw_region1 (by decide +kernel) (by decide +kernel) fun K' hK => ?_ | with_reducible refine aw_toS (aw_region1 (by decide +kernel) (by decide +kernel) fun K' hK => ?_)
            simp (maxSteps := 1000000) [s2, s5, h0, h1, h2, hj2, n0, n5, n6, treeOf_row, srcOf_row]
            first | refine hK _ _ _ ?_ | done
            clear K' hK
            first | with_reducible refine aw_skipL ?_ | skip
            refine blockK_normal ?_
            refine aw_skipL ?_
            refine roundK_normal (by repeat first | rw [Hp.upd_self] | rw [Hp.upd_ne _ _ (by omega)]) ?_
            refine k1 _ _ _ (by omega) (fun k hk => ?_) (by simp) (by simp; rfl) (.inr ⟨nx + 1, by simp [hj], ?_, by omega, by omega⟩)
            · repeat rw [Hp.upd_ne _ _ (by omega)]
            · rw [Hp.upd_ne _ _ (by omega), Hp.upd_ne _ _ (by omega), Hp.upd_self, if_pos hj]
              first | rfl | (rw [← flat_snoc]; rfl)
          · have b1 : acc.length + 1 ≤ 9223372036854775807 := by omega
            have b2 : (acc.length + 1) * 16 ≤ 140737488355328 := by omega
            have n1 : ¬ r = nx := by omega
            have n4 : ¬ r = 4 := by omega
            have n0 : ¬ nx = 0 := by omega
            have n5 : ¬ 1 = nx := by omega
            have n6 : ¬ 1 = r := by omega
            repeat with_reducible refine aw_assoc ?_
            first | with_reducible refine aw_region1 (by decide +kernel) (by decide +kernel) fun K' hK => ?_ | with_reducible refine aw_toS (aw_region1 (by decide +kernel) (by decide +kernel) fun K' hK => ?_)
            simp (maxSteps := 1000000) [s2, s5, h0, h1, h2, hj2, hr, b1, b2, n0, n1, n4, n5, n6, treeOf_row, srcOf_row]
            first | refine hK _ _ _ ?_ | done
            clear K' hK
            first | with_reducible refine aw_skipL ?_ | skip
            refine blockK_normal ?_
            refine aw_skipL ?_
            refine roundK_normal (by repeat first | rw [Hp.upd_self] | rw [Hp.upd_ne _ _ (by omega)]) ?_
            refine k1 _ _ _ (by omega) (fun k hk => ?_) (by simp) (by simp; rfl) (.inr ⟨nx + 1, by simp [hj], ?_, by omega, by omega⟩)
            · repeat rw [Hp.upd_ne _ _ (by omega)]
            · rw [Hp.upd_ne _ _ (by omega), Hp.upd_ne _ _ (by omega), Hp.upd_self, if_pos hj]
              first | rfl | (rw [← flat_snoc]; rfl)
        · have hj' : ¬ (0 : Int) < j := by omega
          repeat with_reducible refine aw_assoc ?_
          first | with_reducible refine aw_condP fun A B hA hB => ?_ | with_reducible refine aw_toS (aw_condP fun A B hA hB => ?_)
          simp [hj']
          refine ⟨fun hc => hA ?_, fun hc => hB ?_⟩ <;> clear hA hB A B <;> (try (simp at hc; done)) <;> (try (exfalso; simp at hc; omega)) <;> clear hc <;> (try with_reducible refine aw_skip ?_)
          first | with_reducible refine aw_skipL ?_ | skip
          refine blockK_normal ?_
          refine aw_skipL ?_
          refine roundK_normal (by simp) ?_
          refine k1 _ _ x (Nat.le_refl _) (fun k hk => ?_) (by simp) (by simp [h1]) ?_
          · rw [Hp.upd_ne _ _ (by omega), Hp.upd_ne _ _ (by omega)]
          · rw [if_neg hj, List.append_nil]
            rcases hacc with h | ⟨r, rfl, hr, hr5, hrn⟩
            · exact .inl h
            · have : ¬ r = 4 := by omega
              exact .inr ⟨r, rfl, by simp [this, hr], hr5, hrn⟩
      refine hround _ fun G' nx' x' hnx' hag hg4 hg1 hacc' => .inl ⟨rfl, by rw [hag 3 (by omega)]; exact h3, by rw [hag 2 (by omega)]; exact h4, fun hp => ?_, fun hp => ?_⟩
      · have := hd j h2
        rw [hst, if_neg (by omega)] at hnm hlen
        have hacc2 : ∀ o, AccAt (G'.upd 3 o) nx' x' (acc ++ if 0 < j then [(nth t j).name] else []) := fun o => by
          rcases hacc' with h | ⟨r, h7, hr, hr5, hrn⟩
          · exact .inl h
          · exact .inr ⟨r, h7, by rw [Hp.upd_ne _ _ (by omega)]; exact hr, hr5, hrn⟩
        refine ⟨by omega, _, x', by rw [Hp.upd_ne _ _ (by omega)]; exact hg1, hacc2 _, ?_, ?_, ?_, by omega, ?_, ?_, ?_⟩
        · rw [hnm, namesU, List.filter_cons]
          by_cases h : 0 < j
          · simp [h, namesU]
          · simp [h, namesU]
        · rw [List.length_append]
          simp only [List.length_cons] at hlen
          split <;> simp <;> omega
        · rw [Hp.upd_ne _ _ (by omega), hag 0 (by omega)]; exact h0
        · have e9 : ((parN t j).toNat : Int) = parN t j := by omega
          rw [Hp.upd_self, e9]
        · rw [Hp.upd_ne _ _ (by omega), hag 2 (by omega)]; exact h4
        · rw [Hp.upd_ne _ _ (by omega)]; exact hg4
      · rw [hst, if_pos hp] at hnm
        refine rangeK_on (.inl rfl) (by rw [Hp.upd_ne _ _ (by omega)]; exact hg4) ?_
        rw [hLs]
        refine blockK_normal (aw_endR ⟨s5, by omega, x', by rw [Hp.upd_ne _ _ (by omega), Hp.upd_ne _ _ (by omega)]; exact hg1, ?_⟩)
        have e1 : namesU t (upN t i) = acc ++ if 0 < j then [(nth t j).name] else [] := by
          rw [hnm, namesU, List.filter_cons]
          by_cases h : 0 < j
          · simp [h]
          · simp [h]
        rw [e1]
        rcases hacc' with h | ⟨r, h7, hr, hr5, hrn⟩
        · exact .inl h
        · exact .inr ⟨r, h7, by rw [Hp.upd_ne _ _ (by omega), Hp.upd_ne _ _ (by omega)]; exact hr, hr5, hrn⟩
  · rintro s G nx ⟨s5, hnx, x, g1, hacc⟩
    have hnl : (namesU t (upN t i)).length ≤ 1000000000 := by
      have h1 := up_len (t := t) i
      have h2 := List.length_filter_le (fun j => decide (0 < j)) (upN t i)
      simp only [namesU, List.length_map]; omega
    have hsz : ∀ l : List Nat, (∀ j ∈ l, j < t.length) → ∀ b ∈ namesU t l, b.size ≤ 4000000000 := by
      intro l hlt b hb
      obtain ⟨j, hj, rfl⟩ := List.mem_map.1 hb
      exact hs _ (nth_mem (hlt j (List.mem_filter.1 hj).1))
    have hps : ∀ b ∈ pathL t i, b.size ≤ 4000000000 := fun b hb => hsz _ (up_lt hd hi) b (List.mem_reverse.1 hb)
    rcases hacc with ⟨rfl, hn⟩ | ⟨r, rfl, hr, hr5, hrn⟩
    · have hpl : pathL t i = [] := by rw [pathL, hn]; rfl
      have hpc : CallsOK Tryz.prog 62 [.v (.slice none 0 0)] (.tup [sV (pathS (pathL t i)), iV (pathCode (pathL t i))]) [] := by
        rw [hpl]
        exact (path62_ok [] (by simp) (by simp)).weak (.cons .nilRow .nil)
      repeat with_reducible refine aw_assoc ?_
      first | with_reducible refine aw_region0 (by decide +kernel) fun K' hK => ?_ | with_reducible refine aw_toS (aw_region0 (by decide +kernel) fun K' hK => ?_)
      simp [s5, g1]
      refine acall_flat (rev0.weak (.cons .nilRow .nil)) rfl (by simp) ?_
      simp
      first | refine hK _ _ _ ?_ | done
      clear K' hK
      repeat with_reducible refine aw_assoc ?_
      first | with_reducible refine aw_region0 (by decide +kernel) fun K' hK => ?_ | with_reducible refine aw_toS (aw_region0 (by decide +kernel) fun K' hK => ?_)
      simp [s5, g1]
      refine acall_flat hpc rfl (by simp) ?_
      simp
      first | refine hK _ _ _ ?_ | done
      clear K' hK
      repeat with_reducible refine aw_assoc ?_
      first | with_reducible refine aw_region0 (by decide +kernel) fun K' hK => ?_ | with_reducible refine aw_toS (aw_region0 (by decide +kernel) fun K' hK => ?_)
      simp []
      first | refine hK _ _ _ ?_ | done
      clear K' hK
      repeat with_reducible refine aw_assoc ?_
      first | with_reducible refine aw_ret ?_ | with_reducible refine aw_retL ?_ | with_reducible refine aw_skipL ?_
      simp [blockK, loopK, Post, resA, res1, expT, expA, exp1, expM, expL, okT, okA, ok1, rowOf, Tryz.f45]
    · repeat with_reducible refine aw_assoc ?_
      first | with_reducible refine aw_region0 (by decide +kernel) fun K' hK => ?_ | with_reducible refine aw_toS (aw_region0 (by decide +kernel) fun K' hK => ?_)
      simp [s5, g1]
      refine acall_inlK (reverse61 hnl hr fun G' hag hr' => ?_)
      simp
      first | refine hK _ _ _ ?_ | done
      clear K' hK
      have e1 : G' 1 = some (.var 67 [.row r (namesU t (upN t i)).length]) := by rw [hag 1 (by omega)]; exact g1
      have htr : treeOf Tryz.prog G' (.row r (namesU t (upN t i)).length) = some (rowT sC (pathL t i)) := treeOf_of hr' (by kernel_rfl) (by simp [pathL])
      repeat with_reducible refine aw_assoc ?_
      first | with_reducible refine aw_region0 (by decide +kernel) fun K' hK => ?_ | with_reducible refine aw_toS (aw_region0 (by decide +kernel) fun K' hK => ?_)
      simp [s5, e1]
      refine acall_flat (path62_ok (pathL t i) (by simpa [pathL] using hnl) hps) rfl (by simp [htr]) ?_
      simp
      first | refine hK _ _ _ ?_ | done
      clear K' hK
      repeat with_reducible refine aw_assoc ?_
      first | with_reducible refine aw_region0 (by decide +kernel) fun K' hK => ?_ | with_reducible refine aw_toS (aw_region0 (by decide +kernel) fun K' hK => ?_)
      simp []
      first | refine hK _ _ _ ?_ | done
      clear K' hK
      repeat with_reducible refine aw_assoc ?_
      first | with_reducible refine aw_ret ?_ | with_reducible refine aw_retL ?_ | with_reducible refine aw_skipL ?_
      simp [blockK, loopK, Post, resA, res1, expT, expA, exp1, expM, expL, okT, okA, ok1, rowOf, Tryz.f45]
def pathOf (t : List Pl) (i : Int) : Bs := if holdsF t i then pathS (pathL t i.toNat) else ⟨#[]⟩
theorem path21_ok (t : List Pl) (ht : OKs t) (i : Int) : CallsOK Tryz.prog 21 [rowT Pl.cells t, iV i] (.tup [sV (pathOf t i), bV (holdsF t i)]) [] := by
  refine callsOK mixed Tryz.call21 Tryz.func21 rfl (by rw [Tryz.ntmps21]; simp) ?_ rfl
  rw [Tryz.ntmps21]
  repeat with_reducible refine aw_assoc ?_
  first | with_reducible refine aw_region0 (by decide +kernel) fun K' hK => ?_ | with_reducible refine aw_toS (aw_region0 (by decide +kernel) fun K' hK => ?_)
  simp []
  first | refine hK _ _ _ ?_ | done
  clear K' hK
  repeat with_reducible refine aw_assoc ?_
  first | with_reducible refine aw_region0 (by decide +kernel) fun K' hK => ?_ | with_reducible refine aw_toS (aw_region0 (by decide +kernel) fun K' hK => ?_)
  simp []
  refine acall_flat (holds43_ok t ht i) rfl (by simp) ?_
  cases hh : holdsF t i with
  | false =>
    simp
    first | refine hK _ _ _ ?_ | done
    clear K' hK
    repeat with_reducible refine aw_assoc ?_
    first | with_reducible refine aw_condP fun A B hA hB => ?_ | with_reducible refine aw_toS (aw_condP fun A B hA hB => ?_)
    simp []
    refine ⟨fun hc => hA ?_, fun hc => hB ?_⟩ <;> clear hA hB A B <;> (try (simp at hc; done)) <;> (try (exfalso; simp at hc; omega)) <;> clear hc <;> (try with_reducible refine aw_skip ?_)
    repeat with_reducible refine aw_assoc ?_
    first | with_reducible refine aw_region0 (by decide +kernel) fun K' hK => ?_ | with_reducible refine aw_toS (aw_region0 (by decide +kernel) fun K' hK => ?_)
    simp []
    first | refine hK _ _ _ ?_ | done
    clear K' hK
    repeat with_reducible refine aw_assoc ?_
    first | with_reducible refine aw_ret ?_ | with_reducible refine aw_retL ?_ | with_reducible refine aw_skipL ?_
    simp [blockK, loopK, Post, resA, res1, expT, expA, exp1, expM, expL, okT, okA, ok1, rowOf, Tryz.f21]
    simp [pathOf, hh]
  | true =>
    obtain ⟨hch, hi0, hi1⟩ := holdsF_inv hh
    obtain ⟨n, rfl⟩ : ∃ n : Nat, i = n := ⟨i.toNat, by omega⟩
    have hn : n < t.length := by omega
    have hg := (check_good hch).1
    simp
    first | refine hK _ _ _ ?_ | done
    clear K' hK
    repeat with_reducible refine aw_assoc ?_
    first | with_reducible refine aw_condP fun A B hA hB => ?_ | with_reducible refine aw_toS (aw_condP fun A B hA hB => ?_)
    simp []
    refine ⟨fun hc => hA ?_, fun hc => hB ?_⟩ <;> clear hA hB A B <;> (try (simp at hc; done)) <;> (try (exfalso; simp at hc; omega)) <;> clear hc <;> (try with_reducible refine aw_skip ?_)
    repeat with_reducible refine aw_assoc ?_
    first | with_reducible refine aw_region0 (by decide +kernel) fun K' hK => ?_ | with_reducible refine aw_toS (aw_region0 (by decide +kernel) fun K' hK => ?_)
    simp []
    refine acall_flat (path45_ok t (good_dn hch) (by omega) (fun p hp => (ht.2 p hp).1) n hn) rfl (by simp) ?_
    simp
    first | refine hK _ _ _ ?_ | done
    clear K' hK
    repeat with_reducible refine aw_assoc ?_
    first | with_reducible refine aw_ret ?_ | with_reducible refine aw_retL ?_ | with_reducible refine aw_skipL ?_
    simp [blockK, loopK, Post, resA, res1, expT, expA, exp1, expM, expL, okT, okA, ok1, rowOf, Tryz.f21]
    simp [pathOf, hh]
end Go.Proofs.YtomidniaekeafaaGreatDoorAbs
/- names.Split. -/
namespace Go.Proofs.YtomidniaekeafaaGreatDoorAbs
set_option linter.unusedSimpArgs false
set_option linter.unusedVariables false
open Go Go.RowKit Go.Proofs
set_option maxRecDepth 100000
set_option maxHeartbeats 1000000
def nmL : List UInt8 := [110, 111, 100, 101, 95, 109, 111, 100, 117, 108, 101, 115, 47]
/-- One part: its name, the rest, whether there is more. -/
def partS (l : List UInt8) : Bs × List UInt8 × Bool :=
  let c := Lib.cut (Lib.trimPrefix l nmL) [47]
  let c2 := Lib.cut c.2.1 [47]
  let b := Lib.hasPrefix c.1 [64] && c.2.2
  (if Lib.hasPrefix l nmL = false then ⟨#[]⟩ else if b then ofL c.1 ++ (⟨#[47]⟩ ++ ofL c2.1) else ofL c.1, if b then c2.2 else c.2)
def splitGo : Nat → List UInt8 → Option (List Bs)
  | 0, _ => none
  | k + 1, l => if goodF (bsL (partS l).1) then (if (partS l).2.2 then (splitGo k (partS l).2.1).map ((partS l).1 :: ·) else some [(partS l).1]) else none
def splitF (s : Bs) : Option (List Bs) := if s = ⟨#[]⟩ then some [] else splitGo 12 (bsL s)
def splitR (s : Bs) : AV × Js := match splitF s with
  | none => (.tup [.v (.slice none 0 0), bV false], [])
  | some [] => (.tup [.v (.slice none 0 0), bV true], [])
  | some (a :: l) => (.tup [.row 0 (a :: l).length, bV true], [(9, flat sC (a :: l))])
theorem partS_len (l : List UInt8) : (partS l).2.1.length ≤ l.length := by
  have h1 := cut_le (Lib.trimPrefix l nmL) [47]
  have h2 := trimPrefix_le l nmL
  have h3 := cut_le (Lib.cut (Lib.trimPrefix l nmL) [47]).2.1 [47]
  simp only [partS]
  split <;> omega
/-- What a round of Split does with a part. -/
theorem split46_ok (s : Bs) (hs : s.size ≤ 1000000000) : CallsOK Tryz.prog 46 [sV s] (splitR s).1 (splitR s).2 := by
  refine callsOK mixed Tryz.call46 Tryz.func46 rfl (by rw [Tryz.ntmps46]; simp) ?_ ?_
  · rw [Tryz.ntmps46]
    repeat with_reducible refine aw_assoc ?_
    first | with_reducible refine aw_region0 (by decide +kernel) fun K' hK => ?_ | with_reducible refine aw_toS (aw_region0 (by decide +kernel) fun K' hK => ?_)
    simp []
    first | refine hK _ _ _ ?_ | done
    clear K' hK
    repeat with_reducible refine aw_assoc ?_
    first | with_reducible refine aw_region0 (by decide +kernel) fun K' hK => ?_ | with_reducible refine aw_toS (aw_region0 (by decide +kernel) fun K' hK => ?_)
    simp []
    first | refine hK _ _ _ ?_ | done
    clear K' hK
    repeat with_reducible refine aw_assoc ?_
    first | with_reducible refine aw_region0 (by decide +kernel) fun K' hK => ?_ | with_reducible refine aw_toS (aw_region0 (by decide +kernel) fun K' hK => ?_)
    simp []
    refine acall_inlK (inlK mixed Tryz.call63 Tryz.func63 rfl (by rw [Tryz.ntmps63]; simp) fun hf => ?_)
    rw [Tryz.ntmps63]
    repeat with_reducible refine aw_assoc ?_
    first | with_reducible refine aw_region0 (by decide +kernel) fun K' hK => ?_ | with_reducible refine aw_toS (aw_region0 (by decide +kernel) fun K' hK => ?_)
    simp []
    first | refine hK _ _ _ ?_ | done
    clear K' hK
    repeat with_reducible refine aw_assoc ?_
    first | with_reducible refine aw_region0 (by decide +kernel) fun K' hK => ?_ | with_reducible refine aw_toS (aw_region0 (by decide +kernel) fun K' hK => ?_)
    simp []
    first | refine hK _ _ _ ?_ | done
    clear K' hK
    repeat with_reducible refine aw_assoc ?_
    first | with_reducible refine aw_ret ?_ | with_reducible refine aw_retL ?_ | with_reducible refine aw_skipL ?_
    simp [blockK, loopK, Post, resA, res1, expT, expA, exp1, expM, expL, okT, okA, ok1, rowOf, Tryz.f63]
    first | refine hK _ _ _ ?_ | done
    clear K' hK
    repeat with_reducible refine aw_assoc ?_
    refine aw_cutR (fun t G nx => t 2 = .ptr 0 0 ∧ t 3 = .ptr 1 0 ∧ t 4 = .ptr 2 0 ∧ 5 ≤ nx ∧ G 0 = some (.var 67 [.v (.slice none 0 0)]) ∧ G 1 = some (.var 4 [bV false]) ∧ ∃ x acc, G 2 = some (.var 67 [x]) ∧ AccAt G nx x acc ∧ splitF s = some acc ∧ (acc = [] → x = .v (.slice none 0 0))) ?_ ?_
    · refine aw_gen (fun t G nx => t 2 = .ptr 0 0 ∧ t 3 = .ptr 1 0 ∧ t 4 = .ptr 2 0 ∧ t 7 = .fn 73 [.ptr 3 0] ∧ nx = 4 ∧ G 0 = some (.var 67 [.v (.slice none 0 0)]) ∧ G 1 = some (.var 4 [bV false]) ∧ G 2 = some (.var 67 [.v (.slice none 0 0)]) ∧ G 3 = some (.var 9 [sV s])) ?_ ?_
      · simp
        done
      rintro t G nx ⟨t2, t3, t4, t7, rfl, g0, g1, g2, g3⟩
      repeat with_reducible refine aw_assoc ?_
      first | with_reducible refine aw_block ?_ | with_reducible refine aw_toS (aw_block ?_)
      refine aw_range (f := 73) (fn := Tryz.f73) mixed t7 Tryz.call73 Tryz.func73 rfl (by rw [Tryz.ntmps73]; simp) rfl ?_
      rw [Tryz.ntmps73]
      generalize hL : (Lp.mk t 22 _ _ _) = L
      have hLs : L.s = t := by subst hL; rfl
      have hround : ∀ (b : Bs) (x : AV) (acc : List Bs) (K : AV → Hp → Nat → Prop) (G : Hp) (nx : Nat), b.size ≤ 4000000000 → 5 ≤ nx → acc.length ≤ 12 → G 0 = some (.var 67 [.v (.slice none 0 0)]) → G 1 = some (.var 4 [bV false]) → G 2 = some (.var 67 [x]) → AccAt G nx x acc → G 4 = some (L.o .ready none) →
          (goodF (bsL b) = true → acc.length + 1 ≤ 12 → ∀ G' nx' x', nx ≤ nx' → (∀ k, k = 0 ∨ k = 1 ∨ k = 3 → G' k = G k) → G' 4 = some (L.o .ready none) → G' 2 = some (.var 67 [x']) → AccAt G' nx' x' (acc ++ [b]) → K (bV true) G' nx') →
          (goodF (bsL b) = false ∨ ¬ acc.length + 1 ≤ 12 → ∀ G' nx', G' 0 = some (.var 67 [.v (.slice none 0 0)]) → G' 1 = some (.var 4 [bV false]) → G' 4 = some (L.o .done (some .ret)) → K (bV false) G' nx') → YldK Tryz.prog 4 [sV b] K G nx := by
        subst hL
        clear g0 g1 g2 g3
        intro b x acc K G nx hb hnx hal g0 g1 g2 hacc g4 k1 k2
        refine yldK mixed g4 rfl (by simp) rfl rfl fun hf => ?_
        repeat with_reducible refine aw_assoc ?_
        first | with_reducible refine aw_region0 (by decide +kernel) fun K' hK => ?_ | with_reducible refine aw_toS (aw_region0 (by decide +kernel) fun K' hK => ?_)
        simp []
        first | refine hK _ _ _ ?_ | done
        clear K' hK
        refine ⟨rfl, g4, ?_⟩
        dsimp only
        generalize (Lp.mk t 22 _ _ _) = L at g4 k1 k2 ⊢
        repeat with_reducible refine aw_assoc ?_
        first | with_reducible refine aw_block ?_ | with_reducible refine aw_toS (aw_block ?_)
        repeat with_reducible refine aw_assoc ?_
        refine aw_cut (fun u H ny => u 2 = .ptr 0 0 ∧ u 3 = .ptr 1 0 ∧ u 4 = .ptr 2 0 ∧ u 5 = sV b ∧ nx ≤ ny ∧ (∀ k, k = 0 ∨ k = 1 ∨ k = 3 → H k = G k) ∧ H 4 = some (L.o .busy none) ∧ ∃ r, r < ny ∧ 5 ≤ r ∧ H 2 = some (.var 67 [.row r (acc.length + 1)]) ∧ H r = some (.row 9 (flat sC (acc ++ [b])))) ?_ ?_
        · have n0 : ¬ nx = 2 := by omega
          have n5 : ¬ 2 = nx := by omega
          have n6 : ¬ 2 = nx + 1 := by omega
          rcases hacc with ⟨rfl, rfl⟩ | ⟨r, rfl, hr, hr5, hrn⟩
          · repeat with_reducible refine aw_assoc ?_
            first | with_reducible refine aw_region0 (by decide +kernel) fun K' hK => ?_ | with_reducible refine aw_toS (aw_region0 (by decide +kernel) fun K' hK => ?_)
            simp [t4, g2, n0, n5, n6, treeOf_row, srcOf_row]
            first | refine hK _ _ _ ?_ | done
            clear K' hK
            with_reducible refine aw_end ?_
            refine ⟨by simp [t2], by simp [t3], by simp [t4], by simp, by omega, fun k hk => (by repeat rw [Hp.upd_ne _ _ (by omega)]), (by repeat first | rw [Hp.upd_self] | rw [Hp.upd_ne _ _ (by omega)]), nx + 1, by omega, by omega, by rw [Hp.upd_self]; rfl, ?_⟩
            rw [Hp.upd_ne _ _ (by omega), Hp.upd_self]; rfl
          · have b1 : acc.length + 1 ≤ 9223372036854775807 := by omega
            have b2 : (acc.length + 1) * 16 ≤ 140737488355328 := by omega
            have n1 : ¬ r = nx := by omega
            have n4 : ¬ r = 4 := by omega
            have n7 : ¬ 2 = r := by omega
            repeat with_reducible refine aw_assoc ?_
            first | with_reducible refine aw_region0 (by decide +kernel) fun K' hK => ?_ | with_reducible refine aw_toS (aw_region0 (by decide +kernel) fun K' hK => ?_)
            simp [t4, g2, hr, b1, b2, n0, n1, n4, n5, n6, n7, treeOf_row, srcOf_row]
            first | refine hK _ _ _ ?_ | done
            clear K' hK
            with_reducible refine aw_end ?_
            refine ⟨by simp [t2], by simp [t3], by simp [t4], by simp, by omega, fun k hk => (by repeat rw [Hp.upd_ne _ _ (by omega)]), (by repeat first | rw [Hp.upd_self] | rw [Hp.upd_ne _ _ (by omega)]), nx + 1, by omega, by omega, by rw [Hp.upd_self], ?_⟩
            rw [Hp.upd_ne _ _ (by omega), Hp.upd_self, ← flat_snoc]; rfl
        · rintro u H ny ⟨u2, u3, u4, u5, hny, hag, h4, r, hrn, hr5, h2, hr⟩
          repeat with_reducible refine aw_assoc ?_
          first | with_reducible refine aw_region0 (by decide +kernel) fun K' hK => ?_ | with_reducible refine aw_toS (aw_region0 (by decide +kernel) fun K' hK => ?_)
          simp [u5]
          refine acall_flat (good52_ok b hb) rfl (by simp) ?_
          have e0 : H 0 = some (.var 67 [.v (.slice none 0 0)]) := by rw [hag 0 (by omega)]; exact g0
          have e1 : H 1 = some (.var 4 [bV false]) := by rw [hag 1 (by omega)]; exact g1
          by_cases hgo : goodF (bsL b) = true ∧ acc.length + 1 ≤ 12
          · have h13 : ¬ (12 : Int) < ((acc.length + 1 : Nat) : Int) := by omega
            have h13' : ¬ (12 : Int) < (acc.length : Int) + 1 := by omega
            simp [hgo.1, u4, h2, hr, h13, h13']
            first | refine hK _ _ _ ?_ | done
            clear K' hK
            repeat with_reducible refine aw_assoc ?_
            first | with_reducible refine aw_condP fun A B hA hB => ?_ | with_reducible refine aw_toS (aw_condP fun A B hA hB => ?_)
            simp []
            refine ⟨fun hc => hA ?_, fun hc => hB ?_⟩ <;> clear hA hB A B <;> (try (simp at hc; done)) <;> (try (exfalso; simp at hc; omega)) <;> clear hc <;> (try with_reducible refine aw_skip ?_)
            first | with_reducible refine aw_skipL ?_ | skip
            refine blockK_normal ?_
            refine aw_skipL ?_
            refine roundK_normal h4 ?_
            refine k1 hgo.1 hgo.2 _ _ (.row r (acc.length + 1)) hny (fun k hk => by rw [Hp.upd_ne _ _ (by omega)]; exact hag k hk) (by rw [Hp.upd_self]) (by rw [Hp.upd_ne _ _ (by omega)]; exact h2) (.inr ⟨r, by simp, by rw [Hp.upd_ne _ _ (by omega)]; exact hr, hr5, hrn⟩)
          · have hbad : goodF (bsL b) = false ∨ ¬ acc.length + 1 ≤ 12 := by
              cases hg : goodF (bsL b) with
              | false => exact .inl rfl
              | true => exact .inr fun h => hgo ⟨hg, h⟩
            cases hg : goodF (bsL b) with
            | false =>
              simp [hg]
              first | refine hK _ _ _ ?_ | done
              clear K' hK
              repeat with_reducible refine aw_assoc ?_
              first | with_reducible refine aw_condP fun A B hA hB => ?_ | with_reducible refine aw_toS (aw_condP fun A B hA hB => ?_)
              simp []
              refine ⟨fun hc => hA ?_, fun hc => hB ?_⟩ <;> clear hA hB A B <;> (try (simp at hc; done)) <;> (try (exfalso; simp at hc; omega)) <;> clear hc <;> (try with_reducible refine aw_skip ?_)
              repeat with_reducible refine aw_assoc ?_
              first | with_reducible refine aw_region0 (by decide +kernel) fun K' hK => ?_ | with_reducible refine aw_toS (aw_region0 (by decide +kernel) fun K' hK => ?_)
              simp [u2, u3, e0, e1]
              first | refine hK _ _ _ ?_ | done
              clear K' hK
              refine aw_ret ?_
              refine blockK_ret ?_
              refine roundK_ret (by repeat first | exact h4 | rw [Hp.upd_ne _ _ (by omega)]) ?_
              exact k2 hbad _ _ (by repeat first | rfl | rw [Hp.upd_self] | rw [Hp.upd_ne _ _ (by omega)]) (by repeat first | rfl | rw [Hp.upd_self] | rw [Hp.upd_ne _ _ (by omega)]) (by rw [Hp.upd_self])
            | true =>
              have h13 : (12 : Int) < ((acc.length + 1 : Nat) : Int) := by
                have := hbad.resolve_left (by simp [hg]); omega
              have h13' : (12 : Int) < (acc.length : Int) + 1 := by omega
              simp [hg, u4, h2, hr, h13, h13']
              first | refine hK _ _ _ ?_ | done
              clear K' hK
              repeat with_reducible refine aw_assoc ?_
              first | with_reducible refine aw_condP fun A B hA hB => ?_ | with_reducible refine aw_toS (aw_condP fun A B hA hB => ?_)
              simp []
              refine ⟨fun hc => hA ?_, fun hc => hB ?_⟩ <;> clear hA hB A B <;> (try (simp at hc; done)) <;> (try (exfalso; simp at hc; omega)) <;> clear hc <;> (try with_reducible refine aw_skip ?_)
              repeat with_reducible refine aw_assoc ?_
              first | with_reducible refine aw_region0 (by decide +kernel) fun K' hK => ?_ | with_reducible refine aw_toS (aw_region0 (by decide +kernel) fun K' hK => ?_)
              simp [u2, u3, e0, e1]
              first | refine hK _ _ _ ?_ | done
              clear K' hK
              refine aw_ret ?_
              refine blockK_ret ?_
              refine roundK_ret (by repeat first | exact h4 | rw [Hp.upd_ne _ _ (by omega)]) ?_
              exact k2 hbad _ _ (by repeat first | rfl | rw [Hp.upd_self] | rw [Hp.upd_ne _ _ (by omega)]) (by repeat first | rfl | rw [Hp.upd_self] | rw [Hp.upd_ne _ _ (by omega)]) (by rw [Hp.upd_self])
      repeat with_reducible refine aw_assoc ?_
      first | with_reducible refine aw_region0 (by decide +kernel) fun K' hK => ?_ | with_reducible refine aw_toS (aw_region0 (by decide +kernel) fun K' hK => ?_)
      simp [g3]
      first | refine hK _ _ _ ?_ | done
      clear K' hK
      repeat with_reducible refine aw_assoc ?_
      first | with_reducible refine aw_block ?_ | with_reducible refine aw_toS (aw_block ?_)
      refine aw_loop (fun t' G' nx' => t' 0 = .yl 4 ∧ t' 1 = .ptr 3 0 ∧ ((∃ (k : Nat) (l : List UInt8) (x : AV) (acc : List Bs), t' 3 = bV true ∧ 5 ≤ nx' ∧ G' 3 = some (.var 9 [sV (ofL l)]) ∧ l.length ≤ 1000000000 ∧ G' 2 = some (.var 67 [x]) ∧ AccAt G' nx' x acc ∧ acc.length + k = 12 ∧ splitF s = (splitGo k l).map (acc ++ ·) ∧ G' 0 = some (.var 67 [.v (.slice none 0 0)]) ∧ G' 1 = some (.var 4 [bV false]) ∧ G' 4 = some (L.o .ready none)) ∨
          (t' 3 = bV false ∧ rangeK L 4 (blockK Tryz.prog 22 0 .skip (cutK (fun t G nx => t 2 = .ptr 0 0 ∧ t 3 = .ptr 1 0 ∧ t 4 = .ptr 2 0 ∧ 5 ≤ nx ∧ G 0 = some (.var 67 [.v (.slice none 0 0)]) ∧ G 1 = some (.var 4 [bV false]) ∧ ∃ x acc, G 2 = some (.var 67 [x]) ∧ AccAt G nx x acc ∧ splitF s = some acc ∧ (acc = [] → x = .v (.slice none 0 0))) (Post Tryz.prog Tryz.f46 (splitR s).1 (splitR s).2))) .normal L.s G' nx')))
          (fun t' G' _ => match t' 3, G' 2 with | .v (.bool true), some (.var _ [.row _ n]) => 14 - n | .v (.bool true), _ => 14 | _, _ => 0) ?_ ?_
      · by_cases he : s = ⟨#[]⟩
        · refine ⟨by simp, by simp, .inr ⟨by simp [he], rangeK_on (.inl rfl) (by simp) ?_⟩⟩
          rw [hLs]
          refine blockK_normal (aw_endR ⟨t2, t3, t4, by omega, by simp [g0], by simp [g1], _, [], by simp [g2], .inl ⟨rfl, rfl⟩, by rw [splitF, if_pos he], fun _ => rfl⟩)
        · refine ⟨by simp, by simp, .inl ⟨12, bsL s, _, [], by simp [he], by omega, by simp [g3], by rw [bsL_len]; exact hs, by simp [g2], .inl ⟨rfl, rfl⟩, rfl, by rw [splitF, if_neg he]; simp, by simp [g0], by simp [g1], by simp⟩⟩
      · rintro u H ny - ⟨u0, u1, ⟨k, l, x, acc, u3, hny, h3, hll, h2, hacc, hk, hsp, h0, h1, h4⟩ | ⟨u3, hK⟩⟩
        · repeat with_reducible refine aw_assoc ?_
          first | with_reducible refine aw_region0 (by decide +kernel) fun K' hK => ?_ | with_reducible refine aw_toS (aw_region0 (by decide +kernel) fun K' hK => ?_)
          simp [u3]
          first | refine hK _ _ _ ?_ | done
          clear K' hK
          repeat with_reducible refine aw_assoc ?_
          first | with_reducible refine aw_condP fun A B hA hB => ?_ | with_reducible refine aw_toS (aw_condP fun A B hA hB => ?_)
          simp []
          refine ⟨fun hc => hA ?_, fun hc => hB ?_⟩ <;> clear hA hB A B <;> (try (simp at hc; done)) <;> (try (exfalso; simp at hc; omega)) <;> clear hc <;> (try with_reducible refine aw_skip ?_)
          repeat with_reducible refine aw_assoc ?_
          first | with_reducible refine aw_block ?_ | with_reducible refine aw_toS (aw_block ?_)
          have hc1 := cut_le (Lib.trimPrefix l nmL) [47]
          have hc2 := trimPrefix_le l nmL
          have hc3 := cut_le (Lib.cut (Lib.trimPrefix l nmL) [47]).2.1 [47]
          repeat with_reducible refine aw_assoc ?_
          first | with_reducible refine aw_region0 (by decide +kernel) fun K' hK => ?_ | with_reducible refine aw_toS (aw_region0 (by decide +kernel) fun K' hK => ?_)
          simp [u1, h3]
          refine acall_flat (cutPrefix67 (ofL l) ⟨#[110, 111, 100, 101, 95, 109, 111, 100, 117, 108, 101, 115, 47]⟩) rfl (by simp) ?_
          have en : bsL ⟨#[110, 111, 100, 101, 95, 109, 111, 100, 117, 108, 101, 115, 47]⟩ = nmL := rfl
          have es : bsL ⟨#[47]⟩ = [47] := rfl
          have ea : bsL ⟨#[64]⟩ = [64] := rfl
          simp [en]
          first | refine hK _ _ _ ?_ | done
          clear K' hK
          repeat with_reducible refine aw_assoc ?_
          first | with_reducible refine aw_region0 (by decide +kernel) fun K' hK => ?_ | with_reducible refine aw_toS (aw_region0 (by decide +kernel) fun K' hK => ?_)
          simp []
          first | refine hK _ _ _ ?_ | done
          clear K' hK
          repeat with_reducible refine aw_assoc ?_
          first | with_reducible refine aw_region0 (by decide +kernel) fun K' hK => ?_ | with_reducible refine aw_toS (aw_region0 (by decide +kernel) fun K' hK => ?_)
          simp []
          refine acall_flat (cut69 (ofL (Lib.trimPrefix l nmL)) ⟨#[47]⟩ (by rw [ofL_size]; omega)) rfl (by simp) ?_
          simp [es, u1, h3]
          first | refine hK _ _ _ ?_ | done
          clear K' hK
          have hps : partS l = (if Lib.hasPrefix l nmL = false then ⟨#[]⟩ else if (Lib.hasPrefix (Lib.cut (Lib.trimPrefix l nmL) [47]).1 [64] && (Lib.cut (Lib.trimPrefix l nmL) [47]).2.2) then ofL (Lib.cut (Lib.trimPrefix l nmL) [47]).1 ++ (⟨#[47]⟩ ++ ofL (Lib.cut (Lib.cut (Lib.trimPrefix l nmL) [47]).2.1 [47]).1) else ofL (Lib.cut (Lib.trimPrefix l nmL) [47]).1, if (Lib.hasPrefix (Lib.cut (Lib.trimPrefix l nmL) [47]).1 [64] && (Lib.cut (Lib.trimPrefix l nmL) [47]).2.2) then (Lib.cut (Lib.cut (Lib.trimPrefix l nmL) [47]).2.1 [47]).2 else (Lib.cut (Lib.trimPrefix l nmL) [47]).2) := rfl
          have hpl := partS_len l
          generalize Lib.cut (Lib.trimPrefix l nmL) [47] = c at *
          generalize Lib.hasPrefix l nmL = hpn at *
          obtain ⟨c1, c2, c3⟩ := c
          generalize hd2 : Lib.cut c2 [47] = d at *
          obtain ⟨d1, d2, d3⟩ := d
          simp only at hps hc1 hc3
          repeat with_reducible refine aw_assoc ?_
          refine aw_cut (fun v V vy => v 0 = .yl 4 ∧ v 1 = .ptr 3 0 ∧ v 3 = bV c3 ∧ v 5 = bV hpn ∧ v 6 = sV (ofL c1) ∧ v 26 = bV (Lib.hasPrefix c1 [64] && c3) ∧ vy = ny ∧ V 3 = some (.var 9 [sV (ofL c2)]) ∧ ∀ k, k ≠ 3 → V k = H k) ?_ ?_
          · repeat with_reducible refine aw_assoc ?_
            first | with_reducible refine aw_region0 (by decide +kernel) fun K' hK => ?_ | with_reducible refine aw_toS (aw_region0 (by decide +kernel) fun K' hK => ?_)
            simp []
            refine acall_flat (hasPrefix74 (ofL c1) ⟨#[64]⟩) rfl (by simp) ?_
            cases hpx : Lib.hasPrefix c1 [64] with
            | false =>
              simp [ea, hpx]
              first | refine hK _ _ _ ?_ | done
              clear K' hK
              with_reducible refine aw_end ?_
              exact ⟨by simp [u0], by simp [u1], by simp, by simp, by simp, by simp [hpx], rfl, by simp, fun k hk => Hp.upd_ne _ _ hk⟩
            | true =>
              simp [ea, hpx]
              first | refine hK _ _ _ ?_ | done
              clear K' hK
              with_reducible refine aw_end ?_
              exact ⟨by simp [u0], by simp [u1], by simp, by simp, by simp, by simp [hpx], rfl, by simp, fun k hk => Hp.upd_ne _ _ hk⟩
          generalize hbb : (Lib.hasPrefix c1 [64] && c3) = bb at *
          rintro v V vy ⟨v0, v1, v3, v5, v6, v26, rfl, V3, hV⟩
          repeat with_reducible refine aw_assoc ?_
          refine aw_cut (fun y Y yy => y 0 = .yl 4 ∧ y 1 = .ptr 3 0 ∧ y 3 = bV (if bb then (d2, d3) else (c2, c3)).2 ∧ y 5 = bV hpn ∧ y 6 = sV (if bb then ofL c1 ++ (⟨#[47]⟩ ++ ofL d1) else ofL c1) ∧ yy = vy ∧ Y 3 = some (.var 9 [sV (ofL (if bb then (d2, d3) else (c2, c3)).1)]) ∧ ∀ k, k ≠ 3 → Y k = H k) ?_ ?_
          · cases bb with
            | false =>
              repeat with_reducible refine aw_assoc ?_
              first | with_reducible refine aw_condP fun A B hA hB => ?_ | with_reducible refine aw_toS (aw_condP fun A B hA hB => ?_)
              simp [v26]
              refine ⟨fun hc => hA ?_, fun hc => hB ?_⟩ <;> clear hA hB A B <;> (try (simp at hc; done)) <;> (try (exfalso; simp at hc; omega)) <;> clear hc <;> (try with_reducible refine aw_skip ?_)
              with_reducible refine aw_end ?_
              exact ⟨v0, v1, v3, v5, v6, rfl, V3, hV⟩
            | true =>
              repeat with_reducible refine aw_assoc ?_
              first | with_reducible refine aw_condP fun A B hA hB => ?_ | with_reducible refine aw_toS (aw_condP fun A B hA hB => ?_)
              simp [v26]
              refine ⟨fun hc => hA ?_, fun hc => hB ?_⟩ <;> clear hA hB A B <;> (try (simp at hc; done)) <;> (try (exfalso; simp at hc; omega)) <;> clear hc <;> (try with_reducible refine aw_skip ?_)
              repeat with_reducible refine aw_assoc ?_
              first | with_reducible refine aw_region0 (by decide +kernel) fun K' hK => ?_ | with_reducible refine aw_toS (aw_region0 (by decide +kernel) fun K' hK => ?_)
              simp []
              first | refine hK _ _ _ ?_ | done
              clear K' hK
              repeat with_reducible refine aw_assoc ?_
              first | with_reducible refine aw_region0 (by decide +kernel) fun K' hK => ?_ | with_reducible refine aw_toS (aw_region0 (by decide +kernel) fun K' hK => ?_)
              simp [v1, V3]
              refine acall_flat (cut69 (ofL c2) ⟨#[47]⟩ (by rw [ofL_size]; omega)) rfl (by simp) ?_
              simp [es, hd2, v1, V3]
              first | refine hK _ _ _ ?_ | done
              clear K' hK
              have f1 : Fits ⟨#[47]⟩ (ofL d1) := by unfold Fits; rw [ofL_size]; have : ByteArray.size (⟨#[47]⟩ : Bs) = 1 := rfl; omega
              have f2 : Fits (ofL c1) (⟨#[47]⟩ ++ ofL d1) := by unfold Fits; rw [app_size, ofL_size, ofL_size]; have : ByteArray.size (⟨#[47]⟩ : Bs) = 1 := rfl; omega
              repeat with_reducible refine aw_assoc ?_
              first | with_reducible refine aw_region0 (by decide +kernel) fun K' hK => ?_ | with_reducible refine aw_toS (aw_region0 (by decide +kernel) fun K' hK => ?_)
              simp [v6, f1, f2]
              first | refine hK _ _ _ ?_ | done
              clear K' hK
              with_reducible refine aw_end ?_
              exact ⟨by simp [v0], by simp [v1], by simp, by simp [v5], by simp, rfl, by simp, fun k hk => by rw [Hp.upd_ne _ _ hk]; exact hV k hk⟩
          rintro y Y yy ⟨y0, y1, y3, y5, y6, rfl, Y3, hY⟩
          have hm : (partS l).2.2 = (if bb then (d2, d3) else (c2, c3)).2 := by rw [hps]
          have hr : (partS l).2.1 = (if bb then (d2, d3) else (c2, c3)).1 := by rw [hps]
          have hnm : (partS l).1 = if hpn = false then ⟨#[]⟩ else if bb then ofL c1 ++ (⟨#[47]⟩ ++ ofL d1) else ofL c1 := by rw [hps]
          have hns : (partS l).1.size ≤ 4000000000 := by
            have h47 : ByteArray.size (⟨#[47]⟩ : Bs) = 1 := rfl
            have h00 : ByteArray.size (⟨#[]⟩ : Bs) = 0 := rfl
            rw [hnm]
            split
            · omega
            · split
              · rw [app_size, app_size, ofL_size, ofL_size]; omega
              · rw [ofL_size]; omega
          rw [← hm] at y3
          rw [← hr] at Y3
          repeat with_reducible refine aw_assoc ?_
          first | with_reducible refine aw_region0 (by decide +kernel) fun K' hK => ?_ | with_reducible refine aw_toS (aw_region0 (by decide +kernel) fun K' hK => ?_)
          simp [y5]
          first | refine hK _ _ _ ?_ | done
          clear K' hK
          repeat with_reducible refine aw_assoc ?_
          refine aw_cut (fun z Z zz => z 0 = .yl 4 ∧ z 1 = .ptr 3 0 ∧ z 3 = bV (partS l).2.2 ∧ z 6 = sV (partS l).1 ∧ zz = yy ∧ Z 3 = some (.var 9 [sV (ofL (partS l).2.1)]) ∧ ∀ k, k ≠ 3 → Z k = H k) ?_ ?_
          · rw [hnm]
            cases hpn with
            | false =>
              repeat with_reducible refine aw_assoc ?_
              first | with_reducible refine aw_condP fun A B hA hB => ?_ | with_reducible refine aw_toS (aw_condP fun A B hA hB => ?_)
              simp []
              refine ⟨fun hc => hA ?_, fun hc => hB ?_⟩ <;> clear hA hB A B <;> (try (simp at hc; done)) <;> (try (exfalso; simp at hc; omega)) <;> clear hc <;> (try with_reducible refine aw_skip ?_)
              repeat with_reducible refine aw_assoc ?_
              first | with_reducible refine aw_region0 (by decide +kernel) fun K' hK => ?_ | with_reducible refine aw_toS (aw_region0 (by decide +kernel) fun K' hK => ?_)
              simp []
              first | refine hK _ _ _ ?_ | done
              clear K' hK
              with_reducible refine aw_end ?_
              exact ⟨by simp [y0], by simp [y1], by simp [y3], by simp, rfl, Y3, hY⟩
            | true =>
              repeat with_reducible refine aw_assoc ?_
              first | with_reducible refine aw_condP fun A B hA hB => ?_ | with_reducible refine aw_toS (aw_condP fun A B hA hB => ?_)
              simp []
              refine ⟨fun hc => hA ?_, fun hc => hB ?_⟩ <;> clear hA hB A B <;> (try (simp at hc; done)) <;> (try (exfalso; simp at hc; omega)) <;> clear hc <;> (try with_reducible refine aw_skip ?_)
              with_reducible refine aw_end ?_
              exact ⟨by simp [y0], by simp [y1], by simp [y3], by simp [y6], rfl, Y3, hY⟩
          rintro z Z zz ⟨z0, z1, z3, z6, rfl, Z3, hZ⟩
          generalize hpart : partS l = pt at *
          obtain ⟨nm, rest, more⟩ := pt
          simp only at z3 z6 Z3 hns
          have a0 := hZ 0 (by omega)
          have a1 := hZ 1 (by omega)
          have a2 := hZ 2 (by omega)
          have a4 := hZ 4 (by omega)
          rw [h0] at a0
          rw [h1] at a1
          rw [h2] at a2
          rw [h4] at a4
          have hacc2 : AccAt Z zz x acc := by
            rcases hacc with h | ⟨r, h7, hr, hr5, hrn⟩
            · exact .inl h
            · exact .inr ⟨r, h7, by rw [hZ r (by omega)]; exact hr, hr5, hrn⟩
          repeat with_reducible refine aw_assoc ?_
          first | with_reducible refine aw_region0 (by decide +kernel) fun K' hK => ?_ | with_reducible refine aw_toS (aw_region0 (by decide +kernel) fun K' hK => ?_)
          simp [z0, z6]
          refine ⟨⟨_, _, _, _, _, _, _, a4⟩, hround nm x acc _ _ _ hns hny (by omega) a0 a1 a2 hacc2 a4 (fun hg hc G' nx' x' hnx' hag hg4 hg2 hacc' => ?_) (fun hbad G' nx' hg0 hg1 hg4 => ?_)⟩
          · simp
            first | refine hK _ _ _ ?_ | done
            clear K' hK
            repeat with_reducible refine aw_assoc ?_
            first | with_reducible refine aw_condP fun A B hA hB => ?_ | with_reducible refine aw_toS (aw_condP fun A B hA hB => ?_)
            simp []
            refine ⟨fun hc => hA ?_, fun hc => hB ?_⟩ <;> clear hA hB A B <;> (try (simp at hc; done)) <;> (try (exfalso; simp at hc; omega)) <;> clear hc <;> (try with_reducible refine aw_skip ?_)
            first | with_reducible refine aw_skipL ?_ | skip
            refine blockK_normal ?_
            refine aw_skipL ?_
            obtain ⟨k, rfl⟩ : ∃ k', k = k' + 1 := ⟨k - 1, by omega⟩
            have hsp2 : splitF s = if more then (splitGo k rest).map ((acc ++ [nm]) ++ ·) else some (acc ++ [nm]) := by
              rw [hsp, splitGo, hpart]
              simp only [hg, if_true]
              cases more with
              | false => simp
              | true => simp [Function.comp_def]
            have hx' : ∃ r', x' = .row r' (acc ++ [nm]).length := by
              rcases hacc' with ⟨_, h⟩ | ⟨r, h7, _⟩
              · simp at h
              · exact ⟨r, h7⟩
            obtain ⟨r', rfl⟩ := hx'
            have hold : (match u 3, H 2 with | .v (.bool true), some (.var _ [.row _ n]) => 14 - n | .v (.bool true), _ => 14 | _, _ => 0) ≥ 14 - acc.length := by
              rw [u3, h2]
              rcases hacc with ⟨rfl, rfl⟩ | ⟨r, rfl, _⟩
              · simp
              · simp
            have g0' : G' 0 = some (.var 67 [.v (.slice none 0 0)]) := by rw [hag 0 (by omega)]; exact a0
            have g1' : G' 1 = some (.var 4 [bV false]) := by rw [hag 1 (by omega)]; exact a1
            cases more with
            | true =>
              refine loopK_normal ⟨by simp [z0], by simp [z1], .inl ⟨k, rest, _, acc ++ [nm], by simp [z3], by omega, by rw [hag 3 (by omega)]; exact Z3, by simp only at hpl; omega, hg2, hacc', by simp; omega, hsp2, g0', g1', hg4⟩⟩ (Nat.lt_of_lt_of_le ?_ hold)
              simp [z3, hg2]; omega
            | false =>
              refine loopK_normal ⟨by simp [z0], by simp [z1], .inr ⟨by simp [z3], rangeK_on (.inl rfl) hg4 ?_⟩⟩ (Nat.lt_of_lt_of_le ?_ hold)
              · rw [hLs]
                refine blockK_normal (aw_endR ⟨t2, t3, t4, by omega, by rw [Hp.upd_ne _ _ (by omega)]; exact g0', by rw [Hp.upd_ne _ _ (by omega)]; exact g1', _, acc ++ [nm], by rw [Hp.upd_ne _ _ (by omega)]; exact hg2, ?_, hsp2, fun h => by simp at h⟩)
                rcases hacc' with h | ⟨r, h7, hr, hr5, hrn⟩
                · exact .inl h
                · exact .inr ⟨r, h7, by rw [Hp.upd_ne _ _ (by omega)]; exact hr, hr5, hrn⟩
              · simp [z3]; omega
          · simp
            first | refine hK _ _ _ ?_ | done
            clear K' hK
            repeat with_reducible refine aw_assoc ?_
            first | with_reducible refine aw_condP fun A B hA hB => ?_ | with_reducible refine aw_toS (aw_condP fun A B hA hB => ?_)
            simp []
            refine ⟨fun hc => hA ?_, fun hc => hB ?_⟩ <;> clear hA hB A B <;> (try (simp at hc; done)) <;> (try (exfalso; simp at hc; omega)) <;> clear hc <;> (try with_reducible refine aw_skip ?_)
            refine aw_ret (blockK_ret (loopK_ret (blockK_ret ?_)))
            refine rangeK_ret (.inr rfl) hg4 ?_
            rw [hLs]
            refine blockK_ret ?_
            have hno : splitF s = none := by
              rw [hsp]
              cases k with
              | zero => rfl
              | succ k =>
                have hb : goodF (bsL nm) = false := hbad.resolve_right (by omega)
                rw [splitGo, hpart]
                simp [hb]
            have e : splitR s = (.tup [.v (.slice none 0 0), bV false], []) := by rw [splitR, hno]
            rw [e]
            simp [cutK, Post, resA, res1, expT, expA, exp1, expM, expL, okT, okA, ok1, rowOf, Tryz.f46, t2, t3, hg0, hg1]
            done
        · repeat with_reducible refine aw_assoc ?_
          first | with_reducible refine aw_region0 (by decide +kernel) fun K' hK => ?_ | with_reducible refine aw_toS (aw_region0 (by decide +kernel) fun K' hK => ?_)
          simp [u3]
          first | refine hK _ _ _ ?_ | done
          clear K' hK
          repeat with_reducible refine aw_assoc ?_
          first | with_reducible refine aw_condP fun A B hA hB => ?_ | with_reducible refine aw_toS (aw_condP fun A B hA hB => ?_)
          simp []
          refine ⟨fun hc => hA ?_, fun hc => hB ?_⟩ <;> clear hA hB A B <;> (try (simp at hc; done)) <;> (try (exfalso; simp at hc; omega)) <;> clear hc <;> (try with_reducible refine aw_skip ?_)
          repeat with_reducible refine aw_assoc ?_
          first | with_reducible refine aw_exit ?_ | with_reducible refine aw_exitL ?_
          refine loopK_exit (blockK_exit ?_)
          refine aw_skipL ?_
          exact ⟨.inl rfl, hK.2⟩
    · rintro t G nx ⟨t2, t3, t4, hnx, g0, g1, x, acc, g2, hacc, hsp, hne⟩
      rcases hacc with ⟨rfl, rfl⟩ | ⟨r, rfl, hr, hr5, hrn⟩
      · have e : splitR s = (.tup [.v (.slice none 0 0), bV true], []) := by rw [splitR, hsp]
        rw [e]
        repeat with_reducible refine aw_assoc ?_
        first | with_reducible refine aw_region0 (by decide +kernel) fun K' hK => ?_ | with_reducible refine aw_toS (aw_region0 (by decide +kernel) fun K' hK => ?_)
        simp [t2, t3, t4, g0, g1, g2]
        first | refine hK _ _ _ ?_ | done
        clear K' hK
        repeat with_reducible refine aw_assoc ?_
        first | with_reducible refine aw_ret ?_ | with_reducible refine aw_retL ?_ | with_reducible refine aw_skipL ?_
        simp [blockK, loopK, Post, resA, res1, expT, expA, exp1, expM, expL, okT, okA, ok1, rowOf, Tryz.f46, t2, t3, g0, g1]
        done
      · obtain ⟨a, l, rfl⟩ : ∃ a l, acc = a :: l := by
          cases acc with
          | nil => have := hne rfl; cases this
          | cons a l => exact ⟨a, l, rfl⟩
        have e : splitR s = (.tup [.row 0 (a :: l).length, bV true], [(9, flat sC (a :: l))]) := by rw [splitR, hsp]
        rw [e]
        repeat with_reducible refine aw_assoc ?_
        first | with_reducible refine aw_region0 (by decide +kernel) fun K' hK => ?_ | with_reducible refine aw_toS (aw_region0 (by decide +kernel) fun K' hK => ?_)
        simp [t2, t3, t4, g0, g1, g2]
        first | refine hK _ _ _ ?_ | done
        clear K' hK
        have r0 : ¬ r = 0 := by omega
        have r1 : ¬ r = 1 := by omega
        repeat with_reducible refine aw_assoc ?_
        first | with_reducible refine aw_ret ?_ | with_reducible refine aw_retL ?_ | with_reducible refine aw_skipL ?_
        simp [blockK, loopK, Post, resA, res1, expT, expA, exp1, expM, expL, okT, okA, ok1, rowOf, Tryz.f46, t2, t3, g0, g1, hr, r0, r1]
        done
  · unfold splitR
    split <;> rfl
end Go.Proofs.YtomidniaekeafaaGreatDoorAbs
/- tree.Find. -/
namespace Go.Proofs.YtomidniaekeafaaGreatDoorAbs
set_option linter.unusedSimpArgs false
set_option linter.unusedVariables false
open Go Go.RowKit Go.Proofs
set_option maxRecDepth 100000
set_option maxHeartbeats 1000000
def findGo (t : List Pl) : Int → List Bs → Option Int
  | c, [] => some c
  | c, b :: r => match chF t c b with
    | some k => findGo t k r
    | none => none
def findF (t : List Pl) (s : Bs) : Option Int := match splitF s with
  | none => none
  | some l => if checkN t = 0 then findGo t 0 l else none
theorem splitGo_len : ∀ (k : Nat) (l : List UInt8) {r : List Bs}, splitGo k l = some r → r.length ≤ k
  | 0, l, r, h => by simp [splitGo] at h
  | k + 1, l, r, h => by
    rw [splitGo] at h
    split at h
    · split at h
      · obtain ⟨r', h1, rfl⟩ := Option.map_eq_some_iff.1 h
        have := splitGo_len k _ h1
        simp; omega
      · injection h with h; subst h; simp
    · cases h
theorem splitF_len {s : Bs} {r : List Bs} (h : splitF s = some r) : r.length ≤ 12 := by
  unfold splitF at h
  split at h
  · injection h with h; subst h; simp
  · exact splitGo_len _ _ h
theorem find22_ok (t : List Pl) (ht : OKs t) (s : Bs) (hs : s.size ≤ 1000000000) : CallsOK Tryz.prog 22 [rowT Pl.cells t, sV s] (.tup [iV ((findF t s).getD 0), bV (findF t s).isSome]) [] := by
  refine callsOK mixed Tryz.call22 Tryz.func22 rfl (by rw [Tryz.ntmps22]; simp) ?_ rfl
  rw [Tryz.ntmps22]
  have hc := split46_ok s hs
  have hl := ht.1
  repeat with_reducible refine aw_assoc ?_
  first | with_reducible refine aw_region0 (by decide +kernel) fun K' hK => ?_ | with_reducible refine aw_toS (aw_region0 (by decide +kernel) fun K' hK => ?_)
  simp []
  first | refine hK _ _ _ ?_ | done
  clear K' hK
  cases hsf : splitF s with
  | none =>
    have e : splitR s = (.tup [.v (.slice none 0 0), bV false], []) := by rw [splitR, hsf]
    have ef : findF t s = none := by rw [findF, hsf]
    rw [e] at hc
    dsimp only at hc
    rw [ef]
    repeat with_reducible refine aw_assoc ?_
    first | with_reducible refine aw_region0 (by decide +kernel) fun K' hK => ?_ | with_reducible refine aw_toS (aw_region0 (by decide +kernel) fun K' hK => ?_)
    simp []
    refine acall_new hc (by simp) ?_
    simp [addJ_nil]
    first | refine hK _ _ _ ?_ | done
    clear K' hK
    repeat with_reducible refine aw_assoc ?_
    first | with_reducible refine aw_region0 (by decide +kernel) fun K' hK => ?_ | with_reducible refine aw_toS (aw_region0 (by decide +kernel) fun K' hK => ?_)
    simp []
    first | refine hK _ _ _ ?_ | done
    clear K' hK
    repeat with_reducible refine aw_assoc ?_
    first | with_reducible refine aw_condP fun A B hA hB => ?_ | with_reducible refine aw_toS (aw_condP fun A B hA hB => ?_)
    simp []
    refine ⟨fun hc => hA ?_, fun hc => hB ?_⟩ <;> clear hA hB A B <;> (try (simp at hc; done)) <;> (try (exfalso; simp at hc; omega)) <;> clear hc <;> (try with_reducible refine aw_skip ?_)
    repeat with_reducible refine aw_assoc ?_
    first | with_reducible refine aw_region0 (by decide +kernel) fun K' hK => ?_ | with_reducible refine aw_toS (aw_region0 (by decide +kernel) fun K' hK => ?_)
    simp []
    first | refine hK _ _ _ ?_ | done
    clear K' hK
    repeat with_reducible refine aw_assoc ?_
    first | with_reducible refine aw_ret ?_ | with_reducible refine aw_retL ?_ | with_reducible refine aw_skipL ?_
    simp [blockK, loopK, Post, resA, res1, expT, expA, exp1, expM, expL, okT, okA, ok1, rowOf, Tryz.f22]
  | some l =>
    by_cases c0 : checkN t = 0
    · have ef : findF t s = findGo t 0 l := by rw [findF, hsf]; simp [c0]
      rw [ef]
      cases l with
      | nil =>
        have e : splitR s = (.tup [.v (.slice none 0 0), bV true], []) := by rw [splitR, hsf]
        rw [e] at hc
        dsimp only at hc
        repeat with_reducible refine aw_assoc ?_
        first | with_reducible refine aw_region0 (by decide +kernel) fun K' hK => ?_ | with_reducible refine aw_toS (aw_region0 (by decide +kernel) fun K' hK => ?_)
        simp []
        refine acall_new hc (by simp) ?_
        simp [addJ_nil]
        first | refine hK _ _ _ ?_ | done
        clear K' hK
        repeat with_reducible refine aw_assoc ?_
        first | with_reducible refine aw_region0 (by decide +kernel) fun K' hK => ?_ | with_reducible refine aw_toS (aw_region0 (by decide +kernel) fun K' hK => ?_)
        simp []
        refine acall_flat (check18_ok t ht) rfl (by simp) ?_
        simp [c0]
        first | refine hK _ _ _ ?_ | done
        clear K' hK
        repeat with_reducible refine aw_assoc ?_
        first | with_reducible refine aw_condP fun A B hA hB => ?_ | with_reducible refine aw_toS (aw_condP fun A B hA hB => ?_)
        simp []
        refine ⟨fun hc => hA ?_, fun hc => hB ?_⟩ <;> clear hA hB A B <;> (try (simp at hc; done)) <;> (try (exfalso; simp at hc; omega)) <;> clear hc <;> (try with_reducible refine aw_skip ?_)
        repeat with_reducible refine aw_assoc ?_
        first | with_reducible refine aw_region0 (by decide +kernel) fun K' hK => ?_ | with_reducible refine aw_toS (aw_region0 (by decide +kernel) fun K' hK => ?_)
        simp []
        first | refine hK _ _ _ ?_ | done
        clear K' hK
        repeat with_reducible refine aw_assoc ?_
        first | with_reducible refine aw_region0 (by decide +kernel) fun K' hK => ?_ | with_reducible refine aw_toS (aw_region0 (by decide +kernel) fun K' hK => ?_)
        simp []
        first | refine hK _ _ _ ?_ | done
        clear K' hK
        repeat with_reducible refine aw_assoc ?_
        first | with_reducible refine aw_block ?_ | with_reducible refine aw_toS (aw_block ?_)
        refine aw_loop (fun u _ _ => u 8 = iV 0 ∧ u 24 = iV 0 ∧ u 25 = iV 0) (fun _ _ _ => 0) ?_ ?_
        · exact ⟨by simp, by simp, by simp⟩
        · rintro u G nx - ⟨u8, u24, u25⟩
          repeat with_reducible refine aw_assoc ?_
          first | with_reducible refine aw_region0 (by decide +kernel) fun K' hK => ?_ | with_reducible refine aw_toS (aw_region0 (by decide +kernel) fun K' hK => ?_)
          simp [u24, u25]
          first | refine hK _ _ _ ?_ | done
          clear K' hK
          repeat with_reducible refine aw_assoc ?_
          first | with_reducible refine aw_condP fun A B hA hB => ?_ | with_reducible refine aw_toS (aw_condP fun A B hA hB => ?_)
          simp []
          refine ⟨fun hc => hA ?_, fun hc => hB ?_⟩ <;> clear hA hB A B <;> (try (simp at hc; done)) <;> (try (exfalso; simp at hc; omega)) <;> clear hc <;> (try with_reducible refine aw_skip ?_)
          repeat with_reducible refine aw_assoc ?_
          first | with_reducible refine aw_exit ?_ | with_reducible refine aw_exitL ?_
          refine loopK_exit (blockK_exit ?_)
          repeat with_reducible refine aw_assoc ?_
          first | with_reducible refine aw_region0 (by decide +kernel) fun K' hK => ?_ | with_reducible refine aw_toS (aw_region0 (by decide +kernel) fun K' hK => ?_)
          simp [u8]
          first | refine hK _ _ _ ?_ | done
          clear K' hK
          repeat with_reducible refine aw_assoc ?_
          first | with_reducible refine aw_ret ?_ | with_reducible refine aw_retL ?_ | with_reducible refine aw_skipL ?_
          simp [blockK, loopK, Post, resA, res1, expT, expA, exp1, expM, expL, okT, okA, ok1, rowOf, Tryz.f22]
          simp [findGo]
      | cons a l =>
        have e : splitR s = (.tup [.row 0 (a :: l).length, bV true], [(9, flat sC (a :: l))]) := by rw [splitR, hsf]
        rw [e] at hc
        dsimp only at hc
        generalize hL : a :: l = L at *
        repeat with_reducible refine aw_assoc ?_
        first | with_reducible refine aw_region0 (by decide +kernel) fun K' hK => ?_ | with_reducible refine aw_toS (aw_region0 (by decide +kernel) fun K' hK => ?_)
        simp []
        refine acall_new hc (by simp) ?_
        simp [addJ_one]
        first | refine hK _ _ _ ?_ | done
        clear K' hK
        repeat with_reducible refine aw_assoc ?_
        first | with_reducible refine aw_region0 (by decide +kernel) fun K' hK => ?_ | with_reducible refine aw_toS (aw_region0 (by decide +kernel) fun K' hK => ?_)
        simp []
        refine acall_flat (check18_ok t ht) rfl (by simp) ?_
        simp [c0]
        first | refine hK _ _ _ ?_ | done
        clear K' hK
        repeat with_reducible refine aw_assoc ?_
        first | with_reducible refine aw_condP fun A B hA hB => ?_ | with_reducible refine aw_toS (aw_condP fun A B hA hB => ?_)
        simp []
        refine ⟨fun hc => hA ?_, fun hc => hB ?_⟩ <;> clear hA hB A B <;> (try (simp at hc; done)) <;> (try (exfalso; simp at hc; omega)) <;> clear hc <;> (try with_reducible refine aw_skip ?_)
        repeat with_reducible refine aw_assoc ?_
        first | with_reducible refine aw_region0 (by decide +kernel) fun K' hK => ?_ | with_reducible refine aw_toS (aw_region0 (by decide +kernel) fun K' hK => ?_)
        simp []
        first | refine hK _ _ _ ?_ | done
        clear K' hK
        repeat with_reducible refine aw_assoc ?_
        first | with_reducible refine aw_region0 (by decide +kernel) fun K' hK => ?_ | with_reducible refine aw_toS (aw_region0 (by decide +kernel) fun K' hK => ?_)
        simp []
        first | refine hK _ _ _ ?_ | done
        clear K' hK
        repeat with_reducible refine aw_assoc ?_
        first | with_reducible refine aw_block ?_ | with_reducible refine aw_toS (aw_block ?_)
        have hll : L.length ≤ 12 := splitF_len hsf
        refine aw_loop (fun u G nx => u 0 = rowT Pl.cells t ∧ u 23 = .row 0 L.length ∧ u 24 = iV L.length ∧ G 0 = some (.row 9 (flat sC L)) ∧ ∃ (i : Nat) (c : Int), u 25 = iV i ∧ i ≤ L.length ∧ u 8 = iV c ∧ findGo t 0 L = findGo t c (L.drop i)) (fun u _ _ => match u 25 with | .v (.int _ n) => L.length - n.toNat | _ => 0) ?_ ?_
        · exact ⟨by simp, by simp, by simp, by simp, 0, 0, by simp, by omega, by simp, by simp⟩
        · rintro u G nx - ⟨u0, u23, u24, g0, i, c, u25, hi, u8, hf⟩
          have hw : IntKind.i64.wrap (↑i + 1) = ((i + 1 : Nat) : Int) := wrapS (by omega)
          repeat with_reducible refine aw_assoc ?_
          first | with_reducible refine aw_region0 (by decide +kernel) fun K' hK => ?_ | with_reducible refine aw_toS (aw_region0 (by decide +kernel) fun K' hK => ?_)
          simp [u24, u25]
          first | refine hK _ _ _ ?_ | done
          clear K' hK
          repeat with_reducible refine aw_assoc ?_
          first | with_reducible refine aw_condP fun A B hA hB => ?_ | with_reducible refine aw_toS (aw_condP fun A B hA hB => ?_)
          simp []
          refine ⟨fun hi2 => hA ?_, fun hi2 => hB ?_⟩ <;> clear hA hB A B <;> (try simp at hi2) <;> (try with_reducible refine aw_skip ?_)
          · repeat with_reducible refine aw_assoc ?_
            first | with_reducible refine aw_block ?_ | with_reducible refine aw_toS (aw_block ?_)
            have hi3 : (i : Int) < L.length := by omega
            have hdr : L.drop i = nth L i :: L.drop (i + 1) := by rw [nth_eq hi2]; exact List.drop_eq_getElem_cons hi2
            rw [hdr, findGo] at hf
            repeat with_reducible refine aw_assoc ?_
            first | with_reducible refine aw_region0 (by decide +kernel) fun K' hK => ?_ | with_reducible refine aw_toS (aw_region0 (by decide +kernel) fun K' hK => ?_)
            simp [u23, u25, g0, hi2, hi3]
            first | refine hK _ _ _ ?_ | done
            clear K' hK
            repeat with_reducible refine aw_assoc ?_
            first | with_reducible refine aw_region0 (by decide +kernel) fun K' hK => ?_ | with_reducible refine aw_toS (aw_region0 (by decide +kernel) fun K' hK => ?_)
            simp [u0, u8]
            refine acall_flat (child33_ok t c (nth L i) (by omega)) rfl (by simp) ?_
            simp
            first | refine hK _ _ _ ?_ | done
            clear K' hK
            repeat with_reducible refine aw_assoc ?_
            first | with_reducible refine aw_region0 (by decide +kernel) fun K' hK => ?_ | with_reducible refine aw_toS (aw_region0 (by decide +kernel) fun K' hK => ?_)
            simp []
            first | refine hK _ _ _ ?_ | done
            clear K' hK
            cases hcf : chF t c (nth L i) with
            | none =>
              rw [hcf] at hf
              have hneg : atI none < 0 := by simp [atI]
              repeat with_reducible refine aw_assoc ?_
              first | with_reducible refine aw_condP fun A B hA hB => ?_ | with_reducible refine aw_toS (aw_condP fun A B hA hB => ?_)
              simp [hneg]
              refine ⟨fun hc => hA ?_, fun hc => hB ?_⟩ <;> clear hA hB A B <;> (try (simp at hc; done)) <;> (try (exfalso; simp at hc; omega)) <;> clear hc <;> (try with_reducible refine aw_skip ?_)
              repeat with_reducible refine aw_assoc ?_
              first | with_reducible refine aw_region0 (by decide +kernel) fun K' hK => ?_ | with_reducible refine aw_toS (aw_region0 (by decide +kernel) fun K' hK => ?_)
              simp []
              first | refine hK _ _ _ ?_ | done
              clear K' hK
              repeat with_reducible refine aw_assoc ?_
              first | with_reducible refine aw_ret ?_ | with_reducible refine aw_retL ?_ | with_reducible refine aw_skipL ?_
              simp [blockK, loopK, Post, resA, res1, expT, expA, exp1, expM, expL, okT, okA, ok1, rowOf, Tryz.f22]
              rw [hf]; simp
            | some k =>
              rw [hcf] at hf
              have hneg : ¬ atI (some k) < 0 := by simp [atI]
              repeat with_reducible refine aw_assoc ?_
              first | with_reducible refine aw_condP fun A B hA hB => ?_ | with_reducible refine aw_toS (aw_condP fun A B hA hB => ?_)
              simp [hneg]
              refine ⟨fun hc => hA ?_, fun hc => hB ?_⟩ <;> clear hA hB A B <;> (try (simp at hc; done)) <;> (try (exfalso; simp at hc; omega)) <;> clear hc <;> (try with_reducible refine aw_skip ?_)
              first | with_reducible refine aw_skipL ?_ | skip
              refine blockK_normal ?_
              repeat with_reducible refine aw_assoc ?_
              first | with_reducible refine aw_region0 (by decide +kernel) fun K' hK => ?_ | with_reducible refine aw_toS (aw_region0 (by decide +kernel) fun K' hK => ?_)
              simp [u25, hw]
              first | refine hK _ _ _ ?_ | done
              clear K' hK
              refine aw_skipL (loopK_normal ?_ ?_)
              · exact ⟨by simp [u0], by simp [u23], by simp [u24], g0, i + 1, k, by simp [hw], by omega, by simp [atI], hf⟩
              · simp [u25, hw]; omega
          · repeat with_reducible refine aw_assoc ?_
            first | with_reducible refine aw_exit ?_ | with_reducible refine aw_exitL ?_
            refine loopK_exit (blockK_exit ?_)
            have : i = L.length := by omega
            subst this
            rw [List.drop_length, findGo] at hf
            repeat with_reducible refine aw_assoc ?_
            first | with_reducible refine aw_region0 (by decide +kernel) fun K' hK => ?_ | with_reducible refine aw_toS (aw_region0 (by decide +kernel) fun K' hK => ?_)
            simp [u8]
            first | refine hK _ _ _ ?_ | done
            clear K' hK
            repeat with_reducible refine aw_assoc ?_
            first | with_reducible refine aw_ret ?_ | with_reducible refine aw_retL ?_ | with_reducible refine aw_skipL ?_
            simp [blockK, loopK, Post, resA, res1, expT, expA, exp1, expM, expL, okT, okA, ok1, rowOf, Tryz.f22]
            rw [hf]; simp
    · have ef : findF t s = none := by rw [findF, hsf]; simp [c0]
      rw [ef]
      cases l with
      | nil =>
        have e : splitR s = (.tup [.v (.slice none 0 0), bV true], []) := by rw [splitR, hsf]
        rw [e] at hc
        dsimp only at hc
        repeat with_reducible refine aw_assoc ?_
        first | with_reducible refine aw_region0 (by decide +kernel) fun K' hK => ?_ | with_reducible refine aw_toS (aw_region0 (by decide +kernel) fun K' hK => ?_)
        simp []
        refine acall_new hc (by simp) ?_
        simp [addJ_nil]
        first | refine hK _ _ _ ?_ | done
        clear K' hK
        repeat with_reducible refine aw_assoc ?_
        first | with_reducible refine aw_region0 (by decide +kernel) fun K' hK => ?_ | with_reducible refine aw_toS (aw_region0 (by decide +kernel) fun K' hK => ?_)
        simp []
        refine acall_flat (check18_ok t ht) rfl (by simp) ?_
        simp [c0]
        first | refine hK _ _ _ ?_ | done
        clear K' hK
        repeat with_reducible refine aw_assoc ?_
        first | with_reducible refine aw_condP fun A B hA hB => ?_ | with_reducible refine aw_toS (aw_condP fun A B hA hB => ?_)
        simp []
        refine ⟨fun hc => hA ?_, fun hc => hB ?_⟩ <;> clear hA hB A B <;> (try (simp at hc; done)) <;> (try (exfalso; simp at hc; omega)) <;> clear hc <;> (try with_reducible refine aw_skip ?_)
        repeat with_reducible refine aw_assoc ?_
        first | with_reducible refine aw_region0 (by decide +kernel) fun K' hK => ?_ | with_reducible refine aw_toS (aw_region0 (by decide +kernel) fun K' hK => ?_)
        simp []
        first | refine hK _ _ _ ?_ | done
        clear K' hK
        repeat with_reducible refine aw_assoc ?_
        first | with_reducible refine aw_ret ?_ | with_reducible refine aw_retL ?_ | with_reducible refine aw_skipL ?_
        simp [blockK, loopK, Post, resA, res1, expT, expA, exp1, expM, expL, okT, okA, ok1, rowOf, Tryz.f22]
      | cons a l =>
        have e : splitR s = (.tup [.row 0 (a :: l).length, bV true], [(9, flat sC (a :: l))]) := by rw [splitR, hsf]
        rw [e] at hc
        dsimp only at hc
        repeat with_reducible refine aw_assoc ?_
        first | with_reducible refine aw_region0 (by decide +kernel) fun K' hK => ?_ | with_reducible refine aw_toS (aw_region0 (by decide +kernel) fun K' hK => ?_)
        simp []
        refine acall_new hc (by simp) ?_
        simp [addJ_one]
        first | refine hK _ _ _ ?_ | done
        clear K' hK
        repeat with_reducible refine aw_assoc ?_
        first | with_reducible refine aw_region0 (by decide +kernel) fun K' hK => ?_ | with_reducible refine aw_toS (aw_region0 (by decide +kernel) fun K' hK => ?_)
        simp []
        refine acall_flat (check18_ok t ht) rfl (by simp) ?_
        simp [c0]
        first | refine hK _ _ _ ?_ | done
        clear K' hK
        repeat with_reducible refine aw_assoc ?_
        first | with_reducible refine aw_condP fun A B hA hB => ?_ | with_reducible refine aw_toS (aw_condP fun A B hA hB => ?_)
        simp []
        refine ⟨fun hc => hA ?_, fun hc => hB ?_⟩ <;> clear hA hB A B <;> (try (simp at hc; done)) <;> (try (exfalso; simp at hc; omega)) <;> clear hc <;> (try with_reducible refine aw_skip ?_)
        repeat with_reducible refine aw_assoc ?_
        first | with_reducible refine aw_region0 (by decide +kernel) fun K' hK => ?_ | with_reducible refine aw_toS (aw_region0 (by decide +kernel) fun K' hK => ?_)
        simp []
        first | refine hK _ _ _ ?_ | done
        clear K' hK
        repeat with_reducible refine aw_assoc ?_
        first | with_reducible refine aw_ret ?_ | with_reducible refine aw_retL ?_ | with_reducible refine aw_skipL ?_
        simp [blockK, loopK, Post, resA, res1, expT, expA, exp1, expM, expL, okT, okA, ok1, rowOf, Tryz.f22]
end Go.Proofs.YtomidniaekeafaaGreatDoorAbs
/- tree.Below. -/
namespace Go.Proofs.YtomidniaekeafaaGreatDoorAbs
set_option linter.unusedSimpArgs false
set_option linter.unusedVariables false
open Go Go.RowKit Go.Proofs
set_option maxRecDepth 100000
set_option maxHeartbeats 1000000
def belowK (t : List Pl) (i : Nat) (k : Nat) : List Int := ((List.range k).filter fun j => decide (i ≤ j) && underF t j i).map fun (j : Nat) => (j : Int)
def belowL (t : List Pl) (i : Int) : List Int := if holdsF t i then belowK t i.toNat t.length else []
theorem belowK_succ {t : List Pl} {i k : Nat} (h : i ≤ k) : belowK t i (k + 1) = belowK t i k ++ if underF t k i = true then [(k : Int)] else [] := by
  unfold belowK
  rw [List.range_succ, List.filter_append, List.map_append]
  congr 1
  cases hu : underF t k i <;> simp [hu, h]
theorem belowK_len {t : List Pl} {i k : Nat} : (belowK t i k).length ≤ k := by
  have := List.length_filter_le (fun j => decide (i ≤ j) && underF t j i) (List.range k)
  simpa [belowK] using this
theorem below28_ok (t : List Pl) (ht : OKs t) (i : Int) : CallsOK Tryz.prog 28 [rowT Pl.cells t, iV i] (.row 0 (belowL t i).length) [(3, flat iC (belowL t i))] := by
  refine callsOK mixed Tryz.call28 Tryz.func28 rfl (by rw [Tryz.ntmps28]; simp) ?_ rfl
  rw [Tryz.ntmps28]
  repeat with_reducible refine aw_assoc ?_
  first | with_reducible refine aw_region0 (by decide +kernel) fun K' hK => ?_ | with_reducible refine aw_toS (aw_region0 (by decide +kernel) fun K' hK => ?_)
  simp []
  first | refine hK _ _ _ ?_ | done
  clear K' hK
  repeat with_reducible refine aw_assoc ?_
  first | with_reducible refine aw_region0 (by decide +kernel) fun K' hK => ?_ | with_reducible refine aw_toS (aw_region0 (by decide +kernel) fun K' hK => ?_)
  simp []
  refine acall_flat (holds43_ok t ht i) rfl (by simp) ?_
  cases hh : holdsF t i with
  | false =>
    have e : belowL t i = [] := by rw [belowL, hh]; rfl
    simp
    first | refine hK _ _ _ ?_ | done
    clear K' hK
    repeat with_reducible refine aw_assoc ?_
    first | with_reducible refine aw_condP fun A B hA hB => ?_ | with_reducible refine aw_toS (aw_condP fun A B hA hB => ?_)
    simp []
    refine ⟨fun hc => hA ?_, fun hc => hB ?_⟩ <;> clear hA hB A B <;> (try (simp at hc; done)) <;> (try (exfalso; simp at hc; omega)) <;> clear hc <;> (try with_reducible refine aw_skip ?_)
    repeat with_reducible refine aw_assoc ?_
    first | with_reducible refine aw_region0 (by decide +kernel) fun K' hK => ?_ | with_reducible refine aw_toS (aw_region0 (by decide +kernel) fun K' hK => ?_)
    simp []
    first | refine hK _ _ _ ?_ | done
    clear K' hK
    repeat with_reducible refine aw_assoc ?_
    first | with_reducible refine aw_ret ?_ | with_reducible refine aw_retL ?_ | with_reducible refine aw_skipL ?_
    simp [blockK, loopK, Post, resA, res1, expT, expA, exp1, expM, expL, okT, okA, ok1, rowOf, Tryz.f28]
    rw [e]
    exact ⟨[1], ⟨rfl, rfl⟩, rfl⟩
  | true =>
    obtain ⟨hch, hi0, hi1⟩ := holdsF_inv hh
    obtain ⟨n, rfl⟩ : ∃ n : Nat, i = n := ⟨i.toNat, by omega⟩
    have hn : n < t.length := by omega
    have hd := good_dn hch
    have hl := ht.1
    have e : belowL t n = belowK t n t.length := by rw [belowL, hh]; simp
    have hk0 : belowK t n n = [] := by
      unfold belowK
      rw [show (List.range n).filter (fun j => decide (n ≤ j) && underF t j n) = [] from List.filter_eq_nil_iff.2 (fun j hj => by have := List.mem_range.1 hj; simp; omega)]; rfl
    simp
    first | refine hK _ _ _ ?_ | done
    clear K' hK
    repeat with_reducible refine aw_assoc ?_
    first | with_reducible refine aw_condP fun A B hA hB => ?_ | with_reducible refine aw_toS (aw_condP fun A B hA hB => ?_)
    simp []
    refine ⟨fun hc => hA ?_, fun hc => hB ?_⟩ <;> clear hA hB A B <;> (try (simp at hc; done)) <;> (try (exfalso; simp at hc; omega)) <;> clear hc <;> (try with_reducible refine aw_skip ?_)
    repeat with_reducible refine aw_assoc ?_
    first | with_reducible refine aw_region0 (by decide +kernel) fun K' hK => ?_ | with_reducible refine aw_toS (aw_region0 (by decide +kernel) fun K' hK => ?_)
    simp []
    first | refine hK _ _ _ ?_ | done
    clear K' hK
    repeat with_reducible refine aw_assoc ?_
    first | with_reducible refine aw_region0 (by decide +kernel) fun K' hK => ?_ | with_reducible refine aw_toS (aw_region0 (by decide +kernel) fun K' hK => ?_)
    simp []
    first | refine hK _ _ _ ?_ | done
    clear K' hK
    repeat with_reducible refine aw_assoc ?_
    first | with_reducible refine aw_block ?_ | with_reducible refine aw_toS (aw_block ?_)
    refine aw_loop (fun u G nx => u 0 = rowT Pl.cells t ∧ u 1 = iV n ∧ ∃ k r : Nat, u 6 = iV k ∧ n ≤ k ∧ k ≤ t.length ∧ u 5 = .row r (belowK t n k).length ∧ G r = some (.row 3 (flat iC (belowK t n k))) ∧ r < nx) (fun u _ _ => match u 6 with | .v (.int _ n) => t.length - n.toNat | _ => 0) ?_ ?_
    · exact ⟨by simp, by simp, n, 1, by simp, by omega, by omega, by simp [hk0], by simp [hk0], by omega⟩
    · rintro u G nx - ⟨u0, u1, k, r, u6, hnk, hk, u5, gr, hrn⟩
      have hw : IntKind.i64.wrap (↑k + 1) = ((k + 1 : Nat) : Int) := wrapS (by omega)
      have hbs := belowK_succ (t := t) hnk
      have hlen := belowK_len (t := t) (i := n) (k := k)
      repeat with_reducible refine aw_assoc ?_
      first | with_reducible refine aw_region0 (by decide +kernel) fun K' hK => ?_ | with_reducible refine aw_toS (aw_region0 (by decide +kernel) fun K' hK => ?_)
      simp [u0, u6]
      first | refine hK _ _ _ ?_ | done
      clear K' hK
      repeat with_reducible refine aw_assoc ?_
      first | with_reducible refine aw_condP fun A B hA hB => ?_ | with_reducible refine aw_toS (aw_condP fun A B hA hB => ?_)
      simp []
      refine ⟨fun hi2 => hA ?_, fun hi2 => hB ?_⟩ <;> clear hA hB A B <;> (try simp at hi2) <;> (try with_reducible refine aw_skip ?_)
      · repeat with_reducible refine aw_assoc ?_
        first | with_reducible refine aw_block ?_ | with_reducible refine aw_toS (aw_block ?_)
        repeat with_reducible refine aw_assoc ?_
        first | with_reducible refine aw_region0 (by decide +kernel) fun K' hK => ?_ | with_reducible refine aw_toS (aw_region0 (by decide +kernel) fun K' hK => ?_)
        simp [u0, u1, u6]
        refine acall_flat (under40_ok t hd hl k hi2 n) rfl (by simp) ?_
        simp
        first | refine hK _ _ _ ?_ | done
        clear K' hK
        cases hu : underF t k n with
        | true =>
          rw [hu] at hbs
          have b1 : (belowK t n k).length + 1 ≤ 9223372036854775807 := by omega
          have b2 : ((belowK t n k).length + 1) * 8 ≤ 140737488355328 := by omega
          have n1 : ¬ r = nx := by omega
          repeat with_reducible refine aw_assoc ?_
          first | with_reducible refine aw_condP fun A B hA hB => ?_ | with_reducible refine aw_toS (aw_condP fun A B hA hB => ?_)
          simp []
          refine ⟨fun hc => hA ?_, fun hc => hB ?_⟩ <;> clear hA hB A B <;> (try (simp at hc; done)) <;> (try (exfalso; simp at hc; omega)) <;> clear hc <;> (try with_reducible refine aw_skip ?_)
          repeat with_reducible refine aw_assoc ?_
          first | with_reducible refine aw_region0 (by decide +kernel) fun K' hK => ?_ | with_reducible refine aw_toS (aw_region0 (by decide +kernel) fun K' hK => ?_)
          simp [u5, u6, gr, b1, b2, n1, treeOf_row, srcOf_row]
          first | refine hK _ _ _ ?_ | done
          clear K' hK
          first | with_reducible refine aw_skipL ?_ | skip
          refine blockK_normal ?_
          repeat with_reducible refine aw_assoc ?_
          first | with_reducible refine aw_region0 (by decide +kernel) fun K' hK => ?_ | with_reducible refine aw_toS (aw_region0 (by decide +kernel) fun K' hK => ?_)
          simp [u6, hw]
          first | refine hK _ _ _ ?_ | done
          clear K' hK
          refine aw_skipL (loopK_normal ?_ ?_)
          · refine ⟨by simp [u0], by simp [u1], k + 1, nx + 1, by simp [hw], by omega, by omega, ?_, ?_, by omega⟩
            · rw [hbs]; simp
            · rw [hbs, if_pos rfl, Hp.upd_self, ← flat_app]; rfl
          · simp [u6, hw]; omega
        | false =>
          rw [hu] at hbs
          have hbs' : belowK t n (k + 1) = belowK t n k := by rw [hbs]; simp
          repeat with_reducible refine aw_assoc ?_
          first | with_reducible refine aw_condP fun A B hA hB => ?_ | with_reducible refine aw_toS (aw_condP fun A B hA hB => ?_)
          simp []
          refine ⟨fun hc => hA ?_, fun hc => hB ?_⟩ <;> clear hA hB A B <;> (try (simp at hc; done)) <;> (try (exfalso; simp at hc; omega)) <;> clear hc <;> (try with_reducible refine aw_skip ?_)
          first | with_reducible refine aw_skipL ?_ | skip
          refine blockK_normal ?_
          repeat with_reducible refine aw_assoc ?_
          first | with_reducible refine aw_region0 (by decide +kernel) fun K' hK => ?_ | with_reducible refine aw_toS (aw_region0 (by decide +kernel) fun K' hK => ?_)
          simp [u6, hw]
          first | refine hK _ _ _ ?_ | done
          clear K' hK
          refine aw_skipL (loopK_normal ?_ ?_)
          · exact ⟨by simp [u0], by simp [u1], k + 1, r, by simp [hw], by omega, by omega, by rw [hbs']; simp [u5], by rw [hbs']; exact gr, hrn⟩
          · simp [u6, hw]; omega
      · repeat with_reducible refine aw_assoc ?_
        first | with_reducible refine aw_exit ?_ | with_reducible refine aw_exitL ?_
        refine loopK_exit (blockK_exit ?_)
        have : k = t.length := by omega
        subst this
        repeat with_reducible refine aw_assoc ?_
        first | with_reducible refine aw_region0 (by decide +kernel) fun K' hK => ?_ | with_reducible refine aw_toS (aw_region0 (by decide +kernel) fun K' hK => ?_)
        simp [u5]
        first | refine hK _ _ _ ?_ | done
        clear K' hK
        repeat with_reducible refine aw_assoc ?_
        first | with_reducible refine aw_ret ?_ | with_reducible refine aw_retL ?_ | with_reducible refine aw_skipL ?_
        simp [blockK, loopK, Post, resA, res1, expT, expA, exp1, expM, expL, okT, okA, ok1, rowOf, Tryz.f28, gr]
        rw [e]
        exact ⟨[r], ⟨rfl, rfl⟩, by simp [rowOf, gr]⟩
end Go.Proofs.YtomidniaekeafaaGreatDoorAbs
/- What stands: closed facts. -/
namespace Go.Proofs.YtomidniaekeafaaGreatDoorAbs
set_option linter.unusedSimpArgs false
set_option linter.unusedVariables false
open Go Go.RowKit Go.Proofs
set_option maxRecDepth 100000
set_option maxHeartbeats 400000
def fourT : List Pl := [rootP, ⟨0, ⟨#[97]⟩, ⟨1, 0, 0, ⟨#[]⟩⟩⟩, ⟨0, ⟨#[98]⟩, ⟨1, 0, 0, ⟨#[]⟩⟩⟩, ⟨1, ⟨#[98]⟩, ⟨2, 0, 0, ⟨#[]⟩⟩⟩]
def v1 : Ver := ⟨1, 0, 0, ⟨#[]⟩⟩
def v0 : Ver := ⟨0, 0, 0, ⟨#[]⟩⟩
def pthB : Bs := ⟨#[110, 111, 100, 101, 95, 109, 111, 100, 117, 108, 101, 115, 47, 97, 47, 110, 111, 100, 101, 95, 109, 111, 100, 117, 108, 101, 115, 47, 98]⟩
theorem s_check : checkN fourT = 0 := by decide +kernel
theorem s_holds : holdsF fourT 3 = true := by decide +kernel
theorem s_path : pathOf fourT 3 = pthB := by decide +kernel
theorem s_cutc : cutCode fourT 1 = 0 := by decide +kernel
theorem s_cut : cutR fourT 1 = [rootP, ⟨0, ⟨#[98]⟩, v1⟩] := by decide +kernel
theorem s_addc : addCode [rootP] 0 ⟨#[97]⟩ v1 = 0 := by decide +kernel
theorem s_addi : addI [rootP] 0 ⟨#[97]⟩ v1 = 1 := by decide +kernel
theorem s_add : addR [rootP] 0 ⟨#[97]⟩ v1 = fourT.take 2 := by decide +kernel
theorem s_addc2 : addCode fourT 1 ⟨#[98]⟩ v0 = 152 := by decide +kernel
theorem s_find : findF fourT pthB = some 3 := by decide +kernel
theorem s_res1 : resolveN fourT 3 ⟨#[98]⟩ = 3 := by decide +kernel
theorem s_res2 : resolveN fourT 1 ⟨#[98]⟩ = 3 := by decide +kernel
theorem s_res3 : resolveN fourT 2 ⟨#[98]⟩ = 2 := by decide +kernel
theorem s_res4 : resolveN fourT 2 ⟨#[99]⟩ = -1 := by decide +kernel
theorem s_nil : checkN [] = 150 := by decide +kernel
end Go.Proofs.YtomidniaekeafaaGreatDoorAbs
/- hoggetlaw15.stands. -/
namespace Go.Proofs.YtomidniaekeafaaGreatDoorAbs
set_option linter.unusedSimpArgs false
set_option linter.unusedVariables false
open Go Go.RowKit Go.Proofs
set_option maxRecDepth 100000
set_option maxHeartbeats 1000000
theorem okFour : OKs fourT := ⟨by decide, by decide +kernel⟩
theorem okNew : OKs [rootP] := ⟨by decide, by decide +kernel⟩
theorem c_four : CallsOK Tryz.prog 42 [] (.row 0 4) [(34, flat Pl.cells fourT)] := four42_ok
theorem c_path : CallsOK Tryz.prog 21 [rowT Pl.cells fourT, iV 3] (.tup [sV pthB, bV true]) [] := by
  have := path21_ok fourT okFour 3
  rw [s_path, s_holds] at this; exact this
theorem c_cut : CallsOK Tryz.prog 14 [rowT Pl.cells fourT, iV 1] (.tup [.row 0 2, iV 0]) [(34, flat Pl.cells [rootP, ⟨0, ⟨#[98]⟩, v1⟩])] := by
  have := cut14_ok fourT okFour 1
  rw [s_cut, s_cutc] at this; exact this
theorem c_add : CallsOK Tryz.prog 12 [rowT Pl.cells [rootP], iV 0, sV ⟨#[97]⟩, .agg v1.cells] (.tup [.row 0 2, iV 1, iV 0]) [(34, flat Pl.cells (fourT.take 2))] := by
  have := add12_ok [rootP] okNew 0 ⟨#[97]⟩ v1 (by decide) (by decide)
  rw [s_add, s_addc, s_addi] at this; exact this
theorem c_add2 : CallsOK Tryz.prog 12 [rowT Pl.cells fourT, iV 1, sV ⟨#[98]⟩, .agg v0.cells] (.tup [.row 0 0, iV 0, iV 152]) [(34, flat Pl.cells [])] := by
  have := add12_ok fourT okFour 1 ⟨#[98]⟩ v0 (by decide) (by decide)
  have e1 : addR fourT 1 ⟨#[98]⟩ v0 = [] := by rw [addR, s_addc2]; rfl
  have e2 : addI fourT 1 ⟨#[98]⟩ v0 = 0 := by rw [addI, s_addc2]; rfl
  rw [e1, e2, s_addc2] at this; exact this
theorem c_find : CallsOK Tryz.prog 22 [rowT Pl.cells fourT, sV pthB] (.tup [iV 3, bV true]) [] := by
  have := find22_ok fourT okFour pthB (by decide)
  rw [s_find] at this; exact this
theorem c_res1 : CallsOK Tryz.prog 19 [rowT Pl.cells fourT, iV 3, sV ⟨#[98]⟩] (iV 3) [] := by
  have := resolve19_ok fourT okFour 3 ⟨#[98]⟩; rw [s_res1] at this; exact this
theorem c_res2 : CallsOK Tryz.prog 19 [rowT Pl.cells fourT, iV 1, sV ⟨#[98]⟩] (iV 3) [] := by
  have := resolve19_ok fourT okFour 1 ⟨#[98]⟩; rw [s_res2] at this; exact this
theorem c_res3 : CallsOK Tryz.prog 19 [rowT Pl.cells fourT, iV 2, sV ⟨#[98]⟩] (iV 2) [] := by
  have := resolve19_ok fourT okFour 2 ⟨#[98]⟩; rw [s_res3] at this; exact this
theorem c_res4 : CallsOK Tryz.prog 19 [rowT Pl.cells fourT, iV 2, sV ⟨#[99]⟩] (iV (-1)) [] := by
  have := resolve19_ok fourT okFour 2 ⟨#[99]⟩; rw [s_res4] at this; exact this
theorem c_nil : CallsOK Tryz.prog 18 [.v (.slice none 0 0)] (iV 150) [] := by
  have := check18_ok [] ⟨by decide, by simp⟩
  rw [s_nil] at this; exact this.weak (.cons .nilRow .nil)
end Go.Proofs.YtomidniaekeafaaGreatDoorAbs
/- hoggetlaw15.stands, walked. -/
namespace Go.Proofs.YtomidniaekeafaaGreatDoorAbs
set_option linter.unusedSimpArgs false
set_option linter.unusedVariables false
open Go Go.RowKit Go.Proofs
set_option maxRecDepth 100000
set_option maxHeartbeats 2000000
theorem elI22 : ∃ z, elI Tryz.prog 22 = some (34, 6, 64, z) := ⟨[.int .i64 0, .string ⟨#[]⟩, .int .i64 0, .int .i64 0, .int .i64 0, .string ⟨#[]⟩], by kernel_rfl⟩
theorem slice_two {G : Hp} (hG : G 0 = some (.frz 34 (flat Pl.cells fourT))) {lo hi : Nat → Option Nat} (h0 : lo 0 = some 0) (h1 : hi 4 = some 2) : evSlice Tryz.prog G 22 (.row 0 4) lo hi = some (rowT Pl.cells (fourT.take 2), frzOf G (.row 0 4)) := by
  obtain ⟨z, hz⟩ := elI22
  have := evSlice_tree (c := Pl.cells) (l := fourT) (x := .row 0 4) (fun y h => by cases h) hz (treeOf_of' hG (by kernel_rfl) rfl) h0 h1 (by decide)
  simpa using this
theorem stands17_ok : CallsOK Tryz.prog 17 [] (bV true) [] := by
  refine callsOK mixed Tryz.call17 Tryz.func17 rfl (by rw [Tryz.ntmps17]; simp) ?_ rfl
  rw [Tryz.ntmps17]
  have c34 : Tryz.prog.cellsOf 34 = 6 := by kernel_rfl
  repeat with_reducible refine aw_assoc ?_
  first | with_reducible refine aw_region0 (by decide +kernel) fun K' hK => ?_ | with_reducible refine aw_toS (aw_region0 (by decide +kernel) fun K' hK => ?_)
  simp []
  first | refine hK _ _ _ ?_ | done
  clear K' hK
  repeat with_reducible refine aw_assoc ?_
  first | with_reducible refine aw_region0 (by decide +kernel) fun K' hK => ?_ | with_reducible refine aw_toS (aw_region0 (by decide +kernel) fun K' hK => ?_)
  simp []
  refine acall_new c_four (by simp) ?_
  simp [addJ_one]
  first | refine hK _ _ _ ?_ | done
  clear K' hK
  refine aw_gen (fun s G nx => s 1 = .row 0 4 ∧ nx = 1 ∧ G 0 = some (.row 34 (flat Pl.cells fourT))) ?_ ?_
  · simp
  rintro s G nx ⟨s1, rfl, g0⟩
  have ht : treeOf Tryz.prog G (.row 0 4) = some (rowT Pl.cells fourT) := treeOf_of g0 c34 rfl
  repeat with_reducible refine aw_assoc ?_
  first | with_reducible refine aw_region0 (by decide +kernel) fun K' hK => ?_ | with_reducible refine aw_toS (aw_region0 (by decide +kernel) fun K' hK => ?_)
  simp [s1]
  refine acall_flat c_path rfl (by simp [ht]) ?_
  simp
  first | refine hK _ _ _ ?_ | done
  clear K' hK
  repeat with_reducible refine aw_assoc ?_
  first | with_reducible refine aw_region0 (by decide +kernel) fun K' hK => ?_ | with_reducible refine aw_toS (aw_region0 (by decide +kernel) fun K' hK => ?_)
  simp [s1]
  refine acall_new c_cut (by simp [ht]) ?_
  simp [addJ_one, ht, frzOf_row, g0]
  first | refine hK _ _ _ ?_ | done
  clear K' hK
  refine aw_gen (fun s G nx => s 1 = .row 0 4 ∧ s 2 = sV pthB ∧ s 3 = bV true ∧ s 4 = .row 1 2 ∧ s 5 = iV 0 ∧ nx = 2 ∧ G 0 = some (.frz 34 (flat Pl.cells fourT)) ∧ G 1 = some (.row 34 (flat Pl.cells [rootP, ⟨0, ⟨#[98]⟩, v1⟩]))) ?_ ?_
  · simp [s1]
    rfl
  rintro s G nx ⟨s1, s2, s3, s4, s5, rfl, g0, g1⟩
  have ht : treeOf Tryz.prog G (.row 0 4) = some (rowT Pl.cells fourT) := treeOf_of' g0 c34 rfl
  repeat with_reducible refine aw_assoc ?_
  first | with_reducible refine aw_region0 (by decide +kernel) fun K' hK => ?_ | with_reducible refine aw_toS (aw_region0 (by decide +kernel) fun K' hK => ?_)
  simp []
  refine acall_new new20_ok (by simp) ?_
  simp [addJ_one]
  refine acall_new c_add (by simp [treeOf_row, c34]; exact ⟨rfl, rfl⟩) ?_
  simp [addJ_one, treeOf_row, frzOf_row, g0, g1, c34]
  first | refine hK _ _ _ ?_ | done
  clear K' hK
  refine aw_gen (fun s G nx => s 1 = .row 0 4 ∧ s 2 = sV pthB ∧ s 3 = bV true ∧ s 4 = .row 1 2 ∧ s 5 = iV 0 ∧ s 6 = .row 3 2 ∧ s 7 = iV 1 ∧ s 8 = iV 0 ∧ nx = 4 ∧ G 0 = some (.frz 34 (flat Pl.cells fourT)) ∧ G 1 = some (.row 34 (flat Pl.cells [rootP, ⟨0, ⟨#[98]⟩, v1⟩])) ∧ G 3 = some (.row 34 (flat Pl.cells (fourT.take 2)))) ?_ ?_
  · simp [s1, s2, s3, s4, s5]
    exact ⟨g0, g1⟩
  rintro s G nx ⟨s1, s2, s3, s4, s5, s6, s7, s8, rfl, g0, g1, g3⟩
  have ht : treeOf Tryz.prog G (.row 0 4) = some (rowT Pl.cells fourT) := treeOf_of' g0 c34 rfl
  repeat with_reducible refine aw_assoc ?_
  first | with_reducible refine aw_region0 (by decide +kernel) fun K' hK => ?_ | with_reducible refine aw_toS (aw_region0 (by decide +kernel) fun K' hK => ?_)
  simp [s1]
  refine acall_new c_add2 (by simp [ht]; rfl) ?_
  simp [addJ_one, ht, frzOf_row, g0]
  first | refine hK _ _ _ ?_ | done
  clear K' hK
  refine aw_gen (fun s G nx => s 1 = .row 0 4 ∧ s 2 = sV pthB ∧ s 3 = bV true ∧ s 4 = .row 1 2 ∧ s 5 = iV 0 ∧ s 6 = .row 3 2 ∧ s 7 = iV 1 ∧ s 8 = iV 0 ∧ s 11 = iV 152 ∧ nx = 5 ∧ G 0 = some (.frz 34 (flat Pl.cells fourT)) ∧ G 1 = some (.row 34 (flat Pl.cells [rootP, ⟨0, ⟨#[98]⟩, v1⟩])) ∧ G 3 = some (.row 34 (flat Pl.cells (fourT.take 2)))) ?_ ?_
  · simp [s1, s2, s3, s4, s5, s6, s7, s8]
    exact ⟨g0, g1, g3⟩
  rintro s G nx ⟨s1, s2, s3, s4, s5, s6, s7, s8, s11, rfl, g0, g1, g3⟩
  have ht : treeOf Tryz.prog G (.row 0 4) = some (rowT Pl.cells fourT) := treeOf_of' g0 c34 rfl
  repeat with_reducible refine aw_assoc ?_
  first | with_reducible refine aw_region0 (by decide +kernel) fun K' hK => ?_ | with_reducible refine aw_toS (aw_region0 (by decide +kernel) fun K' hK => ?_)
  simp [s1]
  refine acall_flat c_find rfl (by simp [ht]; rfl) ?_
  simp
  first | refine hK _ _ _ ?_ | done
  clear K' hK
  repeat with_reducible refine aw_assoc ?_
  first | with_reducible refine aw_region0 (by decide +kernel) fun K' hK => ?_ | with_reducible refine aw_toS (aw_region0 (by decide +kernel) fun K' hK => ?_)
  simp [s1]
  refine acall_flat c_res1 rfl (by simp [ht]) ?_
  simp [s1]
  refine acall_flat c_res2 rfl (by simp [ht]) ?_
  simp [s1]
  refine acall_flat c_res3 rfl (by simp [ht]) ?_
  simp [s1]
  refine acall_flat c_res4 rfl (by simp [ht]) ?_
  simp [s2, s3, pthB]
  first | refine hK _ _ _ ?_ | done
  clear K' hK
  have ht1 : treeOf Tryz.prog G (.row 1 2) = some (rowT Pl.cells [rootP, ⟨0, ⟨#[98]⟩, v1⟩]) := treeOf_of g1 c34 rfl
  have ht3 : treeOf Tryz.prog G (.row 3 2) = some (rowT Pl.cells (fourT.take 2)) := treeOf_of g3 c34 rfl
  repeat with_reducible refine aw_assoc ?_
  first | with_reducible refine aw_region0 (by decide +kernel) fun K' hK => ?_ | with_reducible refine aw_toS (aw_region0 (by decide +kernel) fun K' hK => ?_)
  simp [s1, s4, s5, s6, s7, s8, s11, List.range_succ]
  refine acall_flat (same16_ok [rootP, ⟨0, ⟨#[98]⟩, v1⟩] [rootP, ⟨0, ⟨#[98]⟩, v1⟩] (by decide)) rfl (by simp [treeOf_row, g1, c34]; exact ⟨rfl, rfl⟩) ?_
  simp [s1, s6, s7, s8, s11, slice_two, g0, bnd_some, frzOf_row]
  refine acall_flat (same16_ok (fourT.take 2) (fourT.take 2) (by decide)) rfl (by simp [treeOf_row, g3, c34]; rfl) ?_
  simp [s11]
  refine acall_flat c_nil rfl (by simp) ?_
  simp
  first | refine hK _ _ _ ?_ | done
  clear K' hK
  repeat with_reducible refine aw_assoc ?_
  first | with_reducible refine aw_ret ?_ | with_reducible refine aw_retL ?_ | with_reducible refine aw_skipL ?_
  simp [blockK, loopK, Post, resA, res1, expT, expA, exp1, expM, expL, okT, okA, ok1, rowOf, Tryz.f17]
end Go.Proofs.YtomidniaekeafaaGreatDoorAbs
/- Right trees, in plain words. -/
namespace Go.Proofs.YtomidniaekeafaaGreatDoorAbs
set_option linter.unusedSimpArgs false
set_option linter.unusedVariables false
open Go Go.RowKit Go.Proofs
set_option maxHeartbeats 400000
theorem nth_setG {α : Type} [Inhabited α] {l : List α} {i k : Nat} {a : α} (hi : i < l.length) : nth (l.set i a) k = if k = i then a else nth l k := by
  unfold nth
  rw [List.getD_eq_getElem?_getD, List.getD_eq_getElem?_getD, List.getElem?_set]
  by_cases h : i = k
  · subst h; simp [hi]
  · have h' : ¬ k = i := fun e => h e.symm
    simp [h, h']
theorem nth_app_lt {α : Type} [Inhabited α] {l m : List α} {i : Nat} (h : i < l.length) : nth (l ++ m) i = nth l i := by
  rw [nth_eq (by simp; omega), nth_eq h, List.getElem_append_left h]
theorem nth_app_eq {α : Type} [Inhabited α] {l : List α} {a : α} {m : List α} : nth (l ++ a :: m) l.length = a := by
  rw [nth_eq (by simp), List.getElem_append_right (Nat.le_refl _)]; simp
/-- A tree is right. -/
structure Good (t : List Pl) : Prop where
  le : t.length ≤ 200
  pos : 0 < t.length
  root : nth t 0 = rootP
  par : ∀ j, 1 ≤ j → j < t.length → 0 ≤ parN t j ∧ parN t j < j
  right : ∀ j, 1 ≤ j → j < t.length → rightF (nth t j).name (nth t j).ver = true
  uniq : ∀ j k, 1 ≤ j → j < k → k < t.length → parN t j = parN t k → (nth t j).name = (nth t k).name → False
  high : ∀ j, 1 ≤ j → j < t.length → (upN t j).length ≤ 13
theorem dn_of {t : List Pl} (h0 : parN t 0 = -1) (hp : ∀ j, 1 ≤ j → j < t.length → 0 ≤ parN t j ∧ parN t j < j) : Dn t := by
  intro i hi
  rcases Nat.eq_zero_or_pos i with rfl | h
  · rw [h0]; omega
  · exact (hp i h hi).2
theorem root_par {t : List Pl} (h : nth t 0 = rootP) : parN t 0 = -1 := by rw [parN, h]; rfl
theorem Good.dn {t : List Pl} (g : Good t) : Dn t := dn_of (root_par g.root) g.par
theorem up_zero {t : List Pl} (h0 : parN t 0 = -1) : upN t 0 = [0] := by
  unfold upN
  rw [upF, if_pos (by omega)]
theorem up_pos {t : List Pl} {i : Nat} : 1 ≤ (upN t i).length := by
  unfold upN
  rw [upF]; simp
theorem dD_val {t : List Pl} (h0 : parN t 0 = -1) (hp : ∀ j, 1 ≤ j → j < t.length → 0 ≤ parN t j ∧ parN t j < j) : ∀ i, i < t.length → ∀ j, j ≤ i → nth (dD t i) j + 1 = ((upN t j).length : Int)
  | 0, hi, j, hj => by
    have : j = 0 := by omega
    subst this
    rw [up_zero h0, dD, nth_eq (by simpa using hi)]
    simp
  | i + 1, hi, j, hj => by
    have ih := dD_val h0 hp i (by omega)
    rw [dD, nth_setG (by rw [dD_len]; exact hi), nth_tail hi]
    by_cases h : j = i + 1
    · subst h
      obtain ⟨h1, h2⟩ := hp (i + 1) (by omega) hi
      have hq : (nth t (i + 1)).par = parN t (i + 1) := rfl
      rw [if_pos rfl, hq, ih _ (by omega), up_step (dn_of h0 hp) hi, if_neg (by omega)]
      simp
    · rw [if_neg h]
      exact ih j (by omega)
theorem mem_keys {t : List Pl} {i : Nat} (h : i < t.length) {k : Key} : k ∈ keysTo t i ↔ ∃ j, 1 ≤ j ∧ j ≤ i ∧ keyP (nth t j) = k := by
  unfold keysTo
  rw [List.mem_map]
  constructor
  · rintro ⟨p, hp, rfl⟩
    obtain ⟨j, hj, rfl⟩ := List.mem_iff_getElem.1 hp
    rw [List.length_take, List.length_tail] at hj
    refine ⟨j + 1, by omega, by omega, ?_⟩
    rw [List.getElem_take, nth_eq (by omega)]
    simp
  · rintro ⟨j, h1, h2, rfl⟩
    obtain ⟨j, rfl⟩ : ∃ m, j = m + 1 := ⟨j - 1, by omega⟩
    refine ⟨nth t (j + 1), List.mem_iff_getElem.2 ⟨j, by rw [List.length_take, List.length_tail]; omega, ?_⟩, rfl⟩
    rw [List.getElem_take, nth_eq (by omega)]
    simp
theorem okAt_iff {t : List Pl} {i : Nat} (h : i + 1 < t.length) : okAt t i = true ↔ (0 ≤ parN t (i + 1) ∧ parN t (i + 1) ≤ i) ∧ rightF (nth t (i + 1)).name (nth t (i + 1)).ver = true ∧
    (∀ j, 1 ≤ j → j ≤ i → parN t j = parN t (i + 1) → (nth t j).name = (nth t (i + 1)).name → False) ∧ nth (dD t i) (parN t (i + 1)).toNat + 1 ≤ 12 := by
  have hk : keyP (nth t (i + 1)) ∉ keysTo t i ↔ (∀ j, 1 ≤ j → j ≤ i → parN t j = parN t (i + 1) → (nth t j).name = (nth t (i + 1)).name → False) := by
    rw [mem_keys (by omega)]
    constructor
    · intro h j h1 h2 h3 h4
      refine h ⟨j, h1, h2, ?_⟩
      unfold keyP
      rw [h4]
      exact congrArg (Key.mk · _) h3
    · rintro h ⟨j, h1, h2, h3⟩
      unfold keyP at h3
      injection h3 with h3 h4
      exact h j h1 h2 h3 h4
  simp only [okAt, Bool.and_eq_true, decide_eq_true_eq, nth_tail h, hk]
  exact ⟨fun ⟨a, b, c, d, e⟩ => ⟨⟨a, b⟩, c, d, e⟩, fun ⟨⟨a, b⟩, c, d, e⟩ => ⟨a, b, c, d, e⟩⟩
theorem check_iff {t : List Pl} : checkN t = 0 ↔ Good t := by
  constructor
  · intro h
    obtain ⟨h1, h2, h3, h4⟩ := check_good h
    have h0 := root_par h3
    have hp : ∀ j, 1 ≤ j → j < t.length → 0 ≤ parN t j ∧ parN t j < j := fun j hj hl => by
      obtain ⟨j, rfl⟩ : ∃ m, j = m + 1 := ⟨j - 1, by omega⟩
      have := ((okAt_iff hl).1 (h4 j hl)).1
      omega
    refine ⟨h1, List.length_pos_iff.2 h2, h3, hp, fun j hj hl => ?_, fun j k h1 h2 h3 => ?_, fun j hj hl => ?_⟩
    · obtain ⟨j, rfl⟩ : ∃ m, j = m + 1 := ⟨j - 1, by omega⟩
      exact ((okAt_iff hl).1 (h4 j hl)).2.1
    · obtain ⟨k, rfl⟩ : ∃ m, k = m + 1 := ⟨k - 1, by omega⟩
      exact ((okAt_iff h3).1 (h4 k h3)).2.2.1 j h1 (by omega)
    · obtain ⟨j, rfl⟩ : ∃ m, j = m + 1 := ⟨j - 1, by omega⟩
      have := ((okAt_iff hl).1 (h4 j hl)).2.2.2
      have hq := hp (j + 1) hj hl
      rw [dD_val h0 hp j (by omega) _ (by omega)] at this
      rw [up_step (dn_of h0 hp) hl, if_neg (by omega)]
      simp; omega
  · intro g
    have h0 := root_par g.root
    unfold checkN
    rw [if_neg (by have := g.le; omega), if_neg (by simp [g.root, List.ne_nil_of_length_pos g.pos]), if_pos]
    unfold treeOk
    rw [List.all_eq_true]
    intro j hj
    have hl : j + 1 < t.length := by
      have := List.mem_range.1 hj
      rw [List.length_tail] at this; omega
    have hq := g.par (j + 1) (by omega) hl
    refine (okAt_iff hl).2 ⟨by omega, g.right _ (by omega) hl, fun k h1 h2 => g.uniq k (j + 1) h1 (by omega) hl, ?_⟩
    rw [dD_val h0 g.par j (by omega) _ (by omega)]
    have := g.high (j + 1) (by omega) hl
    rw [up_step g.dn hl, if_neg (by omega)] at this
    simp at this; omega
theorem holds_iff {t : List Pl} {i : Int} : holdsF t i = true ↔ Good t ∧ 0 ≤ i ∧ i < t.length := by
  simp [holdsF, check_iff]
-- children
theorem chF_some {t : List Pl} {p : Int} {b : Bs} {k : Nat} (h : chF t p b = some k) : k < t.length ∧ parN t k = p ∧ (nth t k).name = b := by
  unfold chF at h
  rw [List.findIdx?_eq_some_iff_getElem] at h
  obtain ⟨h1, h2, _⟩ := h
  rw [← nth_eq h1] at h2
  have := of_decide_eq_true h2
  exact ⟨h1, this⟩
theorem chF_none {t : List Pl} {p : Int} {b : Bs} : chF t p b = none ↔ ∀ k, k < t.length → parN t k = p → (nth t k).name = b → False := by
  unfold chF
  rw [List.findIdx?_eq_none_iff]
  constructor
  · intro h k hk h1 h2
    have := h _ (nth_mem hk)
    simp only [chP, decide_eq_false_iff_not] at this
    exact this ⟨h1, h2⟩
  · intro h p hp
    obtain ⟨k, hk, rfl⟩ := List.mem_iff_getElem.1 hp
    rw [← nth_eq hk]
    simp only [chP, decide_eq_false_iff_not]
    exact fun ⟨h1, h2⟩ => h k hk h1 h2
theorem Good.child {t : List Pl} (g : Good t) {p : Int} (hp : 0 ≤ p) {b : Bs} {k : Nat} (hk : k < t.length) (h1 : parN t k = p) (h2 : (nth t k).name = b) : chF t p b = some k := by
  cases h : chF t p b with
  | none => exact (chF_none.1 h k hk h1 h2).elim
  | some j =>
    obtain ⟨a1, a2, a3⟩ := chF_some h
    have h0 := root_par g.root
    have hj : 1 ≤ j := by
      rcases Nat.eq_zero_or_pos j with rfl | h
      · omega
      · exact h
    have hk1 : 1 ≤ k := by
      rcases Nat.eq_zero_or_pos k with rfl | h
      · omega
      · exact h
    rcases Nat.lt_trichotomy j k with hl | rfl | hl
    · exact (g.uniq j k hj hl hk (by rw [a2, h1]) (by rw [a3, h2])).elim
    · rfl
    · exact (g.uniq k j hk1 hl a1 (by rw [a2, h1]) (by rw [a3, h2])).elim
-- a place is added
section
variable {t : List Pl} {i : Int} {b : Bs} {v : Ver}
theorem add_len : (addT t i b v).length = t.length + 1 := by simp [addT]
theorem add_lt {j : Nat} (h : j < t.length) : nth (addT t i b v) j = nth t j := nth_app_lt h
theorem add_eq : nth (addT t i b v) t.length = ⟨i, b, v⟩ := nth_app_eq
theorem addp_lt {j : Nat} (h : j < t.length) : parN (addT t i b v) j = parN t j := by unfold parN; rw [add_lt h]
theorem addp_eq : parN (addT t i b v) t.length = i := by unfold parN; rw [add_eq]
theorem addCode_inv (h : addCode t i b v = 0) : Good t ∧ (0 ≤ i ∧ i < t.length) ∧ rightF b v = true ∧ chF t i b = none ∧ t.length < 200 ∧ (upN t i.toNat).length ≤ 12 := by
  unfold addCode at h
  split at h
  · rename_i h1; exact absurd h h1
  rename_i h1
  split at h
  · cases h
  rename_i h2
  split at h
  · cases h
  rename_i h3
  split at h
  · cases h
  rename_i h4
  split at h
  · cases h
  rename_i h5
  unfold heightN at h5
  exact ⟨check_iff.1 (Decidable.not_not.1 h1), Decidable.not_not.1 h2, by simpa using h3, Decidable.not_not.1 h4, by omega, by omega⟩
theorem addCode_zero (g : Good t) (h1 : 0 ≤ i ∧ i < t.length) (h2 : rightF b v = true) (h3 : chF t i b = none) (h4 : t.length < 200) (h5 : (upN t i.toNat).length ≤ 12) : addCode t i b v = 0 := by
  unfold addCode heightN
  rw [if_neg (by rw [check_iff.2 g]; simp), if_neg (by simp; omega), if_neg (by simp [h2]), if_neg (by simp [h3]), if_neg (by omega)]
theorem up_add (g : Good t) (hi : 0 ≤ i ∧ i < t.length) : ∀ (m j : Nat), j < m → j < t.length → upN (addT t i b v) j = upN t j
  | 0, j, h, _ => by omega
  | m + 1, j, h, hj => by
    have hd : Dn (addT t i b v) := by
      intro k hk
      rw [add_len] at hk
      rcases Nat.lt_or_ge k t.length with h | h
      · rw [addp_lt h]; exact g.dn k h
      · have : k = t.length := by omega
        subst this
        rw [addp_eq]; omega
    have hdj := g.dn j hj
    rw [up_step hd (by rw [add_len]; omega), up_step g.dn hj, addp_lt hj]
    congr 1
    split
    · rfl
    · exact up_add g hi m _ (by omega) (by omega)
theorem good_add (h : addCode t i b v = 0) : Good (addT t i b v) := by
  obtain ⟨g, hi, hr, hc, hl, hh⟩ := addCode_inv h
  have hpos := g.pos
  have hroot : nth (addT t i b v) 0 = rootP := by rw [add_lt hpos]; exact g.root
  have hpar : ∀ j, 1 ≤ j → j < (addT t i b v).length → 0 ≤ parN (addT t i b v) j ∧ parN (addT t i b v) j < j := by
    intro j hj hjl
    rw [add_len] at hjl
    rcases Nat.lt_or_ge j t.length with h | h
    · rw [addp_lt h]; exact g.par j hj h
    · have : j = t.length := by omega
      subst this
      rw [addp_eq]; omega
  refine ⟨by rw [add_len]; omega, by rw [add_len]; omega, hroot, hpar, ?_, ?_, ?_⟩
  · intro j hj hjl
    rw [add_len] at hjl
    rcases Nat.lt_or_ge j t.length with h | h
    · rw [add_lt h]; exact g.right j hj h
    · have : j = t.length := by omega
      subst this
      rw [add_eq]; exact hr
  · intro j k hj hjk hk h1 h2
    rw [add_len] at hk
    rw [addp_lt (by omega)] at h1
    rw [add_lt (by omega)] at h2
    rcases Nat.lt_or_ge k t.length with h | h
    · rw [addp_lt h] at h1
      rw [add_lt h] at h2
      exact g.uniq j k hj hjk h h1 h2
    · have : k = t.length := by omega
      subst this
      rw [addp_eq] at h1
      rw [add_eq] at h2
      exact chF_none.1 hc j hjk h1 h2
  · intro j hj hjl
    rw [add_len] at hjl
    rcases Nat.lt_or_ge j t.length with h | h
    · rw [up_add g hi _ j (Nat.lt_succ_self _) h]; exact g.high j hj h
    · have : j = t.length := by omega
      subst this
      rw [up_step (dn_of (root_par hroot) hpar) (by rw [add_len]; omega), addp_eq, if_neg (by omega), up_add g hi _ _ (Nat.lt_succ_self _) (by omega)]
      simp; omega
theorem ch_add {p : Int} {c : Bs} : chF (addT t i b v) p c = match chF t p c with
    | some k => some k
    | none => if i = p ∧ b = c then some t.length else none := by
  unfold chF addT
  rw [List.findIdx?_append]
  cases h : List.findIdx? (chP p c) t with
  | some k => simp
  | none =>
    by_cases hx : i = p ∧ b = c
    · simp [chP, hx, List.findIdx?_cons]
    · simp [chP, hx, List.findIdx?_cons]
theorem res_at {i : Nat} (hh : Good t) (hi : i < t.length) {k : Nat} (hc : chF t i b = some k) : resolveN t i b = k := by
  have h : holdsF t i = true := holds_iff.2 ⟨hh, by omega, by omega⟩
  rw [resolveN, h, if_pos rfl, Int.toNat_natCast, up_step hh.dn hi, resL, hc]
theorem res_up {i : Nat} (hh : Good t) (hi : i < t.length) (hc : chF t i b = none) (hp : 0 ≤ parN t i) : resolveN t i b = resolveN t (parN t i) b := by
  have h : holdsF t i = true := holds_iff.2 ⟨hh, by omega, by omega⟩
  have := hh.dn i hi
  have h2 : holdsF t (parN t i) = true := holds_iff.2 ⟨hh, by omega, by omega⟩
  rw [resolveN, h, if_pos rfl, Int.toNat_natCast, up_step hh.dn hi, resL, hc, if_neg (by omega)]
  rw [resolveN, h2, if_pos rfl]
theorem res_root (hh : Good t) {i : Nat} (hi : i < t.length) (hc : chF t i b = none) (hp : parN t i < 0) : resolveN t i b = -1 := by
  have h : holdsF t i = true := holds_iff.2 ⟨hh, by omega, by omega⟩
  rw [resolveN, h, if_pos rfl, Int.toNat_natCast, up_step hh.dn hi, resL, hc, if_pos hp]; rfl
/-- What is added is resolved at its parent, and at itself, by its name. -/
theorem add_right (h : addCode t i b v = 0) : checkN (addT t i b v) = 0 ∧ resolveN (addT t i b v) i b = t.length ∧ resolveN (addT t i b v) t.length b = t.length := by
  obtain ⟨g, hi, hr, hc, hl, hh⟩ := addCode_inv h
  have ga := good_add h
  have e1 : chF (addT t i b v) i b = some t.length := by rw [ch_add, hc]; simp
  obtain ⟨n, rfl⟩ : ∃ n : Nat, i = n := ⟨i.toNat, by omega⟩
  have hn : n < (addT t n b v).length := by rw [add_len]; omega
  have r1 := res_at ga hn e1
  have e2 : chF (addT t n b v) t.length b = none := by
    rw [ch_add]
    have : chF t t.length b = none := chF_none.2 fun k hk h1 _ => by have := g.dn k hk; omega
    rw [this]
    simp; omega
  refine ⟨check_iff.2 ga, r1, ?_⟩
  rw [res_up ga (by rw [add_len]; omega) e2 (by rw [addp_eq]; omega), addp_eq, r1]
end
end Go.Proofs.YtomidniaekeafaaGreatDoorAbs
/- A cut, in plain words. -/
namespace Go.Proofs.YtomidniaekeafaaGreatDoorAbs
set_option linter.unusedSimpArgs false
set_option linter.unusedVariables false
open Go Go.RowKit Go.Proofs
set_option maxHeartbeats 400000
/-- How many places stay, ahead of one. -/
def rkN (t : List Pl) (i : Int) (j : Nat) : Nat := (keptN t i j).length
section
variable {t : List Pl} {i : Int}
theorem rk_zero : rkN t i 0 = 0 := rfl
theorem rk_succ {k : Nat} : rkN t i (k + 1) = rkN t i k + if underF t k i = true then 0 else 1 := by
  unfold rkN
  rw [kept_succ, List.length_append]
  split <;> rfl
theorem rk_add {a : Nat} : ∀ d : Nat, rkN t i a ≤ rkN t i (a + d) ∧ rkN t i (a + d) ≤ rkN t i a + d
  | 0 => ⟨Nat.le_refl _, Nat.le_refl _⟩
  | d + 1 => by
    have := rk_add (a := a) d
    rw [← Nat.add_assoc, rk_succ]
    split <;> omega
theorem rk_mono {j k : Nat} (h : j ≤ k) : rkN t i j ≤ rkN t i k := by
  have := (rk_add (t := t) (i := i) (a := j) (k - j)).1
  rwa [Nat.add_sub_cancel' h] at this
theorem rk_lt {j k : Nat} (hu : underF t j i = false) (h : j < k) : rkN t i j < rkN t i k := by
  have h1 := rk_mono (t := t) (i := i) (j := j + 1) (k := k) (by omega)
  rw [rk_succ, hu] at h1
  simp at h1; omega
theorem rk_inj {j k : Nat} (hj : underF t j i = false) (hk : underF t k i = false) (h : rkN t i j = rkN t i k) : j = k := by
  rcases Nat.lt_trichotomy j k with h1 | h1 | h1
  · have := rk_lt hj h1; omega
  · exact h1
  · have := rk_lt hk h1; omega
theorem rk_of_lt {j k : Nat} (h : rkN t i j < rkN t i k) : j < k := by
  rcases Nat.lt_or_ge j k with h1 | h1
  · exact h1
  · have := rk_mono (t := t) (i := i) h1; omega
theorem kept_get : ∀ (m : Nat) {j : Nat}, j < m → underF t j i = false → (keptN t i m)[rkN t i j]? = some j
  | 0, j, h, _ => by omega
  | m + 1, j, h, hu => by
    rw [kept_succ]
    rcases Nat.lt_or_ge j m with h1 | h1
    · rw [List.getElem?_append_left (rk_lt hu h1)]
      exact kept_get m h1 hu
    · have : j = m := by omega
      subst this
      rw [hu, List.getElem?_append_right (show (keptN t i j).length ≤ rkN t i j from Nat.le_refl _)]
      simp [rkN]
theorem kept_inv : ∀ (m : Nat) {x : Nat}, x < rkN t i m → ∃ j, j < m ∧ underF t j i = false ∧ rkN t i j = x
  | 0, x, h => by simp [rk_zero] at h
  | m + 1, x, h => by
    by_cases h1 : x < rkN t i m
    · obtain ⟨j, a, b, c⟩ := kept_inv m h1
      exact ⟨j, by omega, b, c⟩
    · rw [rk_succ] at h
      cases hu : underF t m i with
      | true => rw [hu] at h; simp at h; omega
      | false => rw [hu] at h; simp at h; exact ⟨m, by omega, hu, by omega⟩
theorem cut_len {m : Nat} : (cutT t i m).length = rkN t i m := cutT_len
theorem cut_get {m j : Nat} (h : j < m) (hu : underF t j i = false) : nth (cutT t i m) (rkN t i j) = cutP t i j := by
  have hl : rkN t i j < (cutT t i m).length := by rw [cut_len]; exact rk_lt hu h
  rw [nth_eq hl]
  have h1 := kept_get m h hu
  have h2 : (cutT t i m)[rkN t i j]? = some (cutP t i j) := by
    unfold cutT
    rw [List.getElem?_map, h1]; rfl
  rw [List.getElem?_eq_getElem hl] at h2
  injection h2
theorem renum_nn {n : Int} (h : 0 ≤ n) : renum t i n = rkN t i n.toNat := by
  unfold renum
  rw [if_neg (by omega)]; rfl
theorem cutCode_inv (h : cutCode t i = 0) : Good t ∧ 1 ≤ i ∧ i < t.length := by
  unfold cutCode at h
  split at h
  · rename_i h1; exact absurd h h1
  rename_i h1
  split at h
  · rename_i h2
    exact ⟨check_iff.1 (Decidable.not_not.1 h1), h2⟩
  · cases h
theorem mem_up (g : Good t) : ∀ (m : Nat) {j x : Nat}, j < m → j < t.length → x ∈ upN t j → x ≤ j
  | 0, j, x, h, _, _ => by omega
  | m + 1, j, x, h, hj, hx => by
    have hd := g.dn j hj
    rw [up_step g.dn hj] at hx
    rcases List.mem_cons.1 hx with rfl | hx
    · exact Nat.le_refl _
    · split at hx
      · cases hx
      · have := mem_up g m (j := (parN t j).toNat) (by omega) (by omega) hx
        omega
theorem under_ge (g : Good t) {j : Nat} (hj : j < t.length) (h : underF t j i = true) : i ≤ j := by
  unfold underF at h
  obtain ⟨x, hx, h⟩ := List.any_eq_true.1 h
  have := mem_up g _ (Nat.lt_succ_self j) hj hx
  have := of_decide_eq_true h
  omega
theorem under_self (g : Good t) {j : Nat} (hj : j < t.length) : underF t j j = true := by
  rw [under_step g.dn hj]; simp
theorem under_par (g : Good t) {j : Nat} (hj : j < t.length) (h1 : 1 ≤ j) (hu : underF t j i = false) : underF t (parN t j).toNat i = false := by
  rw [under_step g.dn hj] at hu
  have := g.par j h1 hj
  simp at hu
  exact hu.2 this.1
theorem under_root (g : Good t) (hi : 1 ≤ i) : underF t 0 i = false := by
  cases h : underF t 0 i with
  | false => rfl
  | true => have := under_ge g g.pos h; omega
end
set_option linter.unusedSectionVars false
section
variable {t : List Pl} {i : Int} (g : Good t) (h1 : 1 ≤ i) (h2 : i < t.length)
include g h1 h2
theorem cut_par {j : Nat} (hj : j < t.length) (hu : underF t j i = false) (hj1 : 1 ≤ j) : parN (cutT t i t.length) (rkN t i j) = rkN t i (parN t j).toNat := by
  show (nth (cutT t i t.length) (rkN t i j)).par = _
  rw [cut_get hj hu]
  exact renum_nn (g.par j hj1 hj).1
theorem cut_root : nth (cutT t i t.length) 0 = rootP := by
  have hu := under_root g h1
  have := cut_get (t := t) (i := i) g.pos hu
  rw [rk_zero] at this
  rw [this]
  unfold cutP
  rw [g.root, root_par g.root]; rfl
theorem cut_short : (cutT t i t.length).length < t.length := by
  obtain ⟨n, rfl⟩ : ∃ n : Nat, i = n := ⟨i.toNat, by omega⟩
  have a1 := (rk_add (t := t) (i := n) (a := 0) n).2
  have a2 := (rk_add (t := t) (i := n) (a := n + 1) (t.length - (n + 1))).2
  have a3 : rkN t n (n + 1) = rkN t n n := by rw [rk_succ, under_self g (by omega)]; rfl
  rw [Nat.add_sub_cancel' (by omega)] at a2
  rw [Nat.zero_add, rk_zero] at a1
  rw [cut_len]
  omega
theorem cut_pars : ∀ x, 1 ≤ x → x < (cutT t i t.length).length → 0 ≤ parN (cutT t i t.length) x ∧ parN (cutT t i t.length) x < x := by
  intro x hx hl
  rw [cut_len] at hl
  obtain ⟨j, hj, hu, rfl⟩ := kept_inv _ hl
  have hj1 : 1 ≤ j := by
    rcases Nat.eq_zero_or_pos j with rfl | h
    · rw [rk_zero] at hx; omega
    · exact h
  rw [cut_par g h1 h2 hj hu hj1]
  have hp := g.par j hj1 hj
  have := rk_lt (under_par g hj hj1 hu) (k := j) (by omega)
  omega
theorem cut_dn : Dn (cutT t i t.length) := dn_of (root_par (cut_root g h1 h2)) (cut_pars g h1 h2)
theorem rk_pos {j : Nat} (hj : 1 ≤ j) : 1 ≤ rkN t i j := by
  have := rk_lt (under_root g h1) (k := j) (by omega)
  omega
theorem up_cut : ∀ (m : Nat) {j : Nat}, j < m → j < t.length → underF t j i = false → upN (cutT t i t.length) (rkN t i j) = (upN t j).map (rkN t i)
  | 0, j, h, _, _ => by omega
  | m + 1, j, h, hj, hu => by
    have hl : rkN t i j < (cutT t i t.length).length := by rw [cut_len]; exact rk_lt hu hj
    rcases Nat.eq_zero_or_pos j with rfl | hj1
    · rw [up_zero (root_par g.root), rk_zero, up_zero (root_par (cut_root g h1 h2))]; rfl
    · have hp := g.par j hj1 hj
      rw [up_step (cut_dn g h1 h2) hl, up_step g.dn hj, cut_par g h1 h2 hj hu hj1, if_neg (by omega), if_neg (by omega), List.map_cons, Int.toNat_natCast]
      rw [up_cut m (by omega) (by omega) (under_par g hj hj1 hu)]
theorem good_cut : Good (cutT t i t.length) := by
  have hinv : ∀ x, 1 ≤ x → x < (cutT t i t.length).length → ∃ j, 1 ≤ j ∧ j < t.length ∧ underF t j i = false ∧ rkN t i j = x := by
    intro x hx hl
    rw [cut_len] at hl
    obtain ⟨j, hj, hu, rfl⟩ := kept_inv _ hl
    refine ⟨j, ?_, hj, hu, rfl⟩
    rcases Nat.eq_zero_or_pos j with rfl | h
    · rw [rk_zero] at hx; omega
    · exact h
  refine ⟨?_, ?_, cut_root g h1 h2, cut_pars g h1 h2, ?_, ?_, ?_⟩
  · have := cut_short g h1 h2
    have := g.le
    omega
  · rw [cut_len]
    exact Nat.lt_of_le_of_lt (Nat.zero_le _) (rk_lt (under_root g h1) g.pos)
  · intro x hx hl
    obtain ⟨j, hj1, hj, hu, rfl⟩ := hinv x hx hl
    rw [cut_get hj hu]
    exact g.right j hj1 hj
  · intro x y hx hxy hy e1 e2
    obtain ⟨j, hj1, hj, hu, rfl⟩ := hinv x hx (by omega)
    obtain ⟨k, hk1, hk, hv, rfl⟩ := hinv y (by omega) hy
    rw [cut_par g h1 h2 hj hu hj1, cut_par g h1 h2 hk hv hk1] at e1
    rw [cut_get hj hu, cut_get hk hv] at e2
    have hp := rk_inj (under_par g hj hj1 hu) (under_par g hk hk1 hv) (by omega)
    have p1 := g.par j hj1 hj
    have p2 := g.par k hk1 hk
    exact g.uniq j k hj1 (rk_of_lt hxy) hk (by omega) e2
  · intro x hx hl
    obtain ⟨j, hj1, hj, hu, rfl⟩ := hinv x hx hl
    rw [up_cut g h1 h2 _ (Nat.lt_succ_self j) hj hu, List.length_map]
    exact g.high j hj1 hj
end
-- paths
section
variable {t : List Pl}
theorem path_zero (g : Good t) : pathL t 0 = [] := by
  unfold pathL
  rw [up_zero (root_par g.root)]; rfl
theorem path_step (g : Good t) {j : Nat} (hj1 : 1 ≤ j) (hj : j < t.length) : pathL t j = pathL t (parN t j).toNat ++ [(nth t j).name] := by
  have hp := g.par j hj1 hj
  unfold pathL namesU
  rw [up_step g.dn hj, if_neg (by omega), List.filter_cons, if_pos (by simp; omega), List.map_cons, List.reverse_cons]
theorem findGo_app {l r : List Bs} : ∀ {c : Int}, findGo t c (l ++ r) = match findGo t c l with
    | some k => findGo t k r
    | none => none := by
  induction l with
  | nil => intro c; rfl
  | cons b l ih =>
    intro c
    rw [List.cons_append, findGo, findGo]
    cases chF t c b with
    | none => rfl
    | some k => exact ih
theorem find_path (g : Good t) : ∀ (m : Nat) {j : Nat}, j < m → j < t.length → findGo t 0 (pathL t j) = some (j : Int)
  | 0, j, h, _ => by omega
  | m + 1, j, h, hj => by
    rcases Nat.eq_zero_or_pos j with rfl | hj1
    · rw [path_zero g]; rfl
    · have hp := g.par j hj1 hj
      rw [path_step g hj1 hj, findGo_app, find_path g m (j := (parN t j).toNat) (by omega) (by omega)]
      simp only [findGo]
      rw [g.child (by omega) hj (by omega) rfl]
theorem path_find (g : Good t) : ∀ (l : List Bs) {c : Nat} {k : Int}, c < t.length → findGo t c l = some k → ∃ j : Nat, k = j ∧ j < t.length ∧ pathL t j = pathL t c ++ l
  | [], c, k, hc, h => by
    injection h with h
    exact ⟨c, h.symm, hc, by simp⟩
  | b :: l, c, k, hc, h => by
    rw [findGo] at h
    cases hf : chF t c b with
    | none => rw [hf] at h; cases h
    | some x =>
      rw [hf] at h
      obtain ⟨a1, a2, a3⟩ := chF_some hf
      obtain ⟨j, hj1, hj2, hj3⟩ := path_find g l a1 h
      have hx : 1 ≤ x := by
        rcases Nat.eq_zero_or_pos x with rfl | h
        · have := root_par g.root; omega
        · exact h
      refine ⟨j, hj1, hj2, ?_⟩
      rw [hj3, path_step g hx a1, a2, a3, Int.toNat_natCast]
      simp
theorem path_find0 (g : Good t) {l : List Bs} {k : Int} (h : findGo t 0 l = some k) : ∃ j : Nat, k = j ∧ j < t.length ∧ pathL t j = l := by
  obtain ⟨j, h1, h2, h3⟩ := path_find g l (c := 0) g.pos h
  rw [path_zero g] at h3
  exact ⟨j, h1, h2, h3⟩
theorem path_inj (g : Good t) {j k : Nat} (hj : j < t.length) (hk : k < t.length) (h : pathL t j = pathL t k) : j = k := by
  have h1 := find_path g _ (Nat.lt_succ_self j) hj
  have h2 := find_path g _ (Nat.lt_succ_self k) hk
  rw [h, h2] at h1
  injection h1 with h1
  omega
theorem path_len (g : Good t) : ∀ (m : Nat) {j : Nat}, j < m → j < t.length → (pathL t j).length + 1 = (upN t j).length
  | 0, j, h, _ => by omega
  | m + 1, j, h, hj => by
    rcases Nat.eq_zero_or_pos j with rfl | hj1
    · rw [path_zero g, up_zero (root_par g.root)]; rfl
    · have hp := g.par j hj1 hj
      have := path_len g m (j := (parN t j).toNat) (by omega) (by omega)
      rw [path_step g hj1 hj, up_step g.dn hj, if_neg (by omega)]
      simp; omega
theorem path_good (g : Good t) : ∀ (m : Nat) {j : Nat}, j < m → j < t.length → ∀ b ∈ pathL t j, goodF (bsL b) = true
  | 0, j, h, _ => by omega
  | m + 1, j, h, hj => by
    rcases Nat.eq_zero_or_pos j with rfl | hj1
    · rw [path_zero g]; simp
    · have hp := g.par j hj1 hj
      intro b hb
      rw [path_step g hj1 hj] at hb
      rcases List.mem_append.1 hb with hb | hb
      · exact path_good g m (j := (parN t j).toNat) (by omega) (by omega) b hb
      · have := List.mem_singleton.1 hb
        subst this
        have := g.right j hj1 hj
        unfold rightF at this
        simp at this
        exact this.2
theorem path_short (g : Good t) {j : Nat} (hj : j < t.length) : (pathL t j).length ≤ 12 := by
  have h := path_len g _ (Nat.lt_succ_self j) hj
  rcases Nat.eq_zero_or_pos j with rfl | hj1
  · rw [path_zero g]; simp
  · have := g.high j hj1 hj; omega
theorem path_cut {i : Int} (g : Good t) (h1 : 1 ≤ i) (h2 : i < t.length) : ∀ (m : Nat) {j : Nat}, j < m → j < t.length → underF t j i = false → pathL (cutT t i t.length) (rkN t i j) = pathL t j
  | 0, j, h, _, _ => by omega
  | m + 1, j, h, hj, hu => by
    have gc := good_cut g h1 h2
    rcases Nat.eq_zero_or_pos j with rfl | hj1
    · rw [rk_zero, path_zero g, path_zero gc]
    · have hp := g.par j hj1 hj
      have hl : rkN t i j < (cutT t i t.length).length := by rw [cut_len]; exact rk_lt hu hj
      rw [path_step gc (rk_pos g h1 h2 hj1) hl, path_step g hj1 hj, cut_par g h1 h2 hj hu hj1, Int.toNat_natCast, path_cut g h1 h2 m (by omega) (by omega) (under_par g hj hj1 hu), cut_get hj hu]
      rfl
/-- What is cut is not found; all else is. -/
theorem find_cut {i : Int} (g : Good t) (h1 : 1 ≤ i) (h2 : i < t.length) {j : Nat} (hj : j < t.length) :
    findGo (cutT t i t.length) 0 (pathL t j) = if underF t j i = true then none else some (rkN t i j : Int) := by
  have gc := good_cut g h1 h2
  cases hu : underF t j i with
  | false =>
    have hl : rkN t i j < (cutT t i t.length).length := by rw [cut_len]; exact rk_lt hu hj
    rw [← path_cut g h1 h2 _ (Nat.lt_succ_self j) hj hu, find_path gc _ (Nat.lt_succ_self _) hl]; rfl
  | true =>
    cases hf : findGo (cutT t i t.length) 0 (pathL t j) with
    | none => rfl
    | some k =>
      obtain ⟨x, rfl, hx, hp⟩ := path_find0 gc hf
      rw [cut_len] at hx
      obtain ⟨y, hy, hv, rfl⟩ := kept_inv _ hx
      rw [path_cut g h1 h2 _ (Nat.lt_succ_self y) hy hv] at hp
      have := path_inj g hy hj hp
      subst this
      rw [hu] at hv; cases hv
end
-- what is added, and cut, is the tree as it was
theorem add_cut {t : List Pl} {i : Int} {b : Bs} {v : Ver} (h : addCode t i b v = 0) : cutCode (addT t i b v) t.length = 0 ∧ cutR (addT t i b v) t.length = t := by
  obtain ⟨g, hi, hr, hc, hl, hh⟩ := addCode_inv h
  have ga := good_add h
  have hpos := g.pos
  have e : cutCode (addT t i b v) t.length = 0 := by
    unfold cutCode
    rw [if_neg (by rw [check_iff.2 ga]; simp), if_pos (by rw [add_len]; omega)]
  refine ⟨e, ?_⟩
  have hu : ∀ j, j < t.length → underF (addT t i b v) j t.length = false := by
    intro j hj
    cases hx : underF (addT t i b v) j t.length with
    | false => rfl
    | true => have := under_ge ga (by rw [add_len]; omega) hx; omega
  have hk : ∀ m, m ≤ t.length → rkN (addT t i b v) t.length m = m := by
    intro m
    induction m with
    | zero => intro _; rfl
    | succ m ih => intro hm; rw [rk_succ, ih (by omega), hu m (by omega)]; rfl
  have hlen : (cutT (addT t i b v) t.length (addT t i b v).length).length = t.length := by
    rw [cut_len, add_len, rk_succ, hk _ (Nat.le_refl _), under_self ga (by rw [add_len]; omega)]; rfl
  rw [cutR, if_pos e]
  refine List.ext_getElem hlen fun j ha hb => ?_
  have hg := cut_get (t := addT t i b v) (i := t.length) (m := (addT t i b v).length) (j := j) (by rw [add_len]; omega) (hu j hb)
  rw [hk j (by omega)] at hg
  rw [← nth_eq ha, ← nth_eq hb, hg]
  unfold cutP
  rw [add_lt hb, addp_lt hb]
  have hp : renum (addT t i b v) t.length (parN t j) = (nth t j).par := by
    show _ = parN t j
    have hd := g.dn j hb
    unfold renum
    split
    · rfl
    · have := hk (parN t j).toNat (by omega)
      unfold rkN at this
      rw [this]; omega
  rw [hp]
/-- Two places that are added side by side. -/
theorem add_two {t : List Pl} {i : Int} {b o : Bs} {v : Ver} (h : addCode t i b v = 0) (h2 : addCode (addT t i b v) i o v = 0) :
    addCode t i o v = 0 ∧ addCode (addT t i o v) i b v = 0 ∧ resolveN (addT (addT t i o v) i b v) i b = t.length + 1 ∧ resolveN (addT (addT t i b v) i o v) i b = t.length := by
  obtain ⟨g, hi, hr, hc, hl, hh⟩ := addCode_inv h
  obtain ⟨g2, hi2, hr2, hc2, hl2, hh2⟩ := addCode_inv h2
  rw [add_len] at hl2 hi2
  rw [ch_add] at hc2
  have hco : chF t i o = none := by
    cases hx : chF t i o with
    | none => rfl
    | some k => rw [hx] at hc2; cases hc2
  rw [hco] at hc2
  have hne : b ≠ o := by
    intro h
    rw [if_pos ⟨rfl, h⟩] at hc2; cases hc2
  have a1 : addCode t i o v = 0 := addCode_zero g hi hr2 hco hl hh
  have c1 : chF (addT t i o v) i b = none := by
    rw [ch_add, hc]
    simp [Ne.symm hne]
  have hup := up_add (b := o) (v := v) g hi _ _ (Nat.lt_succ_self i.toNat) (by omega)
  have a2 : addCode (addT t i o v) i b v = 0 := addCode_zero (good_add a1) (by rw [add_len]; omega) hr c1 (by rw [add_len]; omega) (by rw [hup]; exact hh)
  refine ⟨a1, a2, ?_, ?_⟩
  · have := (add_right a2).2.1
    rw [add_len] at this
    rw [this]; omega
  · obtain ⟨n, rfl⟩ : ∃ n : Nat, i = n := ⟨i.toNat, by omega⟩
    refine res_at (good_add h2) (by rw [add_len, add_len]; omega) ?_
    rw [ch_add, ch_add, hc, if_pos ⟨rfl, rfl⟩]
end Go.Proofs.YtomidniaekeafaaGreatDoorAbs
/- Paths and their parts, in plain words. -/
namespace Go.Proofs.YtomidniaekeafaaGreatDoorAbs
set_option linter.unusedSimpArgs false
set_option linter.unusedVariables false
open Go Go.RowKit Go.Proofs
set_option maxHeartbeats 400000
theorem bsL_app (a b : Bs) : bsL (a ++ b) = bsL a ++ bsL b := by
  simp [bsL]
theorem bsL_empty : bsL ⟨#[]⟩ = [] := rfl
theorem by8_get {l : List UInt8} {i : Nat} (h : i < l.length) : by8 l i = l[i] := by
  simp [by8, List.getD_eq_getElem?_getD, h]
-- cuts at a byte
theorem ib_in : ∀ {a r : List UInt8} {c : UInt8}, c ∉ a → Lib.indexByte (a ++ c :: r) c = a.length
  | [], r, c, _ => by simp [Lib.indexByte]
  | b :: a, r, c, h => by
    have h1 : (b == c) = false := by
      simpa using fun e => h (by simp [e])
    have h2 := ib_in (a := a) (r := r) (c := c) (fun e => h (List.mem_cons_of_mem _ e))
    rw [List.cons_append, Lib.indexByte, h1, h2]
    have h3 : ((a.length : Int) == -1) = false := by
      rw [beq_eq_false_iff_ne]; omega
    simp [h3]
theorem ib_out : ∀ {a : List UInt8} {c : UInt8}, c ∉ a → Lib.indexByte a c = -1
  | [], c, _ => rfl
  | b :: a, c, h => by
    have h1 : (b == c) = false := by
      simpa using fun e => h (by simp [e])
    rw [Lib.indexByte, h1, ib_out (a := a) (fun e => h (List.mem_cons_of_mem _ e))]
    simp
theorem cut_in {a r : List UInt8} {c : UInt8} (h : c ∉ a) : Lib.cut (a ++ c :: r) [c] = (a, r, true) := by
  unfold Lib.cut
  rw [Lib.index_one, ib_in h, if_pos (by omega)]
  simp
theorem cut_out {a : List UInt8} {c : UInt8} (h : c ∉ a) : Lib.cut a [c] = (a, [], false) := by
  unfold Lib.cut
  rw [Lib.index_one, ib_out h, if_neg (by omega)]
theorem first_at : ∀ {l : List UInt8} {c : UInt8}, c ∈ l → ∃ a r, c ∉ a ∧ l = a ++ c :: r
  | [], c, h => by cases h
  | b :: l, c, h => by
    by_cases hb : c = b
    · exact ⟨[], l, by simp, by simp [hb]⟩
    · obtain ⟨a, r, h1, h2⟩ := first_at (l := l) (c := c) (by simpa [hb] using h)
      exact ⟨b :: a, r, by simp [hb, h1], by simp [h2]⟩
theorem cut_spec (l : List UInt8) (c : UInt8) : (c ∉ l ∧ Lib.cut l [c] = (l, [], false)) ∨ (∃ a r, c ∉ a ∧ l = a ++ c :: r ∧ Lib.cut l [c] = (a, r, true)) := by
  by_cases h : c ∈ l
  · obtain ⟨a, r, h1, h2⟩ := first_at h
    exact .inr ⟨a, r, h1, h2, by rw [h2, cut_in h1]⟩
  · exact .inl ⟨h, cut_out h⟩
theorem trim_in {p r : List UInt8} : Lib.trimPrefix (p ++ r) p = r := by
  have : Lib.hasPrefix (p ++ r) p = true := List.isPrefixOf_iff_prefix.2 ⟨r, rfl⟩
  unfold Lib.trimPrefix
  rw [this]; simp
theorem pre_in {p r : List UInt8} : Lib.hasPrefix (p ++ r) p = true := List.isPrefixOf_iff_prefix.2 ⟨r, rfl⟩
theorem pre_inv {l p : List UInt8} (h : Lib.hasPrefix l p = true) : ∃ r, l = p ++ r := by
  obtain ⟨r, h⟩ := List.isPrefixOf_iff_prefix.1 h
  exact ⟨r, h.symm⟩
-- names
theorem plain_bytes {l : List UInt8} (h : plainF l = true) : l ≠ [] ∧ (47 : UInt8) ∉ l ∧ Lib.hasPrefix l [64] = false := by
  unfold plainF at h
  rw [Bool.and_eq_true] at h
  obtain ⟨h1, h2⟩ := h
  have hne : l ≠ [] := by simpa using h2
  have hall : ∀ i, (hi : i < l.length) → wordB l[i] = true ∨ sepB l[i] = true := fun i hi => by
    have := List.all_eq_true.1 h1 i (List.mem_range.2 hi)
    rw [plAt, by8_get hi] at this
    simp at this
    rcases this with h | h
    · exact .inl h
    · exact .inr h.2
  refine ⟨hne, fun hm => ?_, ?_⟩
  · obtain ⟨i, hi, he⟩ := List.mem_iff_getElem.1 hm
    have := hall i hi
    rw [he] at this
    revert this; decide
  · cases l with
    | nil => exact absurd rfl hne
    | cons b r =>
      have := hall 0 (by simp)
      simp only [List.getElem_cons_zero] at this
      by_cases hb : (64 : UInt8) = b
      · subst hb
        exact absurd this (by decide)
      · have : ((64 : UInt8) == b) = false := by simpa using hb
        simp [Lib.hasPrefix, List.isPrefixOf, this]
theorem good_shape {l : List UInt8} (h : goodF l = true) : (plainF l = true) ∨ (∃ x y, l = 64 :: x ++ 47 :: y ∧ plainF x = true ∧ plainF y = true) := by
  unfold goodF at h
  split at h
  · cases h
  · split at h
    · exact .inl h
    · rename_i hp
      have hp : Lib.hasPrefix l [64] = true := by simpa using hp
      obtain ⟨r, rfl⟩ := pre_inv hp
      rw [trim_in] at h
      rcases cut_spec r 47 with ⟨_, hc⟩ | ⟨a, b, _, rfl, hc⟩
      · rw [hc] at h; cases h
      · rw [hc] at h
        simp at h
        exact .inr ⟨a, b, by simp, h.1, h.2⟩
theorem good_nil : goodF [] = false := by decide +kernel
theorem part_of {b : Bs} (h : goodF (bsL b) = true) {more : Bool} {r : List UInt8} (hr : more = false → r = []) : partS (nmL ++ (bsL b ++ if more then 47 :: r else [])) = (b, r, more) := by
  have hfin : ∀ {x : List UInt8}, x = bsL b → ofL x = b := fun h => by rw [h]; simp
  unfold partS
  rw [trim_in, pre_in]
  dsimp only
  rcases good_shape h with hp | ⟨x, y, he, hx, hy⟩
  · obtain ⟨_, h2, h3⟩ := plain_bytes hp
    cases more with
    | true =>
      rw [if_pos rfl, cut_in h2]
      simp [h3]
    | false =>
      have := hr rfl
      subst this
      simp only [Bool.false_eq_true, if_false, List.append_nil]
      rw [cut_out h2]
      simp [h3]
  · obtain ⟨_, x2, _⟩ := plain_bytes hx
    obtain ⟨_, y2, _⟩ := plain_bytes hy
    have x3 : (47 : UInt8) ∉ 64 :: x := by
      simp [x2]
    have hj : ofL (64 :: x) ++ ((⟨#[47]⟩ : Bs) ++ ofL y) = b := by
      apply bsL_inj
      rw [bsL_app, bsL_app, bsL_ofL, bsL_ofL, he]; rfl
    have hpx : Lib.hasPrefix (64 :: x) [64] = true := by simp [Lib.hasPrefix, List.isPrefixOf]
    rw [he, List.append_assoc, List.cons_append (a := 47), cut_in x3]
    cases more with
    | true =>
      rw [if_pos rfl, cut_in y2]
      simp [hpx, hj]
    | false =>
      have := hr rfl
      subst this
      simp only [Bool.false_eq_true, if_false, List.append_nil]
      rw [cut_out y2]
      simp [hpx, hj]
theorem part_inv {l : List UInt8} (h : goodF (bsL (partS l).1) = true) : l = nmL ++ (bsL (partS l).1 ++ if (partS l).2.2 then 47 :: (partS l).2.1 else []) := by
  cases hn : Lib.hasPrefix l nmL with
  | false =>
    unfold partS at h
    rw [hn] at h
    dsimp only at h
    rw [if_pos rfl, bsL_empty, good_nil] at h; cases h
  | true =>
    obtain ⟨X, rfl⟩ := pre_inv hn
    unfold partS
    rw [trim_in, hn]
    dsimp only
    congr 1
    rcases cut_spec X 47 with ⟨_, hc⟩ | ⟨a, r, _, rfl, hc⟩
    · rw [hc]; simp
    · rw [hc]
      simp only [Bool.and_true, Bool.true_eq_false, if_false]
      generalize Lib.hasPrefix a [64] = x
      cases x with
      | false => simp
      | true =>
        rcases cut_spec r 47 with ⟨_, hc2⟩ | ⟨a2, r2, _, rfl, hc2⟩
        · rw [hc2]
          simp [bsL_app]; rfl
        · rw [hc2]
          simp [bsL_app]; rfl
-- joined
def joinB (l : List Bs) : List UInt8 := Lib.join (l.map fun b => bsL (preB b)) [47]
theorem pre_bytes (b : Bs) : bsL (preB b) = nmL ++ bsL b := by
  unfold preB
  rw [bsL_app]; rfl
theorem join_one (b : Bs) : joinB [b] = nmL ++ (bsL b ++ if false then 47 :: ([] : List UInt8) else []) := by
  simp [joinB, Lib.join, List.intercalate, pre_bytes]
theorem join_two (b c : Bs) (l : List Bs) : joinB (b :: c :: l) = nmL ++ (bsL b ++ if true then 47 :: joinB (c :: l) else []) := by
  simp [joinB, Lib.join, List.intercalate, pre_bytes]
theorem split_join : ∀ (k : Nat) {l : List Bs}, l ≠ [] → l.length ≤ k → (∀ b ∈ l, goodF (bsL b) = true) → splitGo k (joinB l) = some l
  | _, [], h, _, _ => absurd rfl h
  | 0, b :: l, _, h, _ => by simp at h
  | k + 1, [b], _, _, hg => by
    have hb := hg b (by simp)
    rw [join_one, splitGo, part_of hb (fun _ => rfl)]
    simp [hb]
  | k + 1, b :: c :: l, _, hl, hg => by
    have hb := hg b (by simp)
    rw [join_two, splitGo, part_of hb (fun h => by cases h)]
    have := split_join k (l := c :: l) (by simp) (by simpa using hl) (fun x hx => hg x (List.mem_cons_of_mem _ hx))
    simp [hb, this]
theorem split_inv : ∀ (k : Nat) {l : List UInt8} {r : List Bs}, splitGo k l = some r → r ≠ [] ∧ r.length ≤ k ∧ (∀ b ∈ r, goodF (bsL b) = true) ∧ l = joinB r
  | 0, l, r, h => by simp [splitGo] at h
  | k + 1, l, r, h => by
    rw [splitGo] at h
    split at h
    · rename_i hg
      have hl := part_inv hg
      split at h
      · rename_i hm
        obtain ⟨r', h1, rfl⟩ := Option.map_eq_some_iff.1 h
        obtain ⟨a1, a2, a3, a4⟩ := split_inv k h1
        refine ⟨by simp, by simpa using a2, fun b hb => ?_, ?_⟩
        · rcases List.mem_cons.1 hb with rfl | hb
          · exact hg
          · exact a3 b hb
        · cases r' with
          | nil => exact absurd rfl a1
          | cons c r' =>
            rw [join_two, ← a4]
            rw [hm] at hl
            exact hl
      · rename_i hm
        have hm : (partS l).2.2 = false := by simpa using hm
        injection h with h
        subst h
        refine ⟨by simp, by simp, fun b hb => by rw [List.mem_singleton.1 hb]; exact hg, ?_⟩
        rw [join_one]
        rw [hm] at hl
        exact hl
    · cases h
theorem code_iff {l : List Bs} : pathCode l = 0 ↔ l.length ≤ 12 ∧ ∀ b ∈ l, goodF (bsL b) = true := by
  unfold pathCode
  split
  · simp; omega
  · split
    · rename_i h1 h2
      exact ⟨fun _ => ⟨by omega, List.all_eq_true.1 h2⟩, fun _ => rfl⟩
    · rename_i h1 h2
      refine ⟨fun h => (by cases h), fun ⟨_, h⟩ => absurd (List.all_eq_true.2 h) h2⟩
theorem pathS_ok {l : List Bs} (h : pathCode l = 0) : pathS l = ofL (joinB l) := by rw [pathS, if_pos h]; rfl
theorem join_ne {l : List Bs} (h : l ≠ []) : joinB l ≠ [] := by
  cases l with
  | nil => exact absurd rfl h
  | cons b l =>
    cases l with
    | nil => rw [join_one]; simp [nmL]
    | cons c l => rw [join_two]; simp [nmL]
/-- A text's parts, and their path. -/
theorem split_iff {s : Bs} {l : List Bs} : splitF s = some l ↔ pathCode l = 0 ∧ pathS l = s := by
  constructor
  · intro h
    unfold splitF at h
    split at h
    · rename_i hs
      injection h with h
      subst h
      exact ⟨by decide, by rw [hs]; rfl⟩
    · obtain ⟨h1, h2, h3, h4⟩ := split_inv 12 h
      have hc := code_iff.2 ⟨h2, h3⟩
      exact ⟨hc, by rw [pathS_ok hc, ← h4]; simp⟩
  · rintro ⟨h, rfl⟩
    rw [pathS_ok h]
    unfold splitF
    cases l with
    | nil => rfl
    | cons b l =>
      rw [if_neg (by rw [empty_iff, bsL_ofL]; exact join_ne (by simp)), bsL_ofL]
      obtain ⟨h1, h2⟩ := code_iff.1 h
      exact split_join 12 (by simp) h1 h2
theorem path_code {t : List Pl} (g : Good t) {j : Nat} (hj : j < t.length) : pathCode (pathL t j) = 0 := code_iff.2 ⟨path_short g hj, path_good g _ (Nat.lt_succ_self j) hj⟩
/-- What is found at a path. -/
theorem find_iff {t : List Pl} {s : Bs} {k : Int} : findF t s = some k ↔ Good t ∧ ∃ j : Nat, k = j ∧ j < t.length ∧ pathS (pathL t j) = s := by
  unfold findF
  constructor
  · intro h
    split at h
    · cases h
    · rename_i l hl
      split at h
      · rename_i hc
        have g := check_iff.1 hc
        obtain ⟨j, rfl, hj, hp⟩ := path_find0 g h
        exact ⟨g, j, rfl, hj, by rw [hp]; exact (split_iff.1 hl).2⟩
      · cases h
  · rintro ⟨g, j, rfl, hj, hs⟩
    rw [split_iff.2 ⟨path_code g hj, hs⟩]
    dsimp only
    rw [if_pos (check_iff.2 g), find_path g _ (Nat.lt_succ_self j) hj]
theorem pathOf_eq {t : List Pl} (g : Good t) {j : Nat} (hj : j < t.length) : pathOf t j = pathS (pathL t j) := by
  rw [pathOf, holds_iff.2 ⟨g, by omega, by omega⟩, if_pos rfl, Int.toNat_natCast]
/-- The place of a path. -/
theorem find_of {t : List Pl} (g : Good t) {j : Nat} (hj : j < t.length) : findF t (pathOf t j) = some (j : Int) := find_iff.2 ⟨g, j, rfl, hj, (pathOf_eq g hj).symm⟩
/-- What a path of a tree is found as in another. -/
theorem find_else {t c : List Pl} (g : Good t) (gc : Good c) {j : Nat} (hj : j < t.length) : findF c (pathOf t j) = findGo c 0 (pathL t j) := by
  rw [pathOf_eq g hj, findF, split_iff.2 ⟨path_code g hj, rfl⟩]
  dsimp only
  rw [if_pos (check_iff.2 gc)]
end Go.Proofs.YtomidniaekeafaaGreatDoorAbs
/- Two parts of a text taken as one. -/
namespace Go.Proofs.YtomidniaekeafaaGreatDoorAbs
open Go Go.RowKit
section
variable {P : Program} [Gl P] {N : Nat} {K : Exit → KS} {s : Sl} {G : Hp} {nx : Nat}
theorem aw_un {a b c : Code} (h : AW P N (.seq (.seq a b) c) K s G nx) : AW P N (.seq a (.seq b c)) K s G nx := by
  have e : AW P N (.seq (.seq a b) c) K = AW P N (.seq a (.seq b c)) K := by
    show AW P N a _ = AW P N a _
    congr 1
    funext e
    cases e <;> rfl
  rw [← e]; exact h
/-- A region walked in parts. -/
theorem aops_app {ops : Array Oper} {d : Bool} {K : KS} : ∀ (a b : List Oper), AOps P N ops d (a ++ b) K = AOps P N ops d a (AOps P N ops d b K)
  | [], b => rfl
  | o :: a, b => by
    show AStep P N ops d o (AOps P N ops d (a ++ b) K) = AStep P N ops d o (AOps P N ops d a (AOps P N ops d b K))
    rw [aops_app a b]
theorem aops_part {ops : Array Oper} {d : Bool} {K : KS} {os : List Oper} (j : Nat) (h : ∀ K2 : KS, (∀ s G nx, AOps P N ops d (os.drop j) K s G nx → K2 s G nx) → AOps P N ops d (os.take j) K2 s G nx) : AOps P N ops d os K s G nx := by
  have := h _ fun _ _ _ h => h
  rw [← aops_app, List.take_append_drop] at this
  exact this
end
end Go.Proofs.YtomidniaekeafaaGreatDoorAbs
/- TreeResolves. -/
namespace Go.Proofs.YtomidniaekeafaaGreatDoorAbs
set_option linter.unusedSimpArgs false
set_option linter.unusedVariables false
open Go Go.RowKit Go.Proofs
set_option maxRecDepth 100000
set_option maxHeartbeats 1000000
theorem small_ok {t : List Pl} (h : bigT t = false) : OKs t := by
  simp only [bigT, Bool.or_eq_false_iff, decide_eq_false_iff_not] at h
  refine ⟨by omega, fun p hp => ?_⟩
  have := List.any_eq_false.1 h.2 p hp
  simp [bigP, bigV] at this
  omega
theorem large_not {t : List Pl} {name : Bs} {v : Ver} (h : largeF t name v = false) : OKs t ∧ name.size ≤ 1000 ∧ v.pre.size ≤ 300 := by
  simp only [largeF, Bool.or_eq_false_iff, decide_eq_false_iff_not, bigV] at h
  exact ⟨small_ok h.1, by omega, by omega⟩
theorem res_spec {t : List Pl} {b : Bs} (g : Good t) : ∀ (m : Nat) {j : Nat}, j < m → j < t.length → resolveN t j b = -1 ∨ ∃ k : Nat, resolveN t j b = k ∧ 1 ≤ k ∧ k < t.length ∧ (nth t k).name = b
  | 0, j, h, _ => by omega
  | m + 1, j, h, hj => by
    have hd := g.dn j hj
    cases hc : chF t j b with
    | some k =>
      obtain ⟨a1, a2, a3⟩ := chF_some hc
      refine .inr ⟨k, res_at g hj hc, ?_, a1, a3⟩
      rcases Nat.eq_zero_or_pos k with rfl | h
      · have := root_par g.root; omega
      · exact h
    | none =>
      by_cases hp : 0 ≤ parN t j
      · rw [res_up g hj hc hp]
        have := res_spec (b := b) g m (j := (parN t j).toNat) (by omega) (by omega)
        rwa [Int.toNat_of_nonneg hp] at this
      · exact .inl (res_root g hj hc (by omega))
/-- Where the way up ends. -/
def endN (t : List Pl) (r : Int) : Int := if r < 0 then -1 else parN t r.toNat
def OnWay (t : List Pl) (b : Bs) (r p : Int) : Prop := (∃ j : Nat, p = j ∧ j < t.length ∧ resolveN t j b = r) ∨ (p = -1 ∧ endN t r = -1)
theorem way_on {t : List Pl} {b : Bs} {r p : Int} (g : Good t) (h : OnWay t b r p) (hne : p ≠ endN t r) : ∃ j : Nat, p = j ∧ j < t.length ∧ (∀ k, k < t.length → (nth t k).par = p → (nth t k).name = b → False) ∧ OnWay t b r (nth t j).par ∧ (nth t j).par < p ∧ -1 ≤ (nth t j).par := by
  rcases h with ⟨j, rfl, hj, hr⟩ | ⟨rfl, he⟩
  · have hd := g.dn j hj
    have hpj : (nth t j).par = parN t j := rfl
    have hge : -1 ≤ parN t j := by
      rcases Nat.eq_zero_or_pos j with rfl | h
      · rw [root_par g.root]; omega
      · have := g.par j h hj; omega
    refine ⟨j, rfl, hj, ?_, ?_, hd, hge⟩
    · cases hc : chF t j b with
      | none => exact chF_none.1 hc
      | some k =>
        rw [res_at g hj hc] at hr
        subst hr
        have := (chF_some hc).2.1
        unfold endN at hne
        rw [if_neg (by omega), Int.toNat_natCast, this] at hne
        exact absurd rfl hne
    · rw [hpj]
      cases hc : chF t j b with
      | some k =>
        rw [res_at g hj hc] at hr
        subst hr
        have := (chF_some hc).2.1
        unfold endN at hne
        rw [if_neg (by omega), Int.toNat_natCast, this] at hne
        exact absurd rfl hne
      | none =>
        by_cases hp : 0 ≤ parN t j
        · rw [res_up g hj hc hp] at hr
          exact .inl ⟨(parN t j).toNat, by omega, by omega, by rwa [Int.toNat_of_nonneg hp]⟩
        · rw [res_root g hj hc (by omega)] at hr
          subst hr
          exact .inr ⟨by omega, rfl⟩
  · exact absurd he.symm hne
theorem resolves6_ok (t : List Pl) (i : Int) (name : Bs) (hl : t.length ≤ 9223372036854775807) : CallsOK Tryz.prog 6 [rowT Pl.cells t, iV i, sV name] (bV true) [] := by
  refine callsOK mixed Tryz.call6 Tryz.func6 rfl (by rw [Tryz.ntmps6]; simp) ?_ rfl
  rw [Tryz.ntmps6]
  repeat with_reducible refine aw_assoc ?_
  first | with_reducible refine aw_region0 (by decide +kernel) fun K' hK => ?_ | with_reducible refine aw_toS (aw_region0 (by decide +kernel) fun K' hK => ?_)
  simp []
  first | refine hK _ _ _ ?_ | done
  clear K' hK
  repeat with_reducible refine aw_assoc ?_
  first | with_reducible refine aw_region0 (by decide +kernel) fun K' hK => ?_ | with_reducible refine aw_toS (aw_region0 (by decide +kernel) fun K' hK => ?_)
  simp []
  refine acall_flat (large10_ok t name v0 hl) rfl (by simp; rfl) ?_
  cases hlg : largeF t name v0 with
  | true =>
    simp
    first | refine hK _ _ _ ?_ | done
    clear K' hK
    repeat with_reducible refine aw_assoc ?_
    first | with_reducible refine aw_condP fun A B hA hB => ?_ | with_reducible refine aw_toS (aw_condP fun A B hA hB => ?_)
    simp []
    refine ⟨fun hc => hA ?_, fun hc => hB ?_⟩ <;> clear hA hB A B <;> (try (simp at hc; done)) <;> (try (exfalso; simp at hc; omega)) <;> clear hc <;> (try with_reducible refine aw_skip ?_)
    repeat with_reducible refine aw_assoc ?_
    first | with_reducible refine aw_region0 (by decide +kernel) fun K' hK => ?_ | with_reducible refine aw_toS (aw_region0 (by decide +kernel) fun K' hK => ?_)
    simp []
    first | refine hK _ _ _ ?_ | done
    clear K' hK
    repeat with_reducible refine aw_assoc ?_
    first | with_reducible refine aw_ret ?_ | with_reducible refine aw_retL ?_ | with_reducible refine aw_skipL ?_
    simp [blockK, loopK, Post, resA, res1, expT, expA, exp1, expM, expL, okT, okA, ok1, rowOf, Tryz.f6]
  | false =>
    obtain ⟨ht, hn, _⟩ := large_not hlg
    simp
    first | refine hK _ _ _ ?_ | done
    clear K' hK
    repeat with_reducible refine aw_assoc ?_
    first | with_reducible refine aw_condP fun A B hA hB => ?_ | with_reducible refine aw_toS (aw_condP fun A B hA hB => ?_)
    simp []
    refine ⟨fun hc => hA ?_, fun hc => hB ?_⟩ <;> clear hA hB A B <;> (try (simp at hc; done)) <;> (try (exfalso; simp at hc; omega)) <;> clear hc <;> (try with_reducible refine aw_skip ?_)
    repeat with_reducible refine aw_assoc ?_
    first | with_reducible refine aw_region0 (by decide +kernel) fun K' hK => ?_ | with_reducible refine aw_toS (aw_region0 (by decide +kernel) fun K' hK => ?_)
    simp []
    refine acall_flat (resolve19_ok t ht i name) rfl (by simp) ?_
    simp
    first | refine hK _ _ _ ?_ | done
    clear K' hK
    refine aw_gen (fun s G nx => s 0 = rowT Pl.cells t ∧ s 1 = iV i ∧ s 2 = sV name ∧ s 7 = iV (resolveN t i name)) ?_ ?_
    · simp
    rintro s G nx ⟨s0, s1, s2, s7⟩
    repeat with_reducible refine aw_assoc ?_
    refine aw_cut (fun s G nx => s 0 = rowT Pl.cells t ∧ s 1 = iV i ∧ s 2 = sV name ∧ s 7 = iV (resolveN t i name) ∧ s 31 = bV (!holdsF t i)) ?_ ?_
    · repeat with_reducible refine aw_assoc ?_
      first | with_reducible refine aw_region0 (by decide +kernel) fun K' hK => ?_ | with_reducible refine aw_toS (aw_region0 (by decide +kernel) fun K' hK => ?_)
      simp [s0, s1]
      refine acall_flat (check18_ok t ht) rfl (by simp) ?_
      by_cases c0 : checkN t = 0
      · by_cases c1 : i < 0
        · simp [c0, c1, s0, s1]
          first | refine hK _ _ _ ?_ | done
          clear K' hK
          with_reducible refine aw_end ?_
          simp [s0, s1, s2, s7, holdsF, c0]; omega
        · simp [c0, c1, s0, s1]
          first | refine hK _ _ _ ?_ | done
          clear K' hK
          with_reducible refine aw_end ?_
          simp [s0, s1, s2, s7, holdsF, c0, show 0 ≤ i by omega]
          rw [Bool.eq_iff_iff]; simp
      · simp [c0]
        first | refine hK _ _ _ ?_ | done
        clear K' hK
        with_reducible refine aw_end ?_
        simp [s0, s1, s2, s7, holdsF, c0]
    rintro s G nx ⟨s0, s1, s2, s7, s31⟩
    cases hh : holdsF t i with
    | false =>
      rw [hh] at s31
      have hr : resolveN t i name = -1 := by rw [resolveN, hh]; rfl
      rw [hr] at s7
      repeat with_reducible refine aw_assoc ?_
      first | with_reducible refine aw_condP fun A B hA hB => ?_ | with_reducible refine aw_toS (aw_condP fun A B hA hB => ?_)
      simp [s31]
      refine ⟨fun hc => hA ?_, fun hc => hB ?_⟩ <;> clear hA hB A B <;> (try (simp at hc; done)) <;> (try (exfalso; simp at hc; omega)) <;> clear hc <;> (try with_reducible refine aw_skip ?_)
      repeat with_reducible refine aw_assoc ?_
      first | with_reducible refine aw_region0 (by decide +kernel) fun K' hK => ?_ | with_reducible refine aw_toS (aw_region0 (by decide +kernel) fun K' hK => ?_)
      simp []
      refine acall_flat stands17_ok rfl (by simp) ?_
      simp [s7]
      first | refine hK _ _ _ ?_ | done
      clear K' hK
      repeat with_reducible refine aw_assoc ?_
      first | with_reducible refine aw_ret ?_ | with_reducible refine aw_retL ?_ | with_reducible refine aw_skipL ?_
      simp [blockK, loopK, Post, resA, res1, expT, expA, exp1, expM, expL, okT, okA, ok1, rowOf, Tryz.f6]
    | true =>
      rw [hh] at s31
      repeat with_reducible refine aw_assoc ?_
      first | with_reducible refine aw_condP fun A B hA hB => ?_ | with_reducible refine aw_toS (aw_condP fun A B hA hB => ?_)
      simp [s31]
      refine ⟨fun hc => hA ?_, fun hc => hB ?_⟩ <;> clear hA hB A B <;> (try (simp at hc; done)) <;> (try (exfalso; simp at hc; omega)) <;> clear hc <;> (try with_reducible refine aw_skip ?_)
      obtain ⟨g, hi0, hi1⟩ := holds_iff.1 hh
      obtain ⟨n, rfl⟩ : ∃ n : Nat, i = n := ⟨i.toNat, by omega⟩
      have hn : n < t.length := by omega
      have hl1 := ht.1
      repeat with_reducible refine aw_assoc ?_
      first | with_reducible refine aw_region0 (by decide +kernel) fun K' hK => ?_ | with_reducible refine aw_toS (aw_region0 (by decide +kernel) fun K' hK => ?_)
      simp []
      first | refine hK _ _ _ ?_ | done
      clear K' hK
      repeat with_reducible refine aw_assoc ?_
      with_reducible refine aw_un ?_
      refine aw_cut (fun s G nx => s 0 = rowT Pl.cells t ∧ s 1 = iV n ∧ s 2 = sV name ∧ s 8 = iV (endN t (resolveN t n name))) ?_ ?_
      · rcases res_spec (b := name) g _ (Nat.lt_succ_self n) hn with hr | ⟨k, hr, hk1, hk, hkn⟩
        · rw [hr] at s7 ⊢
          repeat with_reducible refine aw_assoc ?_
          first | with_reducible refine aw_region0 (by decide +kernel) fun K' hK => ?_ | with_reducible refine aw_toS (aw_region0 (by decide +kernel) fun K' hK => ?_)
          simp [s7]
          first | refine hK _ _ _ ?_ | done
          clear K' hK
          repeat with_reducible refine aw_assoc ?_
          first | with_reducible refine aw_condP fun A B hA hB => ?_ | with_reducible refine aw_toS (aw_condP fun A B hA hB => ?_)
          simp []
          refine ⟨fun hc => hA ?_, fun hc => hB ?_⟩ <;> clear hA hB A B <;> (try (simp at hc; done)) <;> (try (exfalso; simp at hc; omega)) <;> clear hc <;> (try with_reducible refine aw_skip ?_)
          with_reducible refine aw_end ?_
          simp [s0, s1, s2, endN]
        · rw [hr] at s7 ⊢
          have a1 : ¬ (k : Int) < 1 := by omega
          have a2 : ¬ (t.length : Int) ≤ k := by omega
          have a3 : 0 ≤ (k : Int) := by omega
          have a4 : (k : Int) < t.length := by omega
          repeat with_reducible refine aw_assoc ?_
          first | with_reducible refine aw_region0 (by decide +kernel) fun K' hK => ?_ | with_reducible refine aw_toS (aw_region0 (by decide +kernel) fun K' hK => ?_)
          simp [s7]
          first | refine hK _ _ _ ?_ | done
          clear K' hK
          repeat with_reducible refine aw_assoc ?_
          first | with_reducible refine aw_condP fun A B hA hB => ?_ | with_reducible refine aw_toS (aw_condP fun A B hA hB => ?_)
          simp []
          refine ⟨fun hc => hA ?_, fun hc => hB ?_⟩ <;> clear hA hB A B <;> (try (simp at hc; done)) <;> (try (exfalso; simp at hc; omega)) <;> clear hc <;> (try with_reducible refine aw_skip ?_)
          repeat with_reducible refine aw_assoc ?_
          first | with_reducible refine aw_region0 (by decide +kernel) fun K' hK => ?_ | with_reducible refine aw_toS (aw_region0 (by decide +kernel) fun K' hK => ?_)
          simp [s7, s0, s2, a1, a2, a4, hk, hkn]
          first | refine hK _ _ _ ?_ | done
          clear K' hK
          repeat with_reducible refine aw_assoc ?_
          first | with_reducible refine aw_condP fun A B hA hB => ?_ | with_reducible refine aw_toS (aw_condP fun A B hA hB => ?_)
          simp []
          refine ⟨fun hc => hA ?_, fun hc => hB ?_⟩ <;> clear hA hB A B <;> (try (simp at hc; done)) <;> (try (exfalso; simp at hc; omega)) <;> clear hc <;> (try with_reducible refine aw_skip ?_)
          repeat with_reducible refine aw_assoc ?_
          first | with_reducible refine aw_region0 (by decide +kernel) fun K' hK => ?_ | with_reducible refine aw_toS (aw_region0 (by decide +kernel) fun K' hK => ?_)
          simp [s7, s0, a4, hk]
          first | refine hK _ _ _ ?_ | done
          clear K' hK
          with_reducible refine aw_end ?_
          refine ⟨by simp [s0], by simp [s1], by simp [s2], ?_⟩
          simp [endN, parN]
          intro h; omega
      rintro s G nx ⟨s0, s1, s2, s8⟩
      repeat with_reducible refine aw_assoc ?_
      first | with_reducible refine aw_region0 (by decide +kernel) fun K' hK => ?_ | with_reducible refine aw_toS (aw_region0 (by decide +kernel) fun K' hK => ?_)
      simp [s1]
      first | refine hK _ _ _ ?_ | done
      clear K' hK
      repeat with_reducible refine aw_assoc ?_
      first | with_reducible refine aw_block ?_ | with_reducible refine aw_toS (aw_block ?_)
      refine aw_loop (fun s G nx => s 0 = rowT Pl.cells t ∧ s 2 = sV name ∧ s 8 = iV (endN t (resolveN t n name)) ∧ ∃ p : Int, s 9 = iV p ∧ -1 ≤ p ∧ OnWay t name (resolveN t n name) p) (fun s _ _ => match s 9 with | .v (.int _ n) => (n + 1).toNat | _ => 0) ?_ ?_
      · exact ⟨by simp [s0], by simp [s2], by simp [s8], n, by simp, by omega, .inl ⟨n, rfl, hn, rfl⟩⟩
      · rintro s G nx - ⟨s0, s2, s8, p, s9, hp1, hp⟩
        by_cases hne : p = endN t (resolveN t n name)
        · repeat with_reducible refine aw_assoc ?_
          first | with_reducible refine aw_region0 (by decide +kernel) fun K' hK => ?_ | with_reducible refine aw_toS (aw_region0 (by decide +kernel) fun K' hK => ?_)
          simp [s8, s9]
          first | refine hK _ _ _ ?_ | done
          clear K' hK
          repeat with_reducible refine aw_assoc ?_
          first | with_reducible refine aw_condP fun A B hA hB => ?_ | with_reducible refine aw_toS (aw_condP fun A B hA hB => ?_)
          simp [hne]
          refine ⟨fun hc => hA ?_, fun hc => hB ?_⟩ <;> clear hA hB A B <;> (try (simp at hc; done)) <;> (try (exfalso; simp at hc; omega)) <;> clear hc <;> (try with_reducible refine aw_skip ?_)
          repeat with_reducible refine aw_assoc ?_
          first | with_reducible refine aw_exit ?_ | with_reducible refine aw_exitL ?_
          refine loopK_exit (blockK_exit ?_)
          repeat with_reducible refine aw_assoc ?_
          first | with_reducible refine aw_region0 (by decide +kernel) fun K' hK => ?_ | with_reducible refine aw_toS (aw_region0 (by decide +kernel) fun K' hK => ?_)
          simp []
          refine acall_flat stands17_ok rfl (by simp) ?_
          simp
          first | refine hK _ _ _ ?_ | done
          clear K' hK
          repeat with_reducible refine aw_assoc ?_
          first | with_reducible refine aw_ret ?_ | with_reducible refine aw_retL ?_ | with_reducible refine aw_skipL ?_
          simp [blockK, loopK, Post, resA, res1, expT, expA, exp1, expM, expL, okT, okA, ok1, rowOf, Tryz.f6]
        · obtain ⟨j, rfl, hj, hno, hon, hdn, hge⟩ := way_on g hp hne
          have o9 := s9
          repeat with_reducible refine aw_assoc ?_
          first | with_reducible refine aw_region0 (by decide +kernel) fun K' hK => ?_ | with_reducible refine aw_toS (aw_region0 (by decide +kernel) fun K' hK => ?_)
          simp [s8, s9]
          first | refine hK _ _ _ ?_ | done
          clear K' hK
          repeat with_reducible refine aw_assoc ?_
          first | with_reducible refine aw_condP fun A B hA hB => ?_ | with_reducible refine aw_toS (aw_condP fun A B hA hB => ?_)
          simp [hne]
          refine ⟨fun hc => hA ?_, fun hc => hB ?_⟩ <;> clear hA hB A B <;> (try (simp at hc; done)) <;> (try (exfalso; simp at hc; omega)) <;> clear hc <;> (try with_reducible refine aw_skip ?_)
          repeat with_reducible refine aw_assoc ?_
          first | with_reducible refine aw_block ?_ | with_reducible refine aw_toS (aw_block ?_)
          repeat with_reducible refine aw_assoc ?_
          first | with_reducible refine aw_region0 (by decide +kernel) fun K' hK => ?_ | with_reducible refine aw_toS (aw_region0 (by decide +kernel) fun K' hK => ?_)
          simp [s9]
          first | refine hK _ _ _ ?_ | done
          clear K' hK
          repeat with_reducible refine aw_assoc ?_
          first | with_reducible refine aw_condP fun A B hA hB => ?_ | with_reducible refine aw_toS (aw_condP fun A B hA hB => ?_)
          simp []
          refine ⟨fun hc => hA ?_, fun hc => hB ?_⟩ <;> clear hA hB A B <;> (try (simp at hc; done)) <;> (try (exfalso; simp at hc; omega)) <;> clear hc <;> (try with_reducible refine aw_skip ?_)
          repeat with_reducible refine aw_assoc ?_
          first | with_reducible refine aw_region0 (by decide +kernel) fun K' hK => ?_ | with_reducible refine aw_toS (aw_region0 (by decide +kernel) fun K' hK => ?_)
          simp []
          first | refine hK _ _ _ ?_ | done
          clear K' hK
          repeat with_reducible refine aw_assoc ?_
          first | with_reducible refine aw_block ?_ | with_reducible refine aw_toS (aw_block ?_)
          refine aw_loop (fun s G nx => s 0 = rowT Pl.cells t ∧ s 2 = sV name ∧ s 8 = iV (endN t (resolveN t n name)) ∧ s 9 = iV j ∧ ∃ m : Nat, s 10 = iV m ∧ m ≤ t.length) (fun s _ _ => match s 10 with | .v (.int _ n) => t.length - n.toNat | _ => 0) ?_ ?_
          · exact ⟨by simp [s0], by simp [s2], by simp [s8], by simp [s9], 1, by simp, by omega⟩
          · rintro s G nx - ⟨s0, s2, s8, s9, m, s10, hm⟩
            have hw : IntKind.i64.wrap (↑m + 1) = ((m + 1 : Nat) : Int) := wrapS (by omega)
            repeat with_reducible refine aw_assoc ?_
            first | with_reducible refine aw_region0 (by decide +kernel) fun K' hK => ?_ | with_reducible refine aw_toS (aw_region0 (by decide +kernel) fun K' hK => ?_)
            simp [s0, s10]
            first | refine hK _ _ _ ?_ | done
            clear K' hK
            repeat with_reducible refine aw_assoc ?_
            first | with_reducible refine aw_condP fun A B hA hB => ?_ | with_reducible refine aw_toS (aw_condP fun A B hA hB => ?_)
            simp []
            refine ⟨fun hm2 => hA ?_, fun hm2 => hB ?_⟩ <;> clear hA hB A B <;> (try simp at hm2) <;> (try with_reducible refine aw_skip ?_)
            · have hno := hno m hm2
              repeat with_reducible refine aw_assoc ?_
              first | with_reducible refine aw_block ?_ | with_reducible refine aw_toS (aw_block ?_)
              by_cases b1 : (nth t m).par = j
              · have b2 : ¬ (nth t m).name = name := fun h => hno b1 h
                repeat with_reducible refine aw_assoc ?_
                first | with_reducible refine aw_region0 (by decide +kernel) fun K' hK => ?_ | with_reducible refine aw_toS (aw_region0 (by decide +kernel) fun K' hK => ?_)
                simp [s0, s10, s9, s2, hm2, b1, b2]
                first | refine hK _ _ _ ?_ | done
                clear K' hK
                repeat with_reducible refine aw_assoc ?_
                first | with_reducible refine aw_condP fun A B hA hB => ?_ | with_reducible refine aw_toS (aw_condP fun A B hA hB => ?_)
                simp []
                refine ⟨fun hc => hA ?_, fun hc => hB ?_⟩ <;> clear hA hB A B <;> (try (simp at hc; done)) <;> (try (exfalso; simp at hc; omega)) <;> clear hc <;> (try with_reducible refine aw_skip ?_)
                first | with_reducible refine aw_skipL ?_ | skip
                refine blockK_normal ?_
                repeat with_reducible refine aw_assoc ?_
                first | with_reducible refine aw_region0 (by decide +kernel) fun K' hK => ?_ | with_reducible refine aw_toS (aw_region0 (by decide +kernel) fun K' hK => ?_)
                simp [s10, hw]
                first | refine hK _ _ _ ?_ | done
                clear K' hK
                refine aw_skipL (loopK_normal ?_ ?_)
                · exact ⟨by simp [s0], by simp [s2], by simp [s8], by simp [s9], m + 1, by simp [hw], by omega⟩
                · simp [s10, hw]; omega
              · repeat with_reducible refine aw_assoc ?_
                first | with_reducible refine aw_region0 (by decide +kernel) fun K' hK => ?_ | with_reducible refine aw_toS (aw_region0 (by decide +kernel) fun K' hK => ?_)
                simp [s0, s10, s9, s2, hm2, b1]
                first | refine hK _ _ _ ?_ | done
                clear K' hK
                repeat with_reducible refine aw_assoc ?_
                first | with_reducible refine aw_condP fun A B hA hB => ?_ | with_reducible refine aw_toS (aw_condP fun A B hA hB => ?_)
                simp []
                refine ⟨fun hc => hA ?_, fun hc => hB ?_⟩ <;> clear hA hB A B <;> (try (simp at hc; done)) <;> (try (exfalso; simp at hc; omega)) <;> clear hc <;> (try with_reducible refine aw_skip ?_)
                first | with_reducible refine aw_skipL ?_ | skip
                refine blockK_normal ?_
                repeat with_reducible refine aw_assoc ?_
                first | with_reducible refine aw_region0 (by decide +kernel) fun K' hK => ?_ | with_reducible refine aw_toS (aw_region0 (by decide +kernel) fun K' hK => ?_)
                simp [s10, hw]
                first | refine hK _ _ _ ?_ | done
                clear K' hK
                refine aw_skipL (loopK_normal ?_ ?_)
                · exact ⟨by simp [s0], by simp [s2], by simp [s8], by simp [s9], m + 1, by simp [hw], by omega⟩
                · simp [s10, hw]; omega
            · repeat with_reducible refine aw_assoc ?_
              first | with_reducible refine aw_exit ?_ | with_reducible refine aw_exitL ?_
              refine loopK_exit (blockK_exit ?_)
              repeat with_reducible refine aw_assoc ?_
              first | with_reducible refine aw_region0 (by decide +kernel) fun K' hK => ?_ | with_reducible refine aw_toS (aw_region0 (by decide +kernel) fun K' hK => ?_)
              simp [s0, s9, hj]
              first | refine hK _ _ _ ?_ | done
              clear K' hK
              first | with_reducible refine aw_skipL ?_ | skip
              refine blockK_normal ?_
              refine aw_skipL (loopK_normal ?_ ?_)
              · exact ⟨by simp [s0], by simp [s2], by simp [s8], _, by simp, hge, hon⟩
              · simp [o9]; omega
end Go.Proofs.YtomidniaekeafaaGreatDoorAbs
/- TreeRight. -/
namespace Go.Proofs.YtomidniaekeafaaGreatDoorAbs
set_option linter.unusedSimpArgs false
set_option linter.unusedVariables false
open Go Go.RowKit Go.Proofs
set_option maxRecDepth 100000
set_option maxHeartbeats 1000000
theorem oks_add {t : List Pl} {i : Int} {b : Bs} {v : Ver} (ht : OKs t) (hl : t.length < 1000000000) (hb : b.size ≤ 4000000000) (hv : v.pre.size ≤ 4000000000) : OKs (addT t i b v) :=
  ⟨by rw [add_len]; omega, fun p hp => by
    rcases List.mem_append.1 hp with h | h
    · exact ht.2 p h
    · rw [List.mem_singleton.1 h]; exact ⟨hb, hv⟩⟩
theorem oks_addR {t : List Pl} {i : Int} {b : Bs} {v : Ver} (ht : OKs t) (hb : b.size ≤ 4000000000) (hv : v.pre.size ≤ 4000000000) : OKs (addR t i b v) := by
  unfold addR
  split
  · rename_i h
    have := (addCode_inv h).2.2.2.2.1
    exact oks_add ht (by omega) hb hv
  · exact ⟨by simp, by simp⟩
theorem oks_cutR {t : List Pl} {i : Int} (ht : OKs t) : OKs (cutR t i) := by
  unfold cutR
  split
  · rename_i h
    obtain ⟨g, h1, h2⟩ := cutCode_inv h
    have hs := cut_short g h1 h2
    have hl := g.le
    refine ⟨by omega, fun p hp => ?_⟩
    unfold cutT at hp
    obtain ⟨j, hj, rfl⟩ := List.mem_map.1 hp
    have hj := List.mem_range.1 (List.mem_filter.1 hj).1
    have h3 := ht.2 _ (nth_mem hj)
    exact h3
  · exact ⟨by simp, by simp⟩
theorem c34 : Tryz.prog.cellsOf 34 = 6 := by kernel_rfl
theorem new_check : checkN [rootP] = 0 := by decide +kernel
theorem right4_ok (t : List Pl) (i : Int) (name : Bs) (v : Ver) (hl : t.length ≤ 9223372036854775807) : CallsOK Tryz.prog 4 [rowT Pl.cells t, iV i, sV name, .agg v.cells] (bV true) [] := by
  refine callsOK mixed Tryz.call4 Tryz.func4 rfl (by rw [Tryz.ntmps4]; simp) ?_ rfl
  rw [Tryz.ntmps4]
  repeat with_reducible refine aw_assoc ?_
  first | with_reducible refine aw_region0 (by decide +kernel) fun K' hK => ?_ | with_reducible refine aw_toS (aw_region0 (by decide +kernel) fun K' hK => ?_)
  simp []
  first | refine hK _ _ _ ?_ | done
  clear K' hK
  repeat with_reducible refine aw_assoc ?_
  first | with_reducible refine aw_region0 (by decide +kernel) fun K' hK => ?_ | with_reducible refine aw_toS (aw_region0 (by decide +kernel) fun K' hK => ?_)
  simp []
  refine acall_flat (large10_ok t name v hl) rfl (by simp <;> rfl) ?_
  cases hlg : largeF t name v with
  | true =>
    simp
    first | refine hK _ _ _ ?_ | done
    clear K' hK
    repeat with_reducible refine aw_assoc ?_
    first | with_reducible refine aw_condP fun A B hA hB => ?_ | with_reducible refine aw_toS (aw_condP fun A B hA hB => ?_)
    simp []
    refine ⟨fun hc => hA ?_, fun hc => hB ?_⟩ <;> clear hA hB A B <;> (try (simp at hc; done)) <;> (try (exfalso; simp at hc; omega)) <;> clear hc <;> (try with_reducible refine aw_skip ?_)
    repeat with_reducible refine aw_assoc ?_
    first | with_reducible refine aw_region0 (by decide +kernel) fun K' hK => ?_ | with_reducible refine aw_toS (aw_region0 (by decide +kernel) fun K' hK => ?_)
    simp []
    first | refine hK _ _ _ ?_ | done
    clear K' hK
    repeat with_reducible refine aw_assoc ?_
    first | with_reducible refine aw_ret ?_ | with_reducible refine aw_retL ?_ | with_reducible refine aw_skipL ?_
    simp [blockK, loopK, Post, resA, res1, expT, expA, exp1, expM, expL, okT, okA, ok1, rowOf, Tryz.f4]
  | false =>
    obtain ⟨ht, hn, hv⟩ := large_not hlg
    have hA := add12_ok t ht i name v (by omega) (by omega)
    have hta := oks_addR (i := i) ht (b := name) (v := v) (by omega) (by omega)
    have htc := oks_cutR (i := i) ht
    simp
    first | refine hK _ _ _ ?_ | done
    clear K' hK
    repeat with_reducible refine aw_assoc ?_
    first | with_reducible refine aw_condP fun A B hA hB => ?_ | with_reducible refine aw_toS (aw_condP fun A B hA hB => ?_)
    simp []
    refine ⟨fun hc => hA ?_, fun hc => hB ?_⟩ <;> clear hA hB A B <;> (try (simp at hc; done)) <;> (try (exfalso; simp at hc; omega)) <;> clear hc <;> (try with_reducible refine aw_skip ?_)
    repeat with_reducible refine aw_assoc ?_
    first | with_reducible refine aw_region0 (by decide +kernel) fun K' hK => ?_ | with_reducible refine aw_toS (aw_region0 (by decide +kernel) fun K' hK => ?_)
    simp []
    refine acall_new hA (by simp <;> exact ⟨rfl, rfl⟩) ?_
    simp [addJ_one]
    first | refine hK _ _ _ ?_ | done
    clear K' hK
    repeat with_reducible refine aw_assoc ?_
    first | with_reducible refine aw_region0 (by decide +kernel) fun K' hK => ?_ | with_reducible refine aw_toS (aw_region0 (by decide +kernel) fun K' hK => ?_)
    simp []
    refine acall_new (cut14_ok t ht i) (by simp <;> rfl) ?_
    simp [addJ_one]
    first | refine hK _ _ _ ?_ | done
    clear K' hK
    refine aw_gen (fun s G nx => s 0 = rowT Pl.cells t ∧ s 1 = iV i ∧ s 2 = sV name ∧ s 9 = .row 1 (addR t i name v).length ∧ s 10 = iV (addI t i name v) ∧ s 11 = iV (addCode t i name v) ∧ s 12 = .row 2 (cutR t i).length ∧ s 13 = iV (cutCode t i) ∧ G 1 = some (.row 34 (flat Pl.cells (addR t i name v))) ∧ G 2 = some (.row 34 (flat Pl.cells (cutR t i)))) ?_ ?_
    · simp
    rintro s G nx ⟨s0, s1, s2, s9, s10, s11, s12, s13, g1, g2⟩
    have ha : treeOf Tryz.prog G (.row 1 (addR t i name v).length) = some (rowT Pl.cells (addR t i name v)) := treeOf_of g1 c34 rfl
    have hc : treeOf Tryz.prog G (.row 2 (cutR t i).length) = some (rowT Pl.cells (cutR t i)) := treeOf_of g2 c34 rfl
    repeat with_reducible refine aw_assoc ?_
    refine aw_cut (fun s G nx => s 0 = rowT Pl.cells t ∧ s 12 = .row 2 (cutR t i).length ∧ s 13 = iV (cutCode t i) ∧ G 2 = some (.row 34 (flat Pl.cells (cutR t i))) ∧ s 61 = bV false) ?_ ?_
    · by_cases h0 : addCode t i name v = 0
      · obtain ⟨r1, r2, r3⟩ := add_right h0
        have e1 : addR t i name v = addT t i name v := by rw [addR, if_pos h0]
        have e2 : addI t i name v = t.length := by rw [addI, if_pos h0]
        rw [e1] at ha s9 hta
        rw [e2] at s10
        rw [h0] at s11
        repeat with_reducible refine aw_assoc ?_
        first | with_reducible refine aw_region0 (by decide +kernel) fun K' hK => ?_ | with_reducible refine aw_toS (aw_region0 (by decide +kernel) fun K' hK => ?_)
        simp [s11, s9]
        refine acall_flat (check18_ok _ hta) rfl (by simp [ha]) ?_
        simp [r1, s9, s1, s2]
        refine acall_flat (resolve19_ok _ hta i name) rfl (by simp [ha]) ?_
        simp [r2, s9, s10, s2]
        refine acall_flat (resolve19_ok _ hta t.length name) rfl (by simp [ha]) ?_
        simp [r3, s10, s0]
        first | refine hK _ _ _ ?_ | done
        clear K' hK
        with_reducible refine aw_end ?_
        simp [s0, s12, s13, g2]
      · repeat with_reducible refine aw_assoc ?_
        first | with_reducible refine aw_region0 (by decide +kernel) fun K' hK => ?_ | with_reducible refine aw_toS (aw_region0 (by decide +kernel) fun K' hK => ?_)
        simp [s11, h0]
        first | refine hK _ _ _ ?_ | done
        clear K' hK
        with_reducible refine aw_end ?_
        simp [s0, s12, s13, g2]
    rintro s G nx ⟨s0, s12, s13, g2, s61⟩
    have hc : treeOf Tryz.prog G (.row 2 (cutR t i).length) = some (rowT Pl.cells (cutR t i)) := treeOf_of g2 c34 rfl
    repeat with_reducible refine aw_assoc ?_
    first | with_reducible refine aw_condP fun A B hA hB => ?_ | with_reducible refine aw_toS (aw_condP fun A B hA hB => ?_)
    simp [s61]
    refine ⟨fun hc => hA ?_, fun hc => hB ?_⟩ <;> clear hA hB A B <;> (try (simp at hc; done)) <;> (try (exfalso; simp at hc; omega)) <;> clear hc <;> (try with_reducible refine aw_skip ?_)
    repeat with_reducible refine aw_assoc ?_
    first | with_reducible refine aw_region0 (by decide +kernel) fun K' hK => ?_ | with_reducible refine aw_toS (aw_region0 (by decide +kernel) fun K' hK => ?_)
    simp []
    refine acall_flat stands17_ok rfl (by simp) ?_
    by_cases h0 : cutCode t i = 0
    · obtain ⟨g, h1, h2⟩ := cutCode_inv h0
      have e1 : cutR t i = cutT t i t.length := by rw [cutR, if_pos h0]
      have k1 : checkN (cutT t i t.length) = 0 := check_iff.2 (good_cut g h1 h2)
      have k2 := cut_short g h1 h2
      rw [e1] at hc htc s12 g2
      rw [h0] at s13
      have hk := check18_ok _ htc
      rw [k1] at hk
      simp [s13, s12]
      refine acall_flat hk rfl (by simp [hc]) ?_
      have k3 : ((cutT t i t.length).length : Int) < t.length := by omega
      simp [s12, s0, k3, g2]
      refine acall_new new20_ok (by simp) ?_
      simp [addJ_one]
      refine acall_flat (check18_ok [rootP] okNew) rfl (by simp [treeOf_row, c34] <;> rfl) ?_
      simp [new_check]
      first | refine hK _ _ _ ?_ | done
      clear K' hK
      repeat with_reducible refine aw_assoc ?_
      first | with_reducible refine aw_ret ?_ | with_reducible refine aw_retL ?_ | with_reducible refine aw_skipL ?_
      simp [blockK, loopK, Post, resA, res1, expT, expA, exp1, expM, expL, okT, okA, ok1, rowOf, Tryz.f4]
    · simp [s13, h0]
      refine acall_new new20_ok (by simp) ?_
      simp [addJ_one]
      refine acall_flat (check18_ok [rootP] okNew) rfl (by simp [treeOf_row, c34] <;> rfl) ?_
      simp [new_check]
      first | refine hK _ _ _ ?_ | done
      clear K' hK
      repeat with_reducible refine aw_assoc ?_
      first | with_reducible refine aw_ret ?_ | with_reducible refine aw_retL ?_ | with_reducible refine aw_skipL ?_
      simp [blockK, loopK, Post, resA, res1, expT, expA, exp1, expM, expL, okT, okA, ok1, rowOf, Tryz.f4]
end Go.Proofs.YtomidniaekeafaaGreatDoorAbs
/- TreeUndoes. -/
namespace Go.Proofs.YtomidniaekeafaaGreatDoorAbs
set_option linter.unusedSimpArgs false
set_option linter.unusedVariables false
open Go Go.RowKit Go.Proofs
set_option maxRecDepth 100000
set_option maxHeartbeats 1000000
theorem frz_new {G : Hp} {r n : Nat} {t : List Pl} (hG : G r = some (.row 34 (flat Pl.cells t))) (hne : t ≠ []) : frzOf G (.row r n) = G.upd r (.frz 34 (flat Pl.cells t)) := by
  cases t with
  | nil => exact absurd rfl hne
  | cons p t => rw [frzOf_row, hG]; rfl
theorem frz_old {G : Hp} {r n : Nat} {e : Nat} {cs : List AV} (hG : G r = some (.frz e cs)) : frzOf G (.row r n) = G := by
  rw [frzOf_row, hG]
theorem add_ne {t : List Pl} {i : Int} {b : Bs} {v : Ver} : addT t i b v ≠ [] := by simp [addT]
theorem undoes7_ok (t : List Pl) (i : Int) (name other : Bs) (v : Ver) (hl : t.length ≤ 9223372036854775807) : CallsOK Tryz.prog 7 [rowT Pl.cells t, iV i, sV name, sV other, .agg v.cells] (bV true) [] := by
  refine callsOK mixed Tryz.call7 Tryz.func7 rfl (by rw [Tryz.ntmps7]; simp) ?_ rfl
  rw [Tryz.ntmps7]
  repeat with_reducible refine aw_assoc ?_
  first | with_reducible refine aw_region0 (by decide +kernel) fun K' hK => ?_ | with_reducible refine aw_toS (aw_region0 (by decide +kernel) fun K' hK => ?_)
  simp []
  first | refine hK _ _ _ ?_ | done
  clear K' hK
  repeat with_reducible refine aw_assoc ?_
  first | with_reducible refine aw_region0 (by decide +kernel) fun K' hK => ?_ | with_reducible refine aw_toS (aw_region0 (by decide +kernel) fun K' hK => ?_)
  simp []
  refine acall_flat (large10_ok t name v hl) rfl (by simp <;> rfl) ?_
  cases hlg : largeF t name v with
  | true =>
    simp
    first | refine hK _ _ _ ?_ | done
    clear K' hK
    repeat with_reducible refine aw_assoc ?_
    first | with_reducible refine aw_condP fun A B hA hB => ?_ | with_reducible refine aw_toS (aw_condP fun A B hA hB => ?_)
    simp []
    refine ⟨fun hc => hA ?_, fun hc => hB ?_⟩ <;> clear hA hB A B <;> (try (simp at hc; done)) <;> (try (exfalso; simp at hc; omega)) <;> clear hc <;> (try with_reducible refine aw_skip ?_)
    repeat with_reducible refine aw_assoc ?_
    first | with_reducible refine aw_region0 (by decide +kernel) fun K' hK => ?_ | with_reducible refine aw_toS (aw_region0 (by decide +kernel) fun K' hK => ?_)
    simp []
    first | refine hK _ _ _ ?_ | done
    clear K' hK
    repeat with_reducible refine aw_assoc ?_
    first | with_reducible refine aw_ret ?_ | with_reducible refine aw_retL ?_ | with_reducible refine aw_skipL ?_
    simp [blockK, loopK, Post, resA, res1, expT, expA, exp1, expM, expL, okT, okA, ok1, rowOf, Tryz.f7]
  | false =>
    obtain ⟨ht, hn, hv⟩ := large_not hlg
    by_cases ho : (300 : Int) < other.size
    · simp [ho]
      first | refine hK _ _ _ ?_ | done
      clear K' hK
      repeat with_reducible refine aw_assoc ?_
      first | with_reducible refine aw_condP fun A B hA hB => ?_ | with_reducible refine aw_toS (aw_condP fun A B hA hB => ?_)
      simp []
      refine ⟨fun hc => hA ?_, fun hc => hB ?_⟩ <;> clear hA hB A B <;> (try (simp at hc; done)) <;> (try (exfalso; simp at hc; omega)) <;> clear hc <;> (try with_reducible refine aw_skip ?_)
      repeat with_reducible refine aw_assoc ?_
      first | with_reducible refine aw_region0 (by decide +kernel) fun K' hK => ?_ | with_reducible refine aw_toS (aw_region0 (by decide +kernel) fun K' hK => ?_)
      simp []
      first | refine hK _ _ _ ?_ | done
      clear K' hK
      repeat with_reducible refine aw_assoc ?_
      first | with_reducible refine aw_ret ?_ | with_reducible refine aw_retL ?_ | with_reducible refine aw_skipL ?_
      simp [blockK, loopK, Post, resA, res1, expT, expA, exp1, expM, expL, okT, okA, ok1, rowOf, Tryz.f7]
    have ho2 : other.size ≤ 300 := by omega
    have hA := add12_ok t ht i name v (by omega) (by omega)
    have hta := oks_addR (i := i) ht (b := name) (v := v) (by omega) (by omega)
    simp [ho]
    first | refine hK _ _ _ ?_ | done
    clear K' hK
    repeat with_reducible refine aw_assoc ?_
    first | with_reducible refine aw_condP fun A B hA hB => ?_ | with_reducible refine aw_toS (aw_condP fun A B hA hB => ?_)
    simp []
    refine ⟨fun hc => hA ?_, fun hc => hB ?_⟩ <;> clear hA hB A B <;> (try (simp at hc; done)) <;> (try (exfalso; simp at hc; omega)) <;> clear hc <;> (try with_reducible refine aw_skip ?_)
    repeat with_reducible refine aw_assoc ?_
    first | with_reducible refine aw_region0 (by decide +kernel) fun K' hK => ?_ | with_reducible refine aw_toS (aw_region0 (by decide +kernel) fun K' hK => ?_)
    simp []
    refine acall_new hA (by simp <;> exact ⟨rfl, rfl⟩) ?_
    simp [addJ_one]
    first | refine hK _ _ _ ?_ | done
    clear K' hK
    refine aw_gen (fun s G nx => nx = 2 ∧ s 0 = rowT Pl.cells t ∧ s 1 = iV i ∧ s 2 = sV name ∧ s 3 = sV other ∧ s 9 = .ptr 0 0 ∧ s 11 = .row 1 (addR t i name v).length ∧ s 12 = iV (addI t i name v) ∧ s 13 = iV (addCode t i name v) ∧ G 0 = some (.var 24 v.cells) ∧ G 1 = some (.row 34 (flat Pl.cells (addR t i name v)))) ?_ ?_
    · simp
    rintro s G nx ⟨rfl, s0, s1, s2, s3, s9, s11, s12, s13, g0, g1⟩
    repeat with_reducible refine aw_assoc ?_
    first | with_reducible refine aw_region0 (by decide +kernel) fun K' hK => ?_ | with_reducible refine aw_toS (aw_region0 (by decide +kernel) fun K' hK => ?_)
    simp [s13]
    first | refine hK _ _ _ ?_ | done
    clear K' hK
    by_cases h0 : addCode t i name v = 0
    case neg =>
      have e1 : addR t i name v = [] := by rw [addR, if_neg h0]
      rw [e1] at s11
      repeat with_reducible refine aw_assoc ?_
      first | with_reducible refine aw_condP fun A B hA hB => ?_ | with_reducible refine aw_toS (aw_condP fun A B hA hB => ?_)
      simp [h0]
      refine ⟨fun hc => hA ?_, fun hc => hB ?_⟩ <;> clear hA hB A B <;> (try (simp at hc; done)) <;> (try (exfalso; simp at hc; omega)) <;> clear hc <;> (try with_reducible refine aw_skip ?_)
      rw [e1] at g1
      repeat with_reducible refine aw_assoc ?_
      first | with_reducible refine aw_region0 (by decide +kernel) fun K' hK => ?_ | with_reducible refine aw_toS (aw_region0 (by decide +kernel) fun K' hK => ?_)
      simp []
      refine acall_flat stands17_ok rfl (by simp) ?_
      simp [s11, g1]
      first | refine hK _ _ _ ?_ | done
      clear K' hK
      repeat with_reducible refine aw_assoc ?_
      first | with_reducible refine aw_ret ?_ | with_reducible refine aw_retL ?_ | with_reducible refine aw_skipL ?_
      simp [blockK, loopK, Post, resA, res1, expT, expA, exp1, expM, expL, okT, okA, ok1, rowOf, Tryz.f7]
    repeat with_reducible refine aw_assoc ?_
    first | with_reducible refine aw_condP fun A B hA hB => ?_ | with_reducible refine aw_toS (aw_condP fun A B hA hB => ?_)
    simp [h0]
    refine ⟨fun hc => hA ?_, fun hc => hB ?_⟩ <;> clear hA hB A B <;> (try (simp at hc; done)) <;> (try (exfalso; simp at hc; omega)) <;> clear hc <;> (try with_reducible refine aw_skip ?_)
    have e1 : addR t i name v = addT t i name v := by rw [addR, if_pos h0]
    have e2 : addI t i name v = t.length := by rw [addI, if_pos h0]
    obtain ⟨hcc, hcr⟩ := add_cut h0
    rw [e1] at g1 s11 hta
    rw [e2] at s12
    have ha : treeOf Tryz.prog G (.row 1 (addT t i name v).length) = some (rowT Pl.cells (addT t i name v)) := treeOf_of g1 c34 rfl
    have hC := cut14_ok _ hta t.length
    rw [hcc, hcr] at hC
    repeat with_reducible refine aw_assoc ?_
    first | with_reducible refine aw_region0 (by decide +kernel) fun K' hK => ?_ | with_reducible refine aw_toS (aw_region0 (by decide +kernel) fun K' hK => ?_)
    simp [s11, s12]
    refine acall_new hC (by simp [ha]) ?_
    simp [addJ_one, ha, frz_new g1 add_ne]
    first | refine hK _ _ _ ?_ | done
    clear K' hK
    refine aw_gen (fun s G nx => nx = 3 ∧ s 0 = rowT Pl.cells t ∧ s 1 = iV i ∧ s 2 = sV name ∧ s 3 = sV other ∧ s 9 = .ptr 0 0 ∧ s 11 = .row 1 (addT t i name v).length ∧ s 14 = .row 2 t.length ∧ s 15 = iV 0 ∧ G 0 = some (.var 24 v.cells) ∧ G 1 = some (.frz 34 (flat Pl.cells (addT t i name v))) ∧ G 2 = some (.row 34 (flat Pl.cells t))) ?_ ?_
    · simp [s0, s1, s2, s3, s9, s11, g0]
    rintro s G nx ⟨rfl, s0, s1, s2, s3, s9, s11, s14, s15, g0, g1, g2⟩
    have ha : treeOf Tryz.prog G (.row 1 (addT t i name v).length) = some (rowT Pl.cells (addT t i name v)) := treeOf_of' g1 c34 rfl
    have hB := add12_ok _ hta i other v (by omega) (by omega)
    repeat with_reducible refine aw_assoc ?_
    first | with_reducible refine aw_region0 (by decide +kernel) fun K' hK => ?_ | with_reducible refine aw_toS (aw_region0 (by decide +kernel) fun K' hK => ?_)
    simp [s11, s1, s3, s9, g0]
    refine acall_new hB (by simp [ha] <;> exact ⟨rfl, rfl⟩) ?_
    simp [addJ_one, ha, frz_old g1]
    first | refine hK _ _ _ ?_ | done
    clear K' hK
    refine aw_gen (fun s G nx => nx = 4 ∧ s 0 = rowT Pl.cells t ∧ s 1 = iV i ∧ s 2 = sV name ∧ s 3 = sV other ∧ s 9 = .ptr 0 0 ∧ s 14 = .row 2 t.length ∧ s 15 = iV 0 ∧ s 16 = .row 3 (addR (addT t i name v) i other v).length ∧ s 18 = iV (addCode (addT t i name v) i other v) ∧ G 0 = some (.var 24 v.cells) ∧ G 2 = some (.row 34 (flat Pl.cells t)) ∧ G 3 = some (.row 34 (flat Pl.cells (addR (addT t i name v) i other v)))) ?_ ?_
    · simp [s0, s1, s2, s3, s9, s14, s15, g0, g2]
    rintro s G nx ⟨rfl, s0, s1, s2, s3, s9, s14, s15, s16, s18, g0, g2, g3⟩
    have hc : treeOf Tryz.prog G (.row 2 t.length) = some (rowT Pl.cells t) := treeOf_of g2 c34 rfl
    repeat with_reducible refine aw_assoc ?_
    first | with_reducible refine aw_region0 (by decide +kernel) fun K' hK => ?_ | with_reducible refine aw_toS (aw_region0 (by decide +kernel) fun K' hK => ?_)
    simp [s15, s14, s0]
    refine acall_flat (same16_ok t t ht.1) rfl (by simp [hc]) ?_
    simp
    first | refine hK _ _ _ ?_ | done
    clear K' hK
    repeat with_reducible refine aw_assoc ?_
    first | with_reducible refine aw_condP fun A B hA hB => ?_ | with_reducible refine aw_toS (aw_condP fun A B hA hB => ?_)
    simp []
    refine ⟨fun hc => hA ?_, fun hc => hB ?_⟩ <;> clear hA hB A B <;> (try (simp at hc; done)) <;> (try (exfalso; simp at hc; omega)) <;> clear hc <;> (try with_reducible refine aw_skip ?_)
    repeat with_reducible refine aw_assoc ?_
    first | with_reducible refine aw_region0 (by decide +kernel) fun K' hK => ?_ | with_reducible refine aw_toS (aw_region0 (by decide +kernel) fun K' hK => ?_)
    simp [s18]
    first | refine hK _ _ _ ?_ | done
    clear K' hK
    by_cases h2 : addCode (addT t i name v) i other v = 0
    case neg =>
      repeat with_reducible refine aw_assoc ?_
      first | with_reducible refine aw_condP fun A B hA hB => ?_ | with_reducible refine aw_toS (aw_condP fun A B hA hB => ?_)
      simp [h2]
      refine ⟨fun hc => hA ?_, fun hc => hB ?_⟩ <;> clear hA hB A B <;> (try (simp at hc; done)) <;> (try (exfalso; simp at hc; omega)) <;> clear hc <;> (try with_reducible refine aw_skip ?_)
      repeat with_reducible refine aw_assoc ?_
      first | with_reducible refine aw_region0 (by decide +kernel) fun K' hK => ?_ | with_reducible refine aw_toS (aw_region0 (by decide +kernel) fun K' hK => ?_)
      simp []
      refine acall_flat stands17_ok rfl (by simp) ?_
      simp
      first | refine hK _ _ _ ?_ | done
      clear K' hK
      repeat with_reducible refine aw_assoc ?_
      first | with_reducible refine aw_ret ?_ | with_reducible refine aw_retL ?_ | with_reducible refine aw_skipL ?_
      simp [blockK, loopK, Post, resA, res1, expT, expA, exp1, expM, expL, okT, okA, ok1, rowOf, Tryz.f7]
    repeat with_reducible refine aw_assoc ?_
    first | with_reducible refine aw_condP fun A B hA hB => ?_ | with_reducible refine aw_toS (aw_condP fun A B hA hB => ?_)
    simp [h2]
    refine ⟨fun hc => hA ?_, fun hc => hB ?_⟩ <;> clear hA hB A B <;> (try (simp at hc; done)) <;> (try (exfalso; simp at hc; omega)) <;> clear hc <;> (try with_reducible refine aw_skip ?_)
    obtain ⟨q1, q2, q3, q4⟩ := add_two h0 h2
    have e3 : addR (addT t i name v) i other v = addT (addT t i name v) i other v := by rw [addR, if_pos h2]
    rw [e3] at s16 g3
    have hX := add12_ok t ht i other v (by omega) (by omega)
    have htx := oks_addR (i := i) ht (b := other) (v := v) (by omega) (by omega)
    have e4 : addR t i other v = addT t i other v := by rw [addR, if_pos q1]
    rw [e4] at htx
    rw [e4, q1] at hX
    have hY := add12_ok _ htx i name v (by omega) (by omega)
    have hty := oks_addR (i := i) htx (b := name) (v := v) (by omega) (by omega)
    have htb := oks_addR (i := i) hta (b := other) (v := v) (by omega) (by omega)
    have e5 : addR (addT t i other v) i name v = addT (addT t i other v) i name v := by rw [addR, if_pos q2]
    rw [e5] at hty
    rw [e3] at htb
    rw [e5, q2] at hY
    repeat with_reducible refine aw_assoc ?_
    first | with_reducible refine aw_region0 (by decide +kernel) fun K' hK => ?_ | with_reducible refine aw_toS (aw_region0 (by decide +kernel) fun K' hK => ?_)
    simp [s0, s1, s3, s9, g0]
    refine acall_new hX (by simp <;> exact ⟨rfl, rfl⟩) ?_
    simp [addJ_one]
    first | refine hK _ _ _ ?_ | done
    clear K' hK
    refine aw_gen (fun s G nx => nx = 5 ∧ s 0 = rowT Pl.cells t ∧ s 1 = iV i ∧ s 2 = sV name ∧ s 9 = .ptr 0 0 ∧ s 16 = .row 3 (addT (addT t i name v) i other v).length ∧ s 19 = .row 4 (addT t i other v).length ∧ s 21 = iV 0 ∧ G 0 = some (.var 24 v.cells) ∧ G 3 = some (.row 34 (flat Pl.cells (addT (addT t i name v) i other v))) ∧ G 4 = some (.row 34 (flat Pl.cells (addT t i other v)))) ?_ ?_
    · simp [s0, s1, s2, s9, s16, g0, g3]
    rintro s G nx ⟨rfl, s0, s1, s2, s9, s16, s19, s21, g0, g3, g4⟩
    have hx : treeOf Tryz.prog G (.row 4 (addT t i other v).length) = some (rowT Pl.cells (addT t i other v)) := treeOf_of g4 c34 rfl
    repeat with_reducible refine aw_assoc ?_
    first | with_reducible refine aw_region0 (by decide +kernel) fun K' hK => ?_ | with_reducible refine aw_toS (aw_region0 (by decide +kernel) fun K' hK => ?_)
    simp [s19, s1, s2, s9, g0]
    refine acall_new hY (by simp [hx] <;> exact ⟨rfl, rfl⟩) ?_
    simp [addJ_one, hx, frz_new g4 add_ne]
    first | refine hK _ _ _ ?_ | done
    clear K' hK
    refine aw_gen (fun s G nx => s 0 = rowT Pl.cells t ∧ s 1 = iV i ∧ s 2 = sV name ∧ s 16 = .row 3 (addT (addT t i name v) i other v).length ∧ s 21 = iV 0 ∧ s 22 = .row 5 (addT (addT t i other v) i name v).length ∧ s 24 = iV 0 ∧ G 3 = some (.row 34 (flat Pl.cells (addT (addT t i name v) i other v))) ∧ G 5 = some (.row 34 (flat Pl.cells (addT (addT t i other v) i name v)))) ?_ ?_
    · simp [s0, s1, s2, s16, s21, g3]
    rintro s G nx ⟨s0, s1, s2, s16, s21, s22, s24, g3, g5⟩
    have hb : treeOf Tryz.prog G (.row 3 (addT (addT t i name v) i other v).length) = some (rowT Pl.cells (addT (addT t i name v) i other v)) := treeOf_of g3 c34 rfl
    have hy : treeOf Tryz.prog G (.row 5 (addT (addT t i other v) i name v).length) = some (rowT Pl.cells (addT (addT t i other v) i name v)) := treeOf_of g5 c34 rfl
    have hR1 := resolve19_ok _ hty i name
    rw [q3] at hR1
    have hR2 := resolve19_ok _ htb i name
    rw [q4] at hR2
    have hlen : (addT (addT t i other v) i name v).length = (addT (addT t i name v) i other v).length := by rw [add_len, add_len, add_len, add_len]
    have hw : IntKind.i64.wrap ((t.length : Int) + 1) = (t.length : Int) + 1 := wrap64 (by have := ht.1; omega) (by have := ht.1; omega)
    repeat with_reducible refine aw_assoc ?_
    first | with_reducible refine aw_region0 (by decide +kernel) fun K' hK => ?_ | with_reducible refine aw_toS (aw_region0 (by decide +kernel) fun K' hK => ?_)
    simp []
    refine acall_flat stands17_ok rfl (by simp) ?_
    simp [s21, s24, s22, s16, hlen, g3, g5]
    refine acall_flat hR1 rfl (by simp [← hlen, hy, s1, s2]) ?_
    simp [s0, s16, hw]
    refine acall_flat hR2 rfl (by simp [hb, s1, s2]) ?_
    simp [s0]
    first | refine hK _ _ _ ?_ | done
    clear K' hK
    repeat with_reducible refine aw_assoc ?_
    first | with_reducible refine aw_ret ?_ | with_reducible refine aw_retL ?_ | with_reducible refine aw_skipL ?_
    simp [blockK, loopK, Post, resA, res1, expT, expA, exp1, expM, expL, okT, okA, ok1, rowOf, Tryz.f7]
end Go.Proofs.YtomidniaekeafaaGreatDoorAbs
/- TreePaths. -/
namespace Go.Proofs.YtomidniaekeafaaGreatDoorAbs
set_option linter.unusedSimpArgs false
set_option linter.unusedVariables false
open Go Go.RowKit Go.Proofs
set_option maxRecDepth 100000
set_option maxHeartbeats 1000000
theorem pathS_size {l : List Bs} : (pathS l).size ≤ 1000 := by
  unfold pathS
  split
  · rename_i h
    obtain ⟨h1, h2⟩ := code_iff.1 h
    rw [ofL_size]
    have := join_len [47] 53 (l.map fun b => bsL (preB b)) (fun x hx => by
      obtain ⟨b, hb, rfl⟩ := List.mem_map.1 hx
      rw [pre_bytes]
      have := good_len (h2 b hb)
      simp [nmL]; omega)
    rw [List.length_map] at this
    have h3 : l.length * (53 + ([47] : List UInt8).length) ≤ 12 * 54 := Nat.mul_le_mul_right _ h1
    omega
  · show (0 : Nat) ≤ 1000
    omega
theorem pathOf_size {t : List Pl} {i : Int} : (pathOf t i).size ≤ 1000 := by
  unfold pathOf
  split
  · exact pathS_size
  · show (0 : Nat) ≤ 1000
    omega
def someN (t : List Pl) (p : Bs) (k : Nat) : Bool := (List.range k).any fun j => decide (pathOf t j = p)
theorem some_succ {t : List Pl} {p : Bs} {k : Nat} : someN t p (k + 1) = (someN t p k || decide (pathOf t k = p)) := by
  unfold someN
  rw [List.range_succ, List.any_append]; simp
theorem some_find {t : List Pl} {p : Bs} (g : Good t) : someN t p t.length = (findF t p).isSome := by
  rw [Bool.eq_iff_iff, Option.isSome_iff_exists]
  unfold someN
  rw [List.any_eq_true]
  constructor
  · rintro ⟨j, hj, h⟩
    have hj := List.mem_range.1 hj
    have h := of_decide_eq_true h
    rw [pathOf_eq g hj] at h
    exact ⟨j, find_iff.2 ⟨g, j, rfl, hj, h⟩⟩
  · rintro ⟨k, h⟩
    obtain ⟨_, j, rfl, hj, h⟩ := find_iff.1 h
    exact ⟨j, List.mem_range.2 hj, by rw [pathOf_eq g hj]; simp [h]⟩
theorem paths5_ok (t : List Pl) (path : Bs) (hl : t.length ≤ 9223372036854775807) : CallsOK Tryz.prog 5 [rowT Pl.cells t, sV path] (bV true) [] := by
  refine callsOK mixed Tryz.call5 Tryz.func5 rfl (by rw [Tryz.ntmps5]; simp) ?_ rfl
  rw [Tryz.ntmps5]
  repeat with_reducible refine aw_assoc ?_
  first | with_reducible refine aw_region0 (by decide +kernel) fun K' hK => ?_ | with_reducible refine aw_toS (aw_region0 (by decide +kernel) fun K' hK => ?_)
  simp []
  first | refine hK _ _ _ ?_ | done
  clear K' hK
  repeat with_reducible refine aw_assoc ?_
  first | with_reducible refine aw_region0 (by decide +kernel) fun K' hK => ?_ | with_reducible refine aw_toS (aw_region0 (by decide +kernel) fun K' hK => ?_)
  simp []
  refine acall_flat (large10_ok t path v0 hl) rfl (by simp <;> rfl) ?_
  cases hlg : largeF t path v0 with
  | true =>
    simp
    first | refine hK _ _ _ ?_ | done
    clear K' hK
    repeat with_reducible refine aw_assoc ?_
    first | with_reducible refine aw_condP fun A B hA hB => ?_ | with_reducible refine aw_toS (aw_condP fun A B hA hB => ?_)
    simp []
    refine ⟨fun hc => hA ?_, fun hc => hB ?_⟩ <;> clear hA hB A B <;> (try (simp at hc; done)) <;> (try (exfalso; simp at hc; omega)) <;> clear hc <;> (try with_reducible refine aw_skip ?_)
    repeat with_reducible refine aw_assoc ?_
    first | with_reducible refine aw_region0 (by decide +kernel) fun K' hK => ?_ | with_reducible refine aw_toS (aw_region0 (by decide +kernel) fun K' hK => ?_)
    simp []
    first | refine hK _ _ _ ?_ | done
    clear K' hK
    repeat with_reducible refine aw_assoc ?_
    first | with_reducible refine aw_ret ?_ | with_reducible refine aw_retL ?_ | with_reducible refine aw_skipL ?_
    simp [blockK, loopK, Post, resA, res1, expT, expA, exp1, expM, expL, okT, okA, ok1, rowOf, Tryz.f5]
  | false =>
    obtain ⟨ht, hn, hv⟩ := large_not hlg
    by_cases h60 : (60 : Int) < t.length
    · simp [h60]
      first | refine hK _ _ _ ?_ | done
      clear K' hK
      repeat with_reducible refine aw_assoc ?_
      first | with_reducible refine aw_condP fun A B hA hB => ?_ | with_reducible refine aw_toS (aw_condP fun A B hA hB => ?_)
      simp []
      refine ⟨fun hc => hA ?_, fun hc => hB ?_⟩ <;> clear hA hB A B <;> (try (simp at hc; done)) <;> (try (exfalso; simp at hc; omega)) <;> clear hc <;> (try with_reducible refine aw_skip ?_)
      repeat with_reducible refine aw_assoc ?_
      first | with_reducible refine aw_region0 (by decide +kernel) fun K' hK => ?_ | with_reducible refine aw_toS (aw_region0 (by decide +kernel) fun K' hK => ?_)
      simp []
      first | refine hK _ _ _ ?_ | done
      clear K' hK
      repeat with_reducible refine aw_assoc ?_
      first | with_reducible refine aw_ret ?_ | with_reducible refine aw_retL ?_ | with_reducible refine aw_skipL ?_
      simp [blockK, loopK, Post, resA, res1, expT, expA, exp1, expM, expL, okT, okA, ok1, rowOf, Tryz.f5]
    simp [h60]
    refine acall_flat (check18_ok t ht) rfl (by simp) ?_
    by_cases h0 : checkN t = 0
    case neg =>
      simp [h0]
      first | refine hK _ _ _ ?_ | done
      clear K' hK
      repeat with_reducible refine aw_assoc ?_
      first | with_reducible refine aw_condP fun A B hA hB => ?_ | with_reducible refine aw_toS (aw_condP fun A B hA hB => ?_)
      simp []
      refine ⟨fun hc => hA ?_, fun hc => hB ?_⟩ <;> clear hA hB A B <;> (try (simp at hc; done)) <;> (try (exfalso; simp at hc; omega)) <;> clear hc <;> (try with_reducible refine aw_skip ?_)
      repeat with_reducible refine aw_assoc ?_
      first | with_reducible refine aw_region0 (by decide +kernel) fun K' hK => ?_ | with_reducible refine aw_toS (aw_region0 (by decide +kernel) fun K' hK => ?_)
      simp []
      first | refine hK _ _ _ ?_ | done
      clear K' hK
      repeat with_reducible refine aw_assoc ?_
      first | with_reducible refine aw_ret ?_ | with_reducible refine aw_retL ?_ | with_reducible refine aw_skipL ?_
      simp [blockK, loopK, Post, resA, res1, expT, expA, exp1, expM, expL, okT, okA, ok1, rowOf, Tryz.f5]
    have g := check_iff.1 h0
    have hl1 := ht.1
    simp [h0]
    first | refine hK _ _ _ ?_ | done
    clear K' hK
    repeat with_reducible refine aw_assoc ?_
    first | with_reducible refine aw_condP fun A B hA hB => ?_ | with_reducible refine aw_toS (aw_condP fun A B hA hB => ?_)
    simp []
    refine ⟨fun hc => hA ?_, fun hc => hB ?_⟩ <;> clear hA hB A B <;> (try (simp at hc; done)) <;> (try (exfalso; simp at hc; omega)) <;> clear hc <;> (try with_reducible refine aw_skip ?_)
    repeat with_reducible refine aw_assoc ?_
    first | with_reducible refine aw_region0 (by decide +kernel) fun K' hK => ?_ | with_reducible refine aw_toS (aw_region0 (by decide +kernel) fun K' hK => ?_)
    simp []
    first | refine hK _ _ _ ?_ | done
    clear K' hK
    repeat with_reducible refine aw_assoc ?_
    first | with_reducible refine aw_region0 (by decide +kernel) fun K' hK => ?_ | with_reducible refine aw_toS (aw_region0 (by decide +kernel) fun K' hK => ?_)
    simp []
    first | refine hK _ _ _ ?_ | done
    clear K' hK
    repeat with_reducible refine aw_assoc ?_
    first | with_reducible refine aw_block ?_ | with_reducible refine aw_toS (aw_block ?_)
    refine aw_loop (fun s G nx => s 0 = rowT Pl.cells t ∧ s 1 = sV path ∧ ∃ k : Nat, s 6 = iV k ∧ k ≤ t.length ∧ s 5 = bV (someN t path k)) (fun s _ _ => match s 6 with | .v (.int _ n) => t.length - n.toNat | _ => 0) ?_ ?_
    · exact ⟨by simp, by simp, 0, by simp, by omega, by simp [someN]⟩
    · rintro s G nx - ⟨s0, s1, k, s6, hk, s5⟩
      have hw : IntKind.i64.wrap (↑k + 1) = ((k + 1 : Nat) : Int) := wrapS (by omega)
      repeat with_reducible refine aw_assoc ?_
      first | with_reducible refine aw_region0 (by decide +kernel) fun K' hK => ?_ | with_reducible refine aw_toS (aw_region0 (by decide +kernel) fun K' hK => ?_)
      simp [s0, s6]
      first | refine hK _ _ _ ?_ | done
      clear K' hK
      repeat with_reducible refine aw_assoc ?_
      first | with_reducible refine aw_condP fun A B hA hB => ?_ | with_reducible refine aw_toS (aw_condP fun A B hA hB => ?_)
      simp []
      refine ⟨fun hk2 => hA ?_, fun hk2 => hB ?_⟩ <;> clear hA hB A B <;> (try simp at hk2) <;> (try with_reducible refine aw_skip ?_)
      · have hh : holdsF t k = true := holds_iff.2 ⟨g, by omega, by omega⟩
        have hP := path21_ok t ht k
        rw [hh] at hP
        have hF := find22_ok t ht (pathOf t k) (by have := pathOf_size (t := t) (i := k); omega)
        rw [find_of g hk2] at hF
        repeat with_reducible refine aw_assoc ?_
        first | with_reducible refine aw_block ?_ | with_reducible refine aw_toS (aw_block ?_)
        repeat with_reducible refine aw_assoc ?_
        first | with_reducible refine aw_region0 (by decide +kernel) fun K' hK => ?_ | with_reducible refine aw_toS (aw_region0 (by decide +kernel) fun K' hK => ?_)
        simp [s0, s6]
        refine acall_flat hP rfl (by simp) ?_
        simp
        first | refine hK _ _ _ ?_ | done
        clear K' hK
        repeat with_reducible refine aw_assoc ?_
        first | with_reducible refine aw_region0 (by decide +kernel) fun K' hK => ?_ | with_reducible refine aw_toS (aw_region0 (by decide +kernel) fun K' hK => ?_)
        simp [s0]
        refine acall_flat hF rfl (by simp <;> rfl) ?_
        simp
        first | refine hK _ _ _ ?_ | done
        clear K' hK
        repeat with_reducible refine aw_assoc ?_
        first | with_reducible refine aw_region0 (by decide +kernel) fun K' hK => ?_ | with_reducible refine aw_toS (aw_region0 (by decide +kernel) fun K' hK => ?_)
        simp [s6]
        first | refine hK _ _ _ ?_ | done
        clear K' hK
        repeat with_reducible refine aw_assoc ?_
        first | with_reducible refine aw_condP fun A B hA hB => ?_ | with_reducible refine aw_toS (aw_condP fun A B hA hB => ?_)
        simp []
        refine ⟨fun hc => hA ?_, fun hc => hB ?_⟩ <;> clear hA hB A B <;> (try (simp at hc; done)) <;> (try (exfalso; simp at hc; omega)) <;> clear hc <;> (try with_reducible refine aw_skip ?_)
        have hsc := some_succ (t := t) (p := path) (k := k)
        cases hs : someN t path k with
        | true =>
          rw [hs] at s5 hsc
          repeat with_reducible refine aw_assoc ?_
          first | with_reducible refine aw_region0 (by decide +kernel) fun K' hK => ?_ | with_reducible refine aw_toS (aw_region0 (by decide +kernel) fun K' hK => ?_)
          simp [s5]
          first | refine hK _ _ _ ?_ | done
          clear K' hK
          first | with_reducible refine aw_skipL ?_ | skip
          refine blockK_normal ?_
          repeat with_reducible refine aw_assoc ?_
          first | with_reducible refine aw_region0 (by decide +kernel) fun K' hK => ?_ | with_reducible refine aw_toS (aw_region0 (by decide +kernel) fun K' hK => ?_)
          simp [s6, hw]
          first | refine hK _ _ _ ?_ | done
          clear K' hK
          refine aw_skipL (loopK_normal ?_ ?_)
          · exact ⟨by simp [s0], by simp [s1], k + 1, by simp [hw], by omega, by rw [hsc]; simp [s5]⟩
          · simp [s6, hw]; omega
        | false =>
          rw [hs] at s5 hsc
          repeat with_reducible refine aw_assoc ?_
          first | with_reducible refine aw_region0 (by decide +kernel) fun K' hK => ?_ | with_reducible refine aw_toS (aw_region0 (by decide +kernel) fun K' hK => ?_)
          simp [s5, s1]
          first | refine hK _ _ _ ?_ | done
          clear K' hK
          first | with_reducible refine aw_skipL ?_ | skip
          refine blockK_normal ?_
          repeat with_reducible refine aw_assoc ?_
          first | with_reducible refine aw_region0 (by decide +kernel) fun K' hK => ?_ | with_reducible refine aw_toS (aw_region0 (by decide +kernel) fun K' hK => ?_)
          simp [s6, hw]
          first | refine hK _ _ _ ?_ | done
          clear K' hK
          refine aw_skipL (loopK_normal ?_ ?_)
          · exact ⟨by simp [s0], by simp [s1], k + 1, by simp [hw], by omega, by rw [hsc]; simp⟩
          · simp [s6, hw]; omega
      · repeat with_reducible refine aw_assoc ?_
        first | with_reducible refine aw_exit ?_ | with_reducible refine aw_exitL ?_
        refine loopK_exit (blockK_exit ?_)
        have : k = t.length := by omega
        subst this
        repeat with_reducible refine aw_assoc ?_
        first | with_reducible refine aw_region0 (by decide +kernel) fun K' hK => ?_ | with_reducible refine aw_toS (aw_region0 (by decide +kernel) fun K' hK => ?_)
        simp [s0, s1]
        refine acall_flat (find22_ok t ht path (by omega)) rfl (by simp <;> rfl) ?_
        simp
        first | refine hK _ _ _ ?_ | done
        clear K' hK
        repeat with_reducible refine aw_assoc ?_
        first | with_reducible refine aw_region0 (by decide +kernel) fun K' hK => ?_ | with_reducible refine aw_toS (aw_region0 (by decide +kernel) fun K' hK => ?_)
        simp []
        refine acall_flat stands17_ok rfl (by simp) ?_
        rw [some_find g] at s5
        simp [s5]
        first | refine hK _ _ _ ?_ | done
        clear K' hK
        repeat with_reducible refine aw_assoc ?_
        first | with_reducible refine aw_ret ?_ | with_reducible refine aw_retL ?_ | with_reducible refine aw_skipL ?_
        simp [blockK, loopK, Post, resA, res1, expT, expA, exp1, expM, expL, okT, okA, ok1, rowOf, Tryz.f5]
end Go.Proofs.YtomidniaekeafaaGreatDoorAbs
