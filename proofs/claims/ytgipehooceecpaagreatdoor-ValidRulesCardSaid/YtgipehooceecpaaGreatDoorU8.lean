/- cmp, strings.Split, version.parts, rows, Compare. -/
import Derived.Test.YtgipehooceecpaaGreatDoorU7
import Derived.Test.YtgipehooceecpaaGreatDoorU4
import Derived.Lib.Split
namespace Go.Proofs.YtgipehooceecpaaGreatDoorAbs
set_option linter.unusedSimpArgs false
set_option linter.unusedVariables false
open Go Go.RowKit Go.Proofs
set_option maxRecDepth 100000
set_option maxHeartbeats 1000000
def belowK (t : List Pl) (i : Nat) (k : Nat) : List Int := ((List.range k).filter fun j => decide (i ≤ j) && underF t j i).map fun (j : Nat) => (j : Int)
def belowL (t : List Pl) (i : Int) : List Int := if holdsF t i then belowK t i.toNat t.length else []
theorem belowK_succ {t : List Pl} {i k : Nat} (h : i ≤ k) : belowK t i (k + 1) = belowK t i k ++ if underF t k i = true then [(k : Int)] else [] := by
 unfold belowK
 rw [List.range_succ, List.filter_append, List.map_append]
 congr 1
 cases hu : underF t k i <;> simp [hu, h]
theorem belowK_len {t : List Pl} {i k : Nat} : (belowK t i k).length ≤ k := by
 have := List.length_filter_le (fun j => decide (i ≤ j) && underF t j i) (List.range k)
 simpa [belowK] using this
theorem below28_ok (t : List Pl) (ht : OKs t) (i : Int) : CallsOK Tryz.prog 69 [rowT Pl.cells t, iV i] (.row 0 (belowL t i).length) [(3, flat iC (belowL t i))] := by
 refine callsOK mixed Tryz.call69 Tryz.func69 rfl (by rw [Tryz.ntmps69]; simp) ?_ rfl
 rw [Tryz.ntmps69]
 with_reducible refine aR fun K' hK => ?_
 simp []
 refine hK _ _ _ ?_
 clear K' hK
 with_reducible refine aA ?_
 with_reducible refine aR fun K' hK => ?_
 simp []
 refine acall_flat (holds43_ok t ht i) rfl (by simp) ?_
 cases hh : holdsF t i with
 | false =>
  have e : belowL t i = [] := by rw [belowL, hh]; rfl
  simp
  refine hK _ _ _ ?_
  clear K' hK
  with_reducible refine aC fun A B hA hB => ?_
  simp []
  refine ⟨fun hc => hA ?_, fun hc => hB ?_⟩ <;> clear hA hB A B <;> (try (simp at hc; done)) <;> (try (exfalso; simp at hc; omega)) <;> clear hc <;> (try with_reducible refine aK ?_)
  with_reducible refine aA ?_
  with_reducible refine aR fun K' hK => ?_
  simp []
  refine hK _ _ _ ?_
  clear K' hK
  first | with_reducible refine aw_ret ?_ | with_reducible refine aw_retL ?_ | with_reducible refine aw_skipL ?_
  simp [blockK, loopK, Post, resA, res1, expT, expA, exp1, expM, expL, okT, okA, ok1, rowOf, Tryz.f69]
  rw [e]
  exact ⟨[1], ⟨rfl, rfl⟩, rfl⟩
 | true =>
  obtain ⟨hch, hi0, hi1⟩ := holdsF_inv hh
  obtain ⟨n, rfl⟩ : ∃ n : Nat, i = n := ⟨i.toNat, by omega⟩
  have hn : n < t.length := by omega
  have hd := good_dn hch
  have hl := ht.1
  have e : belowL t n = belowK t n t.length := by rw [belowL, hh]; simp
  have hk0 : belowK t n n = [] := by
   unfold belowK
   rw [show (List.range n).filter (fun j => decide (n ≤ j) && underF t j n) = [] from List.filter_eq_nil_iff.2 (fun j hj => by have := List.mem_range.1 hj; simp; omega)]; rfl
  simp
  refine hK _ _ _ ?_
  clear K' hK
  with_reducible refine aC fun A B hA hB => ?_
  simp []
  refine ⟨fun hc => hA ?_, fun hc => hB ?_⟩ <;> clear hA hB A B <;> (try (simp at hc; done)) <;> (try (exfalso; simp at hc; omega)) <;> clear hc <;> (try with_reducible refine aK ?_)
  with_reducible refine aR fun K' hK => ?_
  simp []
  refine hK _ _ _ ?_
  clear K' hK
  with_reducible refine aA ?_
  with_reducible refine aR fun K' hK => ?_
  simp []
  refine hK _ _ _ ?_
  clear K' hK
  with_reducible refine aw_block ?_
  refine aw_loop (fun u G nx => u 0 = rowT Pl.cells t ∧ u 1 = iV n ∧ ∃ k r : Nat, u 6 = iV k ∧ n ≤ k ∧ k ≤ t.length ∧ u 5 = .row r (belowK t n k).length ∧ G r = some (.row 3 (flat iC (belowK t n k))) ∧ r < nx) (fun u _ _ => match u 6 with | .v (.int _ n) => t.length - n.toNat | _ => 0) ?_ ?_
  ·exact ⟨by simp, by simp, n, 1, by simp, by omega, by omega, by simp [hk0], by simp [hk0], by omega⟩
  ·rintro u G nx - ⟨u0, u1, k, r, u6, hnk, hk, u5, gr, hrn⟩
   have hw : IntKind.i64.wrap (↑k + 1) = ((k + 1 : Nat) : Int) := wrapS (by omega)
   have hbs := belowK_succ (t := t) hnk
   have hlen := belowK_len (t := t) (i := n) (k := k)
   with_reducible refine aA ?_
   with_reducible refine aR fun K' hK => ?_
   simp [u0, u6]
   refine hK _ _ _ ?_
   clear K' hK
   with_reducible refine aC fun A B hA hB => ?_
   simp []
   refine ⟨fun hi2 => hA ?_, fun hi2 => hB ?_⟩ <;> clear hA hB A B <;> (try simp at hi2) <;> (try with_reducible refine aK ?_)
   ·skip
    with_reducible refine aw_block ?_
    with_reducible refine aR fun K' hK => ?_
    simp [u0, u1, u6]
    refine acall_flat (under40_ok t hd hl k hi2 n) rfl (by simp) ?_
    simp
    refine hK _ _ _ ?_
    clear K' hK
    cases hu : underF t k n with
    | true =>
     rw [hu] at hbs
     have b1 : (belowK t n k).length + 1 ≤ 9223372036854775807 := by omega
     have b2 : ((belowK t n k).length + 1) * 8 ≤ 140737488355328 := by omega
     have n1 : ¬ r = nx := by omega
     with_reducible refine aD fun A B hA hB => ?_
     simp []
     refine ⟨fun hc => hA ?_, fun hc => hB ?_⟩ <;> clear hA hB A B <;> (try (simp at hc; done)) <;> (try (exfalso; simp at hc; omega)) <;> clear hc <;> (try with_reducible refine aK ?_)
     with_reducible refine aR fun K' hK => ?_
     simp [u5, u6, gr, b1, b2, n1, treeOf_row, srcOf_row]
     refine hK _ _ _ ?_
     clear K' hK
     with_reducible refine aw_skipL ?_
     refine blockK_normal ?_
     with_reducible refine aS fun K' hK => ?_
     simp [u6, hw]
     refine hK _ _ _ ?_
     clear K' hK
     refine aw_skipL (loopK_normal ?_ ?_)
     ·refine ⟨by simp [u0], by simp [u1], k + 1, nx + 1, by simp [hw], by omega, by omega, ?_, ?_, by omega⟩
      ·rw [hbs]; simp
      ·rw [hbs, if_pos rfl, Hp.upd_self, ← flat_app]; rfl
     ·simp [u6, hw]; omega
    | false =>
     rw [hu] at hbs
     have hbs' : belowK t n (k + 1) = belowK t n k := by rw [hbs]; simp
     with_reducible refine aD fun A B hA hB => ?_
     simp []
     refine ⟨fun hc => hA ?_, fun hc => hB ?_⟩ <;> clear hA hB A B <;> (try (simp at hc; done)) <;> (try (exfalso; simp at hc; omega)) <;> clear hc <;> (try with_reducible refine aK ?_)
     with_reducible refine aw_skipL ?_
     refine blockK_normal ?_
     with_reducible refine aS fun K' hK => ?_
     simp [u6, hw]
     refine hK _ _ _ ?_
     clear K' hK
     refine aw_skipL (loopK_normal ?_ ?_)
     ·exact ⟨by simp [u0], by simp [u1], k + 1, r, by simp [hw], by omega, by omega, by rw [hbs']; simp [u5], by rw [hbs']; exact gr, hrn⟩
     ·simp [u6, hw]; omega
   ·skip
    with_reducible refine aw_exit ?_
    refine loopK_exit (blockK_exit ?_)
    have : k = t.length := by omega
    subst this
    with_reducible refine aR fun K' hK => ?_
    simp [u5]
    refine hK _ _ _ ?_
    clear K' hK
    first | with_reducible refine aw_ret ?_ | with_reducible refine aw_retL ?_ | with_reducible refine aw_skipL ?_
    simp [blockK, loopK, Post, resA, res1, expT, expA, exp1, expM, expL, okT, okA, ok1, rowOf, Tryz.f69, gr]
    rw [e]
    exact ⟨[r], ⟨rfl, rfl⟩, by simp [rowOf, gr]⟩
end Go.Proofs.YtgipehooceecpaaGreatDoorAbs
namespace Go.Proofs.YtgipehooceecpaaGreatDoorAbs
set_option linter.unusedSimpArgs false
set_option linter.unusedVariables false
open Go Go.RowKit Go.Proofs
set_option maxHeartbeats 400000
theorem nth_setG {α : Type} [Inhabited α] {l : List α} {i k : Nat} {a : α} (hi : i < l.length) : nth (l.set i a) k = if k = i then a else nth l k := by
 unfold nth
 rw [List.getD_eq_getElem?_getD, List.getD_eq_getElem?_getD, List.getElem?_set]
 by_cases h : i = k
 ·subst h; simp [hi]
 ·have h' : ¬ k = i := fun e => h e.symm
  simp [h, h']
structure Good (t : List Pl) : Prop where
 le : t.length ≤ 200
 pos : 0 < t.length
 root : nth t 0 = rootP
 par : ∀ j, 1 ≤ j → j < t.length → 0 ≤ parN t j ∧ parN t j < j
 right : ∀ j, 1 ≤ j → j < t.length → rightF (nth t j).name (nth t j).ver = true
 uniq : ∀ j k, 1 ≤ j → j < k → k < t.length → parN t j = parN t k → (nth t j).name = (nth t k).name → False
 high : ∀ j, 1 ≤ j → j < t.length → (upN t j).length ≤ 13
theorem dn_of {t : List Pl} (h0 : parN t 0 = -1) (hp : ∀ j, 1 ≤ j → j < t.length → 0 ≤ parN t j ∧ parN t j < j) : Dn t := by
 intro i hi
 rcases Nat.eq_zero_or_pos i with rfl | h
 ·rw [h0]; omega
 ·exact (hp i h hi).2
theorem root_par {t : List Pl} (h : nth t 0 = rootP) : parN t 0 = -1 := by rw [parN, h]; rfl
theorem Good.dn {t : List Pl} (g : Good t) : Dn t := dn_of (root_par g.root) g.par
theorem up_zero {t : List Pl} (h0 : parN t 0 = -1) : upN t 0 = [0] := by
 unfold upN
 rw [upF, if_pos (by omega)]
theorem dD_val {t : List Pl} (h0 : parN t 0 = -1) (hp : ∀ j, 1 ≤ j → j < t.length → 0 ≤ parN t j ∧ parN t j < j) : ∀ i, i < t.length → ∀ j, j ≤ i → nth (dD t i) j + 1 = ((upN t j).length : Int)
 | 0, hi, j, hj => by
  have : j = 0 := by omega
  subst this
  rw [up_zero h0, dD, nth_eq (by simpa using hi)]
  simp
 | i + 1, hi, j, hj => by
  have ih := dD_val h0 hp i (by omega)
  rw [dD, nth_setG (by rw [dD_len]; exact hi), nth_tail hi]
  by_cases h : j = i + 1
  ·subst h
   obtain ⟨h1, h2⟩ := hp (i + 1) (by omega) hi
   have hq : (nth t (i + 1)).par = parN t (i + 1) := rfl
   rw [if_pos rfl, hq, ih _ (by omega), up_step (dn_of h0 hp) hi, if_neg (by omega)]
   simp
  ·rw [if_neg h]
   exact ih j (by omega)
theorem mem_keys {t : List Pl} {i : Nat} (h : i < t.length) {k : Key} : k ∈ keysTo t i ↔ ∃ j, 1 ≤ j ∧ j ≤ i ∧ keyP (nth t j) = k := by
 unfold keysTo
 rw [List.mem_map]
 constructor
 ·rintro ⟨p, hp, rfl⟩
  obtain ⟨j, hj, rfl⟩ := List.mem_iff_getElem.1 hp
  rw [List.length_take, List.length_tail] at hj
  refine ⟨j + 1, by omega, by omega, ?_⟩
  rw [List.getElem_take, nth_eq (by omega)]
  simp
 ·rintro ⟨j, h1, h2, rfl⟩
  obtain ⟨j, rfl⟩ : ∃ m, j = m + 1 := ⟨j - 1, by omega⟩
  refine ⟨nth t (j + 1), List.mem_iff_getElem.2 ⟨j, by rw [List.length_take, List.length_tail]; omega, ?_⟩, rfl⟩
  rw [List.getElem_take, nth_eq (by omega)]
  simp
theorem okAt_iff {t : List Pl} {i : Nat} (h : i + 1 < t.length) : okAt t i = true ↔ (0 ≤ parN t (i + 1) ∧ parN t (i + 1) ≤ i) ∧ rightF (nth t (i + 1)).name (nth t (i + 1)).ver = true ∧
  (∀ j, 1 ≤ j → j ≤ i → parN t j = parN t (i + 1) → (nth t j).name = (nth t (i + 1)).name → False) ∧ nth (dD t i) (parN t (i + 1)).toNat + 1 ≤ 12 := by
 have hk : keyP (nth t (i + 1)) ∉ keysTo t i ↔ (∀ j, 1 ≤ j → j ≤ i → parN t j = parN t (i + 1) → (nth t j).name = (nth t (i + 1)).name → False) := by
  rw [mem_keys (by omega)]
  constructor
  ·intro h j h1 h2 h3 h4
   refine h ⟨j, h1, h2, ?_⟩
   unfold keyP
   rw [h4]
   exact congrArg (Key.mk · _) h3
  ·rintro h ⟨j, h1, h2, h3⟩
   unfold keyP at h3
   injection h3 with h3 h4
   exact h j h1 h2 h3 h4
 simp only [okAt, Bool.and_eq_true, decide_eq_true_eq, nth_tail h, hk]
 exact ⟨fun ⟨a, b, c, d, e⟩ => ⟨⟨a, b⟩, c, d, e⟩, fun ⟨⟨a, b⟩, c, d, e⟩ => ⟨a, b, c, d, e⟩⟩
theorem check_iff {t : List Pl} : checkN t = 0 ↔ Good t := by
 constructor
 ·intro h
  obtain ⟨h1, h2, h3, h4⟩ := check_good h
  have h0 := root_par h3
  have hp : ∀ j, 1 ≤ j → j < t.length → 0 ≤ parN t j ∧ parN t j < j := fun j hj hl => by
   obtain ⟨j, rfl⟩ : ∃ m, j = m + 1 := ⟨j - 1, by omega⟩
   have := ((okAt_iff hl).1 (h4 j hl)).1
   omega
  refine ⟨h1, List.length_pos_iff.2 h2, h3, hp, fun j hj hl => ?_, fun j k h1 h2 h3 => ?_, fun j hj hl => ?_⟩
  ·obtain ⟨j, rfl⟩ : ∃ m, j = m + 1 := ⟨j - 1, by omega⟩
   exact ((okAt_iff hl).1 (h4 j hl)).2.1
  ·obtain ⟨k, rfl⟩ : ∃ m, k = m + 1 := ⟨k - 1, by omega⟩
   exact ((okAt_iff h3).1 (h4 k h3)).2.2.1 j h1 (by omega)
  ·obtain ⟨j, rfl⟩ : ∃ m, j = m + 1 := ⟨j - 1, by omega⟩
   have := ((okAt_iff hl).1 (h4 j hl)).2.2.2
   have hq := hp (j + 1) hj hl
   rw [dD_val h0 hp j (by omega) _ (by omega)] at this
   rw [up_step (dn_of h0 hp) hl, if_neg (by omega)]
   simp; omega
 ·intro g
  have h0 := root_par g.root
  unfold checkN
  rw [if_neg (by have := g.le; omega), if_neg (by simp [g.root, List.ne_nil_of_length_pos g.pos]), if_pos]
  unfold treeOk
  rw [List.all_eq_true]
  intro j hj
  have hl : j + 1 < t.length := by
   have := List.mem_range.1 hj
   rw [List.length_tail] at this; omega
  have hq := g.par (j + 1) (by omega) hl
  refine (okAt_iff hl).2 ⟨by omega, g.right _ (by omega) hl, fun k h1 h2 => g.uniq k (j + 1) h1 (by omega) hl, ?_⟩
  rw [dD_val h0 g.par j (by omega) _ (by omega)]
  have := g.high (j + 1) (by omega) hl
  rw [up_step g.dn hl, if_neg (by omega)] at this
  simp at this; omega
theorem holds_iff {t : List Pl} {i : Int} : holdsF t i = true ↔ Good t ∧ 0 ≤ i ∧ i < t.length := by
 simp [holdsF, check_iff]
-- children
theorem chF_some {t : List Pl} {p : Int} {b : Bs} {k : Nat} (h : chF t p b = some k) : k < t.length ∧ parN t k = p ∧ (nth t k).name = b := by
 unfold chF at h
 rw [List.findIdx?_eq_some_iff_getElem] at h
 obtain ⟨h1, h2, _⟩ := h
 rw [← nth_eq h1] at h2
 have := of_decide_eq_true h2
 exact ⟨h1, this⟩
theorem chF_none {t : List Pl} {p : Int} {b : Bs} : chF t p b = none ↔ ∀ k, k < t.length → parN t k = p → (nth t k).name = b → False := by
 unfold chF
 rw [List.findIdx?_eq_none_iff]
 constructor
 ·intro h k hk h1 h2
  have := h _ (nth_mem hk)
  simp only [chP, decide_eq_false_iff_not] at this
  exact this ⟨h1, h2⟩
 ·intro h p hp
  obtain ⟨k, hk, rfl⟩ := List.mem_iff_getElem.1 hp
  rw [← nth_eq hk]
  simp only [chP, decide_eq_false_iff_not]
  exact fun ⟨h1, h2⟩ => h k hk h1 h2
theorem Good.child {t : List Pl} (g : Good t) {p : Int} (hp : 0 ≤ p) {b : Bs} {k : Nat} (hk : k < t.length) (h1 : parN t k = p) (h2 : (nth t k).name = b) : chF t p b = some k := by
 cases h : chF t p b with
 | none => exact (chF_none.1 h k hk h1 h2).elim
 | some j =>
  obtain ⟨a1, a2, a3⟩ := chF_some h
  have h0 := root_par g.root
  have hj : 1 ≤ j := by
   rcases Nat.eq_zero_or_pos j with rfl | h
   ·omega
   ·exact h
  have hk1 : 1 ≤ k := by
   rcases Nat.eq_zero_or_pos k with rfl | h
   ·omega
   ·exact h
  rcases Nat.lt_trichotomy j k with hl | rfl | hl
  ·exact (g.uniq j k hj hl hk (by rw [a2, h1]) (by rw [a3, h2])).elim
  ·rfl
  ·exact (g.uniq k j hk1 hl a1 (by rw [a2, h1]) (by rw [a3, h2])).elim
-- a place is added
section
variable {t : List Pl} {i : Int} {b : Bs} {v : Ver}
theorem res_at {i : Nat} (hh : Good t) (hi : i < t.length) {k : Nat} (hc : chF t i b = some k) : resolveN t i b = k := by
 have h : holdsF t i = true := holds_iff.2 ⟨hh, by omega, by omega⟩
 rw [resolveN, h, if_pos rfl, Int.toNat_natCast, up_step hh.dn hi, resL, hc]
theorem res_up {i : Nat} (hh : Good t) (hi : i < t.length) (hc : chF t i b = none) (hp : 0 ≤ parN t i) : resolveN t i b = resolveN t (parN t i) b := by
 have h : holdsF t i = true := holds_iff.2 ⟨hh, by omega, by omega⟩
 have := hh.dn i hi
 have h2 : holdsF t (parN t i) = true := holds_iff.2 ⟨hh, by omega, by omega⟩
 rw [resolveN, h, if_pos rfl, Int.toNat_natCast, up_step hh.dn hi, resL, hc, if_neg (by omega)]
 rw [resolveN, h2, if_pos rfl]
theorem res_root (hh : Good t) {i : Nat} (hi : i < t.length) (hc : chF t i b = none) (hp : parN t i < 0) : resolveN t i b = -1 := by
 have h : holdsF t i = true := holds_iff.2 ⟨hh, by omega, by omega⟩
 rw [resolveN, h, if_pos rfl, Int.toNat_natCast, up_step hh.dn hi, resL, hc, if_pos hp]; rfl
end
end Go.Proofs.YtgipehooceecpaaGreatDoorAbs
namespace Go.Proofs.YtgipehooceecpaaGreatDoorAbs
set_option linter.unusedSimpArgs false
set_option linter.unusedVariables false
open Go Go.RowKit Go.Proofs
set_option maxHeartbeats 400000
def rkN (t : List Pl) (i : Int) (j : Nat) : Nat := (keptN t i j).length
section
variable {t : List Pl} {i : Int}
theorem rk_succ {k : Nat} : rkN t i (k + 1) = rkN t i k + if underF t k i = true then 0 else 1 := by
 unfold rkN
 rw [kept_succ, List.length_append]
 split <;> rfl
theorem rk_add {a : Nat} : ∀ d : Nat, rkN t i a ≤ rkN t i (a + d) ∧ rkN t i (a + d) ≤ rkN t i a + d
 | 0 => ⟨Nat.le_refl _, Nat.le_refl _⟩
 | d + 1 => by
  have := rk_add (a := a) d
  rw [← Nat.add_assoc, rk_succ]
  split <;> omega
theorem rk_mono {j k : Nat} (h : j ≤ k) : rkN t i j ≤ rkN t i k := by
 have := (rk_add (t := t) (i := i) (a := j) (k - j)).1
 rwa [Nat.add_sub_cancel' h] at this
theorem rk_lt {j k : Nat} (hu : underF t j i = false) (h : j < k) : rkN t i j < rkN t i k := by
 have h1 := rk_mono (t := t) (i := i) (j := j + 1) (k := k) (by omega)
 rw [rk_succ, hu] at h1
 simp at h1; omega
theorem kept_get : ∀ (m : Nat) {j : Nat}, j < m → underF t j i = false → (keptN t i m)[rkN t i j]? = some j
 | 0, j, h, _ => by omega
 | m + 1, j, h, hu => by
  rw [kept_succ]
  rcases Nat.lt_or_ge j m with h1 | h1
  ·rw [List.getElem?_append_left (rk_lt hu h1)]
   exact kept_get m h1 hu
  ·have : j = m := by omega
   subst this
   rw [hu, List.getElem?_append_right (show (keptN t i j).length ≤ rkN t i j from Nat.le_refl _)]
   simp [rkN]
theorem mem_up (g : Good t) : ∀ (m : Nat) {j x : Nat}, j < m → j < t.length → x ∈ upN t j → x ≤ j
 | 0, j, x, h, _, _ => by omega
 | m + 1, j, x, h, hj, hx => by
  have hd := g.dn j hj
  rw [up_step g.dn hj] at hx
  rcases List.mem_cons.1 hx with rfl | hx
  ·exact Nat.le_refl _
  ·split at hx
   ·cases hx
   ·have := mem_up g m (j := (parN t j).toNat) (by omega) (by omega) hx
    omega
theorem under_ge (g : Good t) {j : Nat} (hj : j < t.length) (h : underF t j i = true) : i ≤ j := by
 unfold underF at h
 obtain ⟨x, hx, h⟩ := List.any_eq_true.1 h
 have := mem_up g _ (Nat.lt_succ_self j) hj hx
 have := of_decide_eq_true h
 omega
theorem under_self (g : Good t) {j : Nat} (hj : j < t.length) : underF t j j = true := by
 rw [under_step g.dn hj]; simp
end
set_option linter.unusedSectionVars false
section
variable {t : List Pl} {i : Int} (g : Good t) (h1 : 1 ≤ i) (h2 : i < t.length)
include g h1 h2
end
-- paths
section
variable {t : List Pl}
end
-- what is added, and cut, is the tree as it was
end Go.Proofs.YtgipehooceecpaaGreatDoorAbs
namespace Go.Proofs.YtgipehooceecpaaGreatDoorAbs
set_option linter.unusedSimpArgs false
set_option linter.unusedVariables false
open Go Go.RowKit Go.Proofs
set_option maxHeartbeats 400000
theorem bsL_empty : bsL ⟨#[]⟩ = [] := rfl
theorem by8_get {l : List UInt8} {i : Nat} (h : i < l.length) : by8 l i = l[i] := by
 simp [by8, List.getD_eq_getElem?_getD, h]
-- cuts at a byte
theorem ib_in : ∀ {a r : List UInt8} {c : UInt8}, c ∉ a → Lib.indexByte (a ++ c :: r) c = a.length
 | [], r, c, _ => by simp [Lib.indexByte]
 | b :: a, r, c, h => by
  have h1 : (b == c) = false := by
   simpa using fun e => h (by simp [e])
  have h2 := ib_in (a := a) (r := r) (c := c) (fun e => h (List.mem_cons_of_mem _ e))
  rw [List.cons_append, Lib.indexByte, h1, h2]
  have h3 : ((a.length : Int) == -1) = false := by
   rw [beq_eq_false_iff_ne]; omega
  simp [h3]
theorem ib_out : ∀ {a : List UInt8} {c : UInt8}, c ∉ a → Lib.indexByte a c = -1
 | [], c, _ => rfl
 | b :: a, c, h => by
  have h1 : (b == c) = false := by
   simpa using fun e => h (by simp [e])
  rw [Lib.indexByte, h1, ib_out (a := a) (fun e => h (List.mem_cons_of_mem _ e))]
  simp
theorem first_at : ∀ {l : List UInt8} {c : UInt8}, c ∈ l → ∃ a r, c ∉ a ∧ l = a ++ c :: r
 | [], c, h => by cases h
 | b :: l, c, h => by
  by_cases hb : c = b
  ·exact ⟨[], l, by simp, by simp [hb]⟩
  ·obtain ⟨a, r, h1, h2⟩ := first_at (l := l) (c := c) (by simpa [hb] using h)
   exact ⟨b :: a, r, by simp [hb, h1], by simp [h2]⟩
-- names
-- joined
def joinB (l : List Bs) : List UInt8 := Lib.join (l.map fun b => bsL (preB b)) [47]
end Go.Proofs.YtgipehooceecpaaGreatDoorAbs
namespace Go.Proofs.YtgipehooceecpaaGreatDoorAbs
open Go Go.RowKit
section
variable {P : Program} [Gl P] {N : Nat} {K : Exit → KS} {s : Sl} {G : Hp} {nx : Nat}
theorem aw_un {a b c : Code} (h : AW P N (.seq (.seq a b) c) K s G nx) : AW P N (.seq a (.seq b c)) K s G nx := by
 have e : AW P N (.seq (.seq a b) c) K = AW P N (.seq a (.seq b c)) K := by
  show AW P N a _ = AW P N a _
  congr 1
  funext e
  cases e <;> rfl
 rw [← e]; exact h
theorem aops_app {ops : Array Oper} {d : Bool} {K : KS} : ∀ (a b : List Oper), AOps P N ops d (a ++ b) K = AOps P N ops d a (AOps P N ops d b K)
 | [], b => rfl
 | o :: a, b => by
  show AStep P N ops d o (AOps P N ops d (a ++ b) K) = AStep P N ops d o (AOps P N ops d a (AOps P N ops d b K))
  rw [aops_app a b]
theorem aops_part {ops : Array Oper} {d : Bool} {K : KS} {os : List Oper} (j : Nat) (h : ∀ K2 : KS, (∀ s G nx, AOps P N ops d (os.drop j) K s G nx → K2 s G nx) → AOps P N ops d (os.take j) K2 s G nx) : AOps P N ops d os K s G nx := by
 have := h _ fun _ _ _ h => h
 rw [← aops_app, List.take_append_drop] at this
 exact this
end
end Go.Proofs.YtgipehooceecpaaGreatDoorAbs
namespace Go.Proofs.YtgipehooceecpaaGreatDoorAbs
set_option linter.unusedSimpArgs false
set_option linter.unusedVariables false
open Go Go.RowKit Go.Proofs
set_option maxRecDepth 100000
set_option maxHeartbeats 1000000
theorem c34 : Tryz.prog.cellsOf 58 = 6 := by kernel_rfl
theorem frz_new {G : Hp} {r n : Nat} {t : List Pl} (hG : G r = some (.row 58 (flat Pl.cells t))) (hne : t ≠ []) : frzOf G (.row r n) = G.upd r (.frz 58 (flat Pl.cells t)) := by
 cases t with
 | nil => exact absurd rfl hne
 | cons p t => rw [frzOf_row, hG]; rfl
theorem frz_old {G : Hp} {r n : Nat} {e : Nat} {cs : List AV} (hG : G r = some (.frz e cs)) : frzOf G (.row r n) = G := by
 rw [frzOf_row, hG]
theorem filter_both {α : Type} (p : α → Bool) : ∀ l : List α, (l.filter p).length + (l.filter fun x => !p x).length = l.length
 | [] => rfl
 | a :: l => by
  have := filter_both p l
  cases h : p a <;> simp [h] <;> omega
theorem below_kept {t : List Pl} {i : Nat} (g : Good t) (hi : i < t.length) : (belowL t i).length + rkN t i t.length = t.length := by
 have hh : holdsF t i = true := holds_iff.2 ⟨g, by omega, by omega⟩
 rw [belowL, hh, if_pos rfl, Int.toNat_natCast]
 unfold belowK rkN keptN
 rw [List.length_map]
 have e : (List.range t.length).filter (fun j => decide (i ≤ j) && underF t j i) = (List.range t.length).filter (fun j => underF t j i) := by
  refine List.filter_congr fun j hj => ?_
  have hj := List.mem_range.1 hj
  cases hu : underF t j i with
  | false => simp
  | true => have := under_ge g hj hu; simp; omega
 rw [e]
 have := filter_both (fun j => underF t j i) (List.range t.length)
 rw [List.length_range] at this
 exact this
theorem below_mem {t : List Pl} {i k : Nat} (g : Good t) (hi : i < t.length) (hk : k < t.length) : (belowL t i).any (fun x => decide (x = (k : Int))) = underF t k i := by
 have hh : holdsF t i = true := holds_iff.2 ⟨g, by omega, by omega⟩
 rw [belowL, hh, if_pos rfl, Int.toNat_natCast]
 unfold belowK
 rw [Bool.eq_iff_iff, List.any_eq_true]
 constructor
 ·rintro ⟨x, hx, h⟩
  obtain ⟨j, hj, rfl⟩ := List.mem_map.1 hx
  have h := of_decide_eq_true h
  have : j = k := by omega
  subst this
  have := (List.mem_filter.1 hj).2
  simp at this
  exact this.2
 ·intro hu
  have := under_ge g hk hu
  exact ⟨k, List.mem_map.2 ⟨k, List.mem_filter.2 ⟨List.mem_range.2 hk, by simp [hu]; omega⟩, rfl⟩, by simp⟩
end Go.Proofs.YtgipehooceecpaaGreatDoorAbs
namespace Go.Proofs.YtgipehooceecpaaGreatDoorAbs
set_option linter.unusedSimpArgs false
set_option linter.unusedVariables false
open Go Go.RowKit Go.Proofs
set_option maxRecDepth 100000
set_option maxHeartbeats 1000000
theorem u8_of {c : UInt8} {n : Nat} (h : (c.toNat : Int) = n) (hn : n < 256) : c = UInt8.ofNat n := by
 apply UInt8.toNat_inj.1
 rw [UInt8.toNat_ofNat_of_lt' (by simpa using hn)]
 omega
theorem bsL_ext (s : Bs) (a b : Nat) : bsL (s.extract a b) = ((bsL s).take b).drop a := by
 rw [← toL_bsL, Lib.extract_toList, List.drop_take]
 rfl
end Go.Proofs.YtgipehooceecpaaGreatDoorAbs
namespace Go.Proofs.YtgipehooceecpaaGreatDoorAbs
set_option linter.unusedSimpArgs false
set_option linter.unusedVariables false
open Go Go.RowKit Go.Proofs
set_option maxRecDepth 100000
set_option maxHeartbeats 1000000
theorem may57_ok (n : Int) : CallsOK Tryz.prog 152 [iV n] (bV (inR n)) [] := by
 refine callsOK mixed Tryz.call152 Tryz.func152 rfl (by rw [Tryz.ntmps152]; simp) ?_ rfl
 rw [Tryz.ntmps152]
 with_reducible refine aR fun K' hK => ?_
 simp []
 refine hK _ _ _ ?_
 clear K' hK
 by_cases h : 0 ≤ n
 ·skip
  with_reducible refine aR fun K' hK => ?_
  simp [h]
  refine hK _ _ _ ?_
  clear K' hK
  first | with_reducible refine aw_ret ?_ | with_reducible refine aw_retL ?_ | with_reducible refine aw_skipL ?_
  simp [blockK, loopK, Post, resA, res1, expT, expA, exp1, expM, expL, okT, okA, ok1, rowOf, Tryz.f152]
  simp [inR, h]
 ·skip
  with_reducible refine aR fun K' hK => ?_
  simp [h]
  refine hK _ _ _ ?_
  clear K' hK
  first | with_reducible refine aw_ret ?_ | with_reducible refine aw_retL ?_ | with_reducible refine aw_skipL ?_
  simp [blockK, loopK, Post, resA, res1, expT, expA, exp1, expM, expL, okT, okA, ok1, rowOf, Tryz.f152]
  simp [inR, h]
def digB (c : UInt8) : Bool := decide ((48 : Int) ≤ (c.toNat : Int)) && decide ((c.toNat : Int) ≤ 57)
theorem dig_all : ∀ i : _root_.Fin 256, digs.contains (UInt8.ofNat i) = digB (UInt8.ofNat i) := by decide +kernel
theorem dig_eq (c : UInt8) : digs.contains c = digB c := by
 have := dig_all ⟨c.toNat, c.toNat_lt⟩
 simpa using this
theorem dropW_nil {α : Type} {p : α → Bool} : ∀ {l : List α}, l.dropWhile p = [] ↔ l.all p = true
 | [] => by simp
 | a :: l => by
  rw [List.dropWhile_cons, List.all_cons]
  cases h : p a with
  | true => simp [dropW_nil (p := p) (l := l)]
  | false => simp
theorem dropW_all {α : Type} {p : α → Bool} : ∀ {l : List α}, (l.dropWhile p).all p = true → l.all p = true
 | [], _ => rfl
 | a :: l, h => by
  rw [List.dropWhile_cons] at h
  rw [List.all_cons]
  cases hp : p a with
  | true =>
   rw [hp, if_pos rfl] at h
   rw [dropW_all h]; rfl
  | false => rw [hp, if_neg (by simp), List.all_cons, hp] at h; simp at h
theorem trim_nil (l : List UInt8) : Lib.trimS l digs = [] ↔ l.all digB = true := by
 have e : (fun c => digs.contains c) = digB := funext dig_eq
 unfold Lib.trimS Lib.trimLeftS Lib.trimRightS
 rw [e, dropW_nil, List.all_reverse]
 constructor
 ·intro h
  have := dropW_all h
  rwa [List.all_reverse] at this
 ·intro h
  have h2 : l.reverse.dropWhile digB = [] := dropW_nil.2 (by rw [List.all_reverse]; exact h)
  rw [h2]; rfl
theorem numP_eq (l : List UInt8) : numP l = (l.all digB && !decide (l = [])) := by
 unfold numP
 rw [Bool.eq_iff_iff]
 simp only [Bool.and_eq_true, decide_eq_true_eq, trim_nil]
 exact ⟨fun ⟨a, b⟩ => ⟨b, a⟩, fun ⟨a, b⟩ => ⟨b, a⟩⟩
theorem all_at {l : List UInt8} {p : UInt8 → Bool} (h : ∀ i, i < l.length → p (by8 l i) = true) : l.all p = true := by
 rw [List.all_eq_true]
 intro x hx
 obtain ⟨i, hi, rfl⟩ := List.mem_iff_getElem.1 hx
 rw [← by8_get hi]; exact h i hi
theorem not_all {l : List UInt8} {p : UInt8 → Bool} {i : Nat} (hi : i < l.length) (h : p (by8 l i) = false) : l.all p = false := by
 rw [List.all_eq_false]
 exact ⟨by8 l i, by rw [by8_get hi]; exact List.getElem_mem hi, by simp [h]⟩
theorem digits70_ok (s : Bs) (hs : s.size ≤ 4611686018427387904) : CallsOK Tryz.prog 190 [sV s] (bV (numP (bsL s))) [] := by
 refine callsOK mixed Tryz.call190 Tryz.func190 rfl (by rw [Tryz.ntmps190]; simp) ?_ rfl
 rw [Tryz.ntmps190, numP_eq]
 have hl : (bsL s).length = s.size := bsL_len s
 with_reducible refine aR fun K' hK => ?_
 simp []
 refine hK _ _ _ ?_
 clear K' hK
 with_reducible refine aA ?_
 with_reducible refine aR fun K' hK => ?_
 simp []
 refine hK _ _ _ ?_
 clear K' hK
 with_reducible refine aw_block ?_
 refine aw_loop (fun t G nx => t 0 = sV s ∧ ∃ i : Nat, t 3 = iV i ∧ i ≤ s.size ∧ ∀ j, j < i → digB (by8 (bsL s) j) = true) (fun s' _ _ => match s' 3 with | .v (.int _ n) => s.size - n.toNat | _ => 0) ?_ ?_
 ·exact ⟨by simp, 0, by simp, by omega, fun j hj => by omega⟩
 ·rintro t G nx - ⟨t0, i, t3, hi, hn⟩
  have hw : IntKind.i64.wrap (↑i + 1) = ((i + 1 : Nat) : Int) := wrapS (by omega)
  with_reducible refine aA ?_
  with_reducible refine aR fun K' hK => ?_
  simp [t0, t3]
  refine hK _ _ _ ?_
  clear K' hK
  with_reducible refine aC fun A B hA hB => ?_
  simp []
  refine ⟨fun hi2 => hA ?_, fun hi2 => hB ?_⟩ <;> clear hA hB A B <;> (try simp at hi2) <;> (try with_reducible refine aK ?_)
  ·skip
   with_reducible refine aw_block ?_
   have hcc : byteA s i = by8 (bsL s) i := rfl
   generalize hc : by8 (bsL s) i = c at hcc
   by_cases a1 : (c.toNat : Int) < 48
   ·skip
    with_reducible refine aR fun K' hK => ?_
    simp [t0, t3, hi2, hcc, a1]
    refine hK _ _ _ ?_
    clear K' hK
    with_reducible refine aD fun A B hA hB => ?_
    simp []
    refine ⟨fun hc => hA ?_, fun hc => hB ?_⟩ <;> clear hA hB A B <;> (try (simp at hc; done)) <;> (try (exfalso; simp at hc; omega)) <;> clear hc <;> (try with_reducible refine aK ?_)
    with_reducible refine aA ?_
    with_reducible refine aR fun K' hK => ?_
    simp []
    refine hK _ _ _ ?_
    clear K' hK
    first | with_reducible refine aw_ret ?_ | with_reducible refine aw_retL ?_ | with_reducible refine aw_skipL ?_
    simp [blockK, loopK, Post, resA, res1, expT, expA, exp1, expM, expL, okT, okA, ok1, rowOf, Tryz.f190]
    intro h
    have h := List.all_eq_true.2 h
    rw [not_all (p := digB) (i := i) (by omega) (by rw [hc]; simp [digB]; omega)] at h
    cases h
   ·by_cases a2 : (57 : Int) < c.toNat
    ·skip
     with_reducible refine aR fun K' hK => ?_
     simp [t0, t3, hi2, hcc, a1, a2]
     refine hK _ _ _ ?_
     clear K' hK
     with_reducible refine aD fun A B hA hB => ?_
     simp []
     refine ⟨fun hc => hA ?_, fun hc => hB ?_⟩ <;> clear hA hB A B <;> (try (simp at hc; done)) <;> (try (exfalso; simp at hc; omega)) <;> clear hc <;> (try with_reducible refine aK ?_)
     with_reducible refine aA ?_
     with_reducible refine aR fun K' hK => ?_
     simp []
     refine hK _ _ _ ?_
     clear K' hK
     first | with_reducible refine aw_ret ?_ | with_reducible refine aw_retL ?_ | with_reducible refine aw_skipL ?_
     simp [blockK, loopK, Post, resA, res1, expT, expA, exp1, expM, expL, okT, okA, ok1, rowOf, Tryz.f190]
     intro h
     have h := List.all_eq_true.2 h
     rw [not_all (p := digB) (i := i) (by omega) (by rw [hc]; simp [digB]; omega)] at h
     cases h
    ·skip
     with_reducible refine aR fun K' hK => ?_
     simp [t0, t3, hi2, hcc, a1, a2]
     refine hK _ _ _ ?_
     clear K' hK
     with_reducible refine aD fun A B hA hB => ?_
     simp []
     refine ⟨fun hc => hA ?_, fun hc => hB ?_⟩ <;> clear hA hB A B <;> (try (simp at hc; done)) <;> (try (exfalso; simp at hc; omega)) <;> clear hc <;> (try with_reducible refine aK ?_)
     with_reducible refine aw_skipL ?_
     refine blockK_normal ?_
     with_reducible refine aS fun K' hK => ?_
     simp [t3, hw]
     refine hK _ _ _ ?_
     clear K' hK
     refine aw_skipL (loopK_normal ?_ ?_)
     ·refine ⟨by simp [t0], i + 1, by simp [hw], by omega, fun j hj => ?_⟩
      rcases Nat.lt_or_ge j i with h | h
      ·exact hn j h
      ·have : j = i := by omega
       subst this
       rw [hc]
       simp [digB]; omega
     ·simp [t3, hw]; omega
  ·skip
   with_reducible refine aw_exit ?_
   refine loopK_exit (blockK_exit ?_)
   with_reducible refine aR fun K' hK => ?_
   simp [t0]
   refine hK _ _ _ ?_
   clear K' hK
   first | with_reducible refine aw_ret ?_ | with_reducible refine aw_retL ?_ | with_reducible refine aw_skipL ?_
   simp [blockK, loopK, Post, resA, res1, expT, expA, exp1, expM, expL, okT, okA, ok1, rowOf, Tryz.f190]
   have hall := all_at (p := digB) (l := bsL s) (fun j hj => hn j (by omega))
   rw [hall]
   simp [empty_iff]
theorem wrapU8 {n : Int} (h0 : 0 ≤ n) (h1 : n < 256) : IntKind.u8.wrap n = n := by
 simp [IntKind.wrap, IntKind.signed, IntKind.bits]
 omega
def numV (l : List UInt8) : Int := l.foldl (fun n c => 10 * n + ((c.toNat : Int) - 48)) 0
def numR (l : List UInt8) : Int := if numOk l then numV l else -1
theorem numV_snoc {l : List UInt8} {i : Nat} (h : i < l.length) : numV (l.take (i + 1)) = 10 * numV (l.take i) + ((by8 l i).toNat - 48) := by
 unfold numV
 rw [List.take_add_one, List.getElem?_eq_getElem h, List.foldl_append, by8_get h]; rfl
theorem numV_nn {l : List UInt8} (h : l.all digB = true) : ∀ i, i ≤ l.length → 0 ≤ numV (l.take i) ∧ numV (l.take i) ≤ 10 ^ i - 1
 | 0, _ => by simp [numV]
 | i + 1, hi => by
  have ih := numV_nn h i (by omega)
  have hd : digB (by8 l i) = true := by rw [by8_get (by omega)]; exact List.all_eq_true.1 h _ (List.getElem_mem _)
  simp [digB] at hd
  rw [numV_snoc (by omega), Int.pow_succ]
  omega
theorem numR_nn {l : List UInt8} : decide (0 ≤ numR l) = numOk l := by
 unfold numR
 cases h : numOk l with
 | false => rfl
 | true =>
  have hp : numP l = true := by
   unfold numOk at h
   rw [Bool.and_eq_true] at h
   exact h.1
  rw [numP_eq, Bool.and_eq_true] at hp
  have := (numV_nn hp.1 l.length (Nat.le_refl _)).1
  rw [List.take_length] at this
  simpa using this
theorem number71_ok (s : Bs) (hs : s.size ≤ 4611686018427387904) : CallsOK Tryz.prog 191 [sV s] (iV (numR (bsL s))) [] := by
 refine callsOK mixed Tryz.call191 Tryz.func191 rfl (by rw [Tryz.ntmps191]; simp) ?_ rfl
 rw [Tryz.ntmps191]
 have hl : (bsL s).length = s.size := bsL_len s
 have hbad : numOk (bsL s) = false → numR (bsL s) = -1 := fun h => by rw [numR, h]; rfl
 with_reducible refine aR fun K' hK => ?_
 simp []
 refine hK _ _ _ ?_
 clear K' hK
 with_reducible refine aA ?_
 refine aw_cut (fun u G nx => u 0 = sV s ∧ u 22 = bV (!numOk (bsL s))) ?_ ?_
 ·skip
  with_reducible refine aS fun K' hK => ?_
  simp []
  refine acall_flat (digits70_ok s hs) rfl (by first | rfl | (simp []; done) | (simp []; rfl) | (simp []; exact ⟨rfl, rfl⟩)) ?_
  cases hp : numP (bsL s) with
  | false =>
   simp
   refine hK _ _ _ ?_
   clear K' hK
   with_reducible refine aw_end ?_
   simp [numOk, hp]
  | true =>
   have hpe := hp
   rw [numP_eq, Bool.and_eq_true] at hpe
   have hne : bsL s ≠ [] := by simpa using hpe.2
   have hpos : 0 < s.size := by have := List.length_pos_iff.2 hne; omega
   have hcc : byteA s 0 = by8 (bsL s) 0 := rfl
   generalize hc : by8 (bsL s) 0 = c at hcc
   by_cases h6 : (6 : Int) < s.size
   ·simp [h6]
    refine hK _ _ _ ?_
    clear K' hK
    with_reducible refine aw_end ?_
    simp [numOk]
    exact .inr (.inl (by omega))
   ·have h6' : (bsL s).length ≤ 6 := by omega
    by_cases z1 : (c.toNat : Int) = 48
    ·have hc48 : c = 48 := u8_of (n := 48) z1 (by decide)
     by_cases z2 : (1 : Int) < s.size
     ·simp [h6, hpos, hcc, z1, z2]
      refine hK _ _ _ ?_
      clear K' hK
      with_reducible refine aw_end ?_
      have : ¬ bsL s = [48] := fun h => by rw [h] at hl; simp at hl; omega
      simp [numOk, hc, hc48, this]
     ·simp [h6, hpos, hcc, z1, z2]
      refine hK _ _ _ ?_
      clear K' hK
      with_reducible refine aw_end ?_
      have h1 : (bsL s).length = 1 := by omega
      obtain ⟨x, hx⟩ := List.length_eq_one_iff.1 h1
      have : bsL s = [48] := by
       rw [hx] at hc ⊢
       have : x = c := hc
       rw [this, hc48]
      simp [numOk, hp, this]
      rw [this] at hp
      exact hp
    ·have z1' : ¬ c = 48 := fun h => z1 (by rw [h]; rfl)
     simp [h6, hpos, hcc, z1]
     refine hK _ _ _ ?_
     clear K' hK
     with_reducible refine aw_end ?_
     simp [numOk, hp, hc, z1', h6']
 rintro u G nx ⟨u0, u22⟩
 cases hok : numOk (bsL s) with
 | false =>
  rw [hok] at u22
  with_reducible refine aC fun A B hA hB => ?_
  simp [u22]
  refine ⟨fun hc => hA ?_, fun hc => hB ?_⟩ <;> clear hA hB A B <;> (try (simp at hc; done)) <;> (try (exfalso; simp at hc; omega)) <;> clear hc <;> (try with_reducible refine aK ?_)
  with_reducible refine aA ?_
  with_reducible refine aR fun K' hK => ?_
  simp []
  refine hK _ _ _ ?_
  clear K' hK
  first | with_reducible refine aw_ret ?_ | with_reducible refine aw_retL ?_ | with_reducible refine aw_skipL ?_
  simp [blockK, loopK, Post, resA, res1, expT, expA, exp1, expM, expL, okT, okA, ok1, rowOf, Tryz.f191]
  exact (hbad hok).symm
 | true =>
  rw [hok] at u22
  have hok2 := hok
  unfold numOk at hok2
  rw [Bool.and_eq_true, Bool.and_eq_true] at hok2
  obtain ⟨hp, h6, _⟩ := hok2
  have h6 : (bsL s).length ≤ 6 := of_decide_eq_true h6
  rw [numP_eq, Bool.and_eq_true] at hp
  have hfin : numR (bsL s) = numV (bsL s) := by rw [numR, hok]; rfl
  rw [hfin]
  with_reducible refine aC fun A B hA hB => ?_
  simp [u22]
  refine ⟨fun hc => hA ?_, fun hc => hB ?_⟩ <;> clear hA hB A B <;> (try (simp at hc; done)) <;> (try (exfalso; simp at hc; omega)) <;> clear hc <;> (try with_reducible refine aK ?_)
  with_reducible refine aR fun K' hK => ?_
  simp []
  refine hK _ _ _ ?_
  clear K' hK
  with_reducible refine aA ?_
  with_reducible refine aR fun K' hK => ?_
  simp []
  refine hK _ _ _ ?_
  clear K' hK
  with_reducible refine aw_block ?_
  refine aw_loop (fun t G nx => t 0 = sV s ∧ ∃ i : Nat, t 4 = iV i ∧ i ≤ s.size ∧ t 3 = iV (numV ((bsL s).take i))) (fun s' _ _ => match s' 4 with | .v (.int _ n) => s.size - n.toNat | _ => 0) ?_ ?_
  ·exact ⟨by simp [u0], 0, by simp, by omega, by simp [numV]⟩
  ·rintro t G nx - ⟨t0, i, t4, hi, t3⟩
   have hw : IntKind.i64.wrap (↑i + 1) = ((i + 1 : Nat) : Int) := wrapS (by omega)
   with_reducible refine aA ?_
   with_reducible refine aR fun K' hK => ?_
   simp [t0, t4]
   refine hK _ _ _ ?_
   clear K' hK
   with_reducible refine aC fun A B hA hB => ?_
   simp []
   refine ⟨fun hi2 => hA ?_, fun hi2 => hB ?_⟩ <;> clear hA hB A B <;> (try simp at hi2) <;> (try with_reducible refine aK ?_)
   ·have hcc : byteA s i = by8 (bsL s) i := rfl
    have hst := numV_snoc (l := bsL s) (i := i) (by omega)
    have hnn := numV_nn hp.1 i (by omega)
    have hpw : (10 : Int) ^ i ≤ 10 ^ 6 := by
     have : (10 : Nat) ^ i ≤ 10 ^ 6 := Nat.pow_le_pow_right (by decide) (by omega)
     exact_mod_cast this
    have hpw6 : (10 : Int) ^ 6 = 1000000 := by decide
    have hd : digB (by8 (bsL s) i) = true := by rw [by8_get (by omega)]; exact List.all_eq_true.1 hp.1 _ (List.getElem_mem _)
    generalize hc : by8 (bsL s) i = c at hcc hst hd
    generalize numV ((bsL s).take i) = v at hst hnn t3
    simp [digB] at hd
    have w1 : IntKind.u8.wrap ((c.toNat : Int) - 48) = (c.toNat : Int) - 48 := wrapU8 (by omega) (by omega)
    have w2 : IntKind.i64.wrap ((c.toNat : Int) - 48) = (c.toNat : Int) - 48 := wrap64 (by omega) (by omega)
    have w3 : IntKind.i64.wrap (10 * v) = 10 * v := wrap64 (by omega) (by omega)
    have w4 : IntKind.i64.wrap (10 * v + ((c.toNat : Int) - 48)) = 10 * v + ((c.toNat : Int) - 48) := wrap64 (by omega) (by omega)
    with_reducible refine aw_block ?_
    with_reducible refine aS fun K' hK => ?_
    simp [t0, t3, t4, hi2, hcc, w1, w2, w3, w4]
    refine hK _ _ _ ?_
    clear K' hK
    with_reducible refine aw_skipL ?_
    refine blockK_normal ?_
    with_reducible refine aS fun K' hK => ?_
    simp [t4, hw]
    refine hK _ _ _ ?_
    clear K' hK
    refine aw_skipL (loopK_normal ?_ ?_)
    ·exact ⟨by simp [t0], i + 1, by simp [hw], by omega, by rw [hst]; simp [w1, w2, w3, w4]⟩
    ·simp [t4, hw]; omega
   ·skip
    with_reducible refine aw_exit ?_
    refine loopK_exit (blockK_exit ?_)
    have : i = (bsL s).length := by omega
    subst this
    rw [List.take_length] at t3
    with_reducible refine aR fun K' hK => ?_
    simp [t3]
    refine hK _ _ _ ?_
    clear K' hK
    first | with_reducible refine aw_ret ?_ | with_reducible refine aw_retL ?_ | with_reducible refine aw_skipL ?_
    simp [blockK, loopK, Post, resA, res1, expT, expA, exp1, expM, expL, okT, okA, ok1, rowOf, Tryz.f191]
theorem part_all : ∀ i : _root_.Fin 256, partB (UInt8.ofNat i) = !((decide (((UInt8.ofNat i).toNat : Int) < 97) || decide ((122 : Int) < ((UInt8.ofNat i).toNat : Int))) && ((decide (((UInt8.ofNat i).toNat : Int) < 65) || decide ((90 : Int) < ((UInt8.ofNat i).toNat : Int))) && ((decide (((UInt8.ofNat i).toNat : Int) < 48) || decide ((57 : Int) < ((UInt8.ofNat i).toNat : Int))) && !decide (((UInt8.ofNat i).toNat : Int) = 45)))) := by decide +kernel
theorem part_tab (c : UInt8) : partB c = !((decide ((c.toNat : Int) < 97) || decide ((122 : Int) < (c.toNat : Int))) && ((decide ((c.toNat : Int) < 65) || decide ((90 : Int) < (c.toNat : Int))) && ((decide ((c.toNat : Int) < 48) || decide ((57 : Int) < (c.toNat : Int))) && !decide ((c.toNat : Int) = 45)))) := by
 have := part_all ⟨c.toNat, c.toNat_lt⟩
 rwa [UInt8.ofNat_toNat] at this
theorem num_le {l : List UInt8} : (numP l == numOk l) = (!numP l || numOk l) := by
 cases h : numOk l with
 | false => simp
 | true =>
  have hp : numP l = true := by
   unfold numOk at h
   rw [Bool.and_eq_true] at h
   exact h.1
  simp [hp]
theorem part59_ok (s : Bs) (hs : s.size ≤ 4611686018427387904) : CallsOK Tryz.prog 154 [sV s] (bV (partF (bsL s))) [] := by
 refine callsOK mixed Tryz.call154 Tryz.func154 rfl (by rw [Tryz.ntmps154]; simp) ?_ rfl
 rw [Tryz.ntmps154]
 have hl : (bsL s).length = s.size := bsL_len s
 with_reducible refine aR fun K' hK => ?_
 simp []
 refine hK _ _ _ ?_
 clear K' hK
 by_cases h1 : (s.size : Int) < 1
 ·with_reducible refine aA ?_
  with_reducible refine aR fun K' hK => ?_
  simp [h1]
  refine hK _ _ _ ?_
  clear K' hK
  with_reducible refine aC fun A B hA hB => ?_
  simp []
  refine ⟨fun hc => hA ?_, fun hc => hB ?_⟩ <;> clear hA hB A B <;> (try (simp at hc; done)) <;> (try (exfalso; simp at hc; omega)) <;> clear hc <;> (try with_reducible refine aK ?_)
  with_reducible refine aA ?_
  with_reducible refine aR fun K' hK => ?_
  simp []
  refine hK _ _ _ ?_
  clear K' hK
  first | with_reducible refine aw_ret ?_ | with_reducible refine aw_retL ?_ | with_reducible refine aw_skipL ?_
  simp [blockK, loopK, Post, resA, res1, expT, expA, exp1, expM, expL, okT, okA, ok1, rowOf, Tryz.f154]
  have : bsL s = [] := List.eq_nil_of_length_eq_zero (by omega)
  simp [partF, this]
 by_cases h10 : (10 : Int) < s.size
 ·with_reducible refine aA ?_
  with_reducible refine aR fun K' hK => ?_
  simp [h1, h10]
  refine hK _ _ _ ?_
  clear K' hK
  with_reducible refine aC fun A B hA hB => ?_
  simp []
  refine ⟨fun hc => hA ?_, fun hc => hB ?_⟩ <;> clear hA hB A B <;> (try (simp at hc; done)) <;> (try (exfalso; simp at hc; omega)) <;> clear hc <;> (try with_reducible refine aK ?_)
  with_reducible refine aA ?_
  with_reducible refine aR fun K' hK => ?_
  simp []
  refine hK _ _ _ ?_
  clear K' hK
  first | with_reducible refine aw_ret ?_ | with_reducible refine aw_retL ?_ | with_reducible refine aw_skipL ?_
  simp [blockK, loopK, Post, resA, res1, expT, expA, exp1, expM, expL, okT, okA, ok1, rowOf, Tryz.f154]
  have : ¬ (bsL s).length ≤ 10 := by omega
  simp [partF, this]
 have hne : ¬ bsL s = [] := fun h => by rw [h] at hl; simp at hl; omega
 have hle : (bsL s).length ≤ 10 := by omega
 with_reducible refine aA ?_
 with_reducible refine aR fun K' hK => ?_
 simp [h1, h10]
 refine hK _ _ _ ?_
 clear K' hK
 with_reducible refine aC fun A B hA hB => ?_
 simp []
 refine ⟨fun hc => hA ?_, fun hc => hB ?_⟩ <;> clear hA hB A B <;> (try (simp at hc; done)) <;> (try (exfalso; simp at hc; omega)) <;> clear hc <;> (try with_reducible refine aK ?_)
 with_reducible refine aA ?_
 with_reducible refine aR fun K' hK => ?_
 simp []
 refine hK _ _ _ ?_
 clear K' hK
 with_reducible refine aw_block ?_
 refine aw_loop (fun t G nx => t 0 = sV s ∧ ∃ i : Nat, t 3 = iV i ∧ i ≤ s.size ∧ (List.range i).all (fun i => partB (by8 (bsL s) i)) = true) (fun s' _ _ => match s' 3 with | .v (.int _ n) => s.size - n.toNat | _ => 0) ?_ ?_
 ·exact ⟨by simp, 0, by simp, by omega, by simp⟩
 ·rintro t G nx - ⟨t0, i, t3, hi, ht⟩
  have hw : IntKind.i64.wrap (↑i + 1) = ((i + 1 : Nat) : Int) := wrapS (by omega)
  with_reducible refine aA ?_
  with_reducible refine aR fun K' hK => ?_
  simp [t0, t3]
  refine hK _ _ _ ?_
  clear K' hK
  with_reducible refine aC fun A B hA hB => ?_
  simp []
  refine ⟨fun hi2 => hA ?_, fun hi2 => hB ?_⟩ <;> clear hA hB A B <;> (try simp at hi2) <;> (try with_reducible refine aK ?_)
  ·skip
   with_reducible refine aw_block ?_
   have hcc : byteA s i = by8 (bsL s) i := rfl
   generalize hc : by8 (bsL s) i = c at hcc
   with_reducible refine aR fun K' hK => ?_
   simp [t0, t3, hi2, hcc]
   refine hK _ _ _ ?_
   clear K' hK
   refine aw_cut (fun t' G' nx' => t' 0 = sV s ∧ t' 3 = iV i ∧ t' 47 = bV (!partB c)) ?_ ?_
   ·by_cases a1 : (c.toNat : Int) < 97
    ·by_cases a3 : (c.toNat : Int) < 65
     ·by_cases a5 : (c.toNat : Int) < 48
      ·by_cases a7 : (c.toNat : Int) = 45
       ·skip
        with_reducible refine aS fun K' hK => ?_
        simp [a1, a3, a5, a7]
        refine hK _ _ _ ?_
        clear K' hK
        with_reducible refine aw_end ?_
        simp [t0, t3, part_tab, a1, a3, a5, a7]
       ·skip
        with_reducible refine aS fun K' hK => ?_
        simp [a1, a3, a5, a7]
        refine hK _ _ _ ?_
        clear K' hK
        with_reducible refine aw_end ?_
        simp [t0, t3, part_tab, a1, a3, a5, a7]
      ·by_cases a6 : (57 : Int) < c.toNat
       ·have a7 : ¬ (c.toNat : Int) = 45 := by omega
        with_reducible refine aS fun K' hK => ?_
        simp [a1, a3, a5, a6, a7]
        refine hK _ _ _ ?_
        clear K' hK
        with_reducible refine aw_end ?_
        simp [t0, t3, part_tab, a1, a3, a5, a6, a7]
       ·skip
        with_reducible refine aS fun K' hK => ?_
        simp [a1, a3, a5, a6]
        refine hK _ _ _ ?_
        clear K' hK
        with_reducible refine aw_end ?_
        simp [t0, t3, part_tab, a1, a3, a5, a6]
     ·by_cases a4 : (90 : Int) < c.toNat
      ·have a5 : ¬ (c.toNat : Int) < 48 := by omega
       have a6 : (57 : Int) < c.toNat := by omega
       have a7 : ¬ (c.toNat : Int) = 45 := by omega
       with_reducible refine aS fun K' hK => ?_
       simp [a1, a3, a4, a5, a6, a7]
       refine hK _ _ _ ?_
       clear K' hK
       with_reducible refine aw_end ?_
       simp [t0, t3, part_tab, a1, a3, a4, a5, a6, a7]
      ·skip
       with_reducible refine aS fun K' hK => ?_
       simp [a1, a3, a4]
       refine hK _ _ _ ?_
       clear K' hK
       with_reducible refine aw_end ?_
       simp [t0, t3, part_tab, a1, a3, a4]
    ·by_cases a2 : (122 : Int) < c.toNat
     ·have a3 : ¬ (c.toNat : Int) < 65 := by omega
      have a4 : (90 : Int) < c.toNat := by omega
      have a5 : ¬ (c.toNat : Int) < 48 := by omega
      have a6 : (57 : Int) < c.toNat := by omega
      have a7 : ¬ (c.toNat : Int) = 45 := by omega
      with_reducible refine aS fun K' hK => ?_
      simp [a1, a2, a3, a4, a5, a6, a7]
      refine hK _ _ _ ?_
      clear K' hK
      with_reducible refine aw_end ?_
      simp [t0, t3, part_tab, a1, a2, a3, a4, a5, a6, a7]
     ·skip
      with_reducible refine aS fun K' hK => ?_
      simp [a1, a2]
      refine hK _ _ _ ?_
      clear K' hK
      with_reducible refine aw_end ?_
      simp [t0, t3, part_tab, a1, a2]
   rintro u G' nx' ⟨u0, u3, u47⟩
   cases hp : partB c with
   | true =>
    rw [hp] at u47
    with_reducible refine aD fun A B hA hB => ?_
    simp [u47]
    refine ⟨fun hc => hA ?_, fun hc => hB ?_⟩ <;> clear hA hB A B <;> (try (simp at hc; done)) <;> (try (exfalso; simp at hc; omega)) <;> clear hc <;> (try with_reducible refine aK ?_)
    with_reducible refine aw_skipL ?_
    refine blockK_normal ?_
    with_reducible refine aS fun K' hK => ?_
    simp [u3, hw]
    refine hK _ _ _ ?_
    clear K' hK
    refine aw_skipL (loopK_normal ?_ ?_)
    ·exact ⟨by simp [u0], i + 1, by simp [hw], by omega, by rw [range_all, ht, hc, hp]; rfl⟩
    ·simp [t3, hw]; omega
   | false =>
    rw [hp] at u47
    with_reducible refine aD fun A B hA hB => ?_
    simp [u47]
    refine ⟨fun hc => hA ?_, fun hc => hB ?_⟩ <;> clear hA hB A B <;> (try (simp at hc; done)) <;> (try (exfalso; simp at hc; omega)) <;> clear hc <;> (try with_reducible refine aK ?_)
    with_reducible refine aA ?_
    with_reducible refine aR fun K' hK => ?_
    simp []
    refine hK _ _ _ ?_
    clear K' hK
    first | with_reducible refine aw_ret ?_ | with_reducible refine aw_retL ?_ | with_reducible refine aw_skipL ?_
    simp [blockK, loopK, Post, resA, res1, expT, expA, exp1, expM, expL, okT, okA, ok1, rowOf, Tryz.f154]
    rw [partF, range_false (i := i) (by omega) (by rw [hc]; exact hp)]
    simp
  ·skip
   with_reducible refine aw_exit ?_
   refine loopK_exit (blockK_exit ?_)
   have : i = (bsL s).length := by omega
   subst this
   have hfin : partF (bsL s) = (!numP (bsL s) || numOk (bsL s)) := by rw [partF, ht, num_le]; simp [hne, hle]
   rw [hfin]
   with_reducible refine aR fun K' hK => ?_
   simp [t0]
   refine acall_flat (digits70_ok s hs) rfl (by first | rfl | (simp []; done) | (simp []; rfl) | (simp []; exact ⟨rfl, rfl⟩)) ?_
   cases hp : numP (bsL s) with
   | false =>
    simp
    refine hK _ _ _ ?_
    clear K' hK
    first | with_reducible refine aw_ret ?_ | with_reducible refine aw_retL ?_ | with_reducible refine aw_skipL ?_
    simp [blockK, loopK, Post, resA, res1, expT, expA, exp1, expM, expL, okT, okA, ok1, rowOf, Tryz.f154]
    exact .inl hp
   | true =>
    have hnn := numR_nn (l := bsL s)
    simp [t0]
    refine acall_flat (number71_ok s hs) rfl (by first | rfl | (simp []; done) | (simp []; rfl) | (simp []; exact ⟨rfl, rfl⟩)) ?_
    simp [hnn]
    refine hK _ _ _ ?_
    clear K' hK
    first | with_reducible refine aw_ret ?_ | with_reducible refine aw_retL ?_ | with_reducible refine aw_skipL ?_
    simp [blockK, loopK, Post, resA, res1, expT, expA, exp1, expM, expL, okT, okA, ok1, rowOf, Tryz.f154]
    intro h
    rw [hp] at h; cases h
end Go.Proofs.YtgipehooceecpaaGreatDoorAbs
namespace Go.Proofs.YtgipehooceecpaaGreatDoorAbs
set_option linter.unusedSimpArgs false
set_option linter.unusedVariables false
open Go Go.RowKit Go.Proofs
set_option maxRecDepth 100000
set_option maxHeartbeats 1000000
def spl : List UInt8 → List (List UInt8)
 | [] => [[]]
 | b :: l => if b = 46 then [] :: spl l else match spl l with
  | [] => [[b]]
  | p :: ps => (b :: p) :: ps
theorem spl_ne : ∀ l : List UInt8, spl l ≠ []
 | [] => by simp [spl]
 | b :: l => by
  rw [spl]
  split
  ·simp
  ·cases spl l <;> simp
theorem spl_out : ∀ {a : List UInt8}, (46 : UInt8) ∉ a → spl a = [a]
 | [], _ => rfl
 | b :: a, h => by
  have h1 : ¬ b = 46 := fun e => h (by simp [e])
  rw [spl, if_neg h1, spl_out (a := a) (fun e => h (List.mem_cons_of_mem _ e))]
theorem spl_in : ∀ {a r : List UInt8}, (46 : UInt8) ∉ a → spl (a ++ 46 :: r) = a :: spl r
 | [], r, _ => by simp [spl]
 | b :: a, r, h => by
  have h1 : ¬ b = 46 := fun e => h (by simp [e])
  rw [List.cons_append, spl, if_neg h1, spl_in (a := a) (fun e => h (List.mem_cons_of_mem _ e))]
theorem dot_spl : ∀ (k : Nat) (l : List UInt8), dotOk k l = (decide ((spl l).length ≤ k) && (spl l).all partF)
 | 0, l => by
  have := List.length_pos_iff.2 (spl_ne l)
  rw [dotOk]
  have h : ¬ (spl l).length ≤ 0 := by omega
  simp [h]
 | k + 1, l => by
  rw [dotOk]
  by_cases hm : (46 : UInt8) ∈ l
  ·obtain ⟨a, r, h1, rfl⟩ := first_at hm
   rw [ib_in h1, if_neg (by omega), spl_in h1, Int.toNat_natCast, List.take_left', show (a ++ 46 :: r).drop (a.length + 1) = r by simp, dot_spl k r]
   ·simp only [List.length_cons, List.all_cons, Nat.add_le_add_iff_right]
    cases partF a <;> simp
   ·rfl
  ·rw [ib_out hm, if_pos (by omega), spl_out hm]
   simp
theorem drop_at {l : List UInt8} {f i : Nat} (hf : f ≤ i) (hi : i < l.length) (h : by8 l i = 46) : l.drop f = ((l.take i).drop f) ++ 46 :: l.drop (i + 1) := by
 have e : l = l.take i ++ 46 :: l.drop (i + 1) := by
  rw [← h, by8_get hi, List.getElem_cons_drop]; simp
 conv => lhs; rw [e]
 rw [List.drop_append_of_le_length (by rw [List.length_take]; omega)]
theorem no_at {l : List UInt8} {f i : Nat} (hi : i ≤ l.length) (h : ∀ j, f ≤ j → j < i → by8 l j ≠ 46) : (46 : UInt8) ∉ (l.take i).drop f := by
 intro hm
 obtain ⟨j, hj, he⟩ := List.mem_iff_getElem.1 hm
 rw [List.length_drop, List.length_take] at hj
 rw [List.getElem_drop, List.getElem_take] at he
 exact h (f + j) (by omega) (by omega) (by rw [by8_get (by omega), he])
def CutAt (l : List UInt8) (out : List (List UInt8)) (f i : Nat) : Prop :=
 (i ≤ l.length ∧ f ≤ i ∧ (∀ j, f ≤ j → j < i → by8 l j ≠ 46) ∧ out ++ spl (l.drop f) = spl l ∧ out.length ≤ f) ∨ (i = l.length + 1 ∧ out = spl l ∧ f ≤ i)
theorem cut_step {l : List UInt8} {out : List (List UInt8)} {f i : Nat} (h : CutAt l out f i) (hi : i ≤ l.length) : f ≤ i ∧ out.length ≤ f ∧
  ((i < l.length ∧ by8 l i ≠ 46 → CutAt l out f (i + 1)) ∧ (¬ (i < l.length ∧ by8 l i ≠ 46) → CutAt l (out ++ [(l.take i).drop f]) (i + 1) (i + 1))) := by
 rcases h with ⟨_, h2, h3, h4, h5⟩ | ⟨h, _⟩
 ·refine ⟨h2, h5, fun ⟨q1, q2⟩ => .inl ⟨by omega, by omega, fun j a b => ?_, h4, h5⟩, fun hq => ?_⟩
  ·rcases Nat.lt_or_ge j i with h | h
   ·exact h3 j a h
   ·have : j = i := by omega
    subst this; exact q2
  ·rcases Nat.lt_or_ge i l.length with hl | hl
   ·have h46 : by8 l i = 46 := Decidable.not_not.1 fun h => hq ⟨hl, h⟩
    refine .inl ⟨by omega, Nat.le_refl _, fun j a b => by omega, ?_, by simp; omega⟩
    rw [drop_at h2 hl h46, spl_in (no_at hi h3)] at h4
    rw [← h4]; simp
   ·have : i = l.length := by omega
    subst this
    refine .inr ⟨rfl, ?_, Nat.le_refl _⟩
    have hno := no_at hi h3
    rw [List.take_length] at hno ⊢
    rw [spl_out hno] at h4
    exact h4
 ·omega
def strs (L : List (List UInt8)) : List Bs := L.map ofL
theorem strs_snoc {L : List (List UInt8)} {x : List UInt8} : strs (L ++ [x]) = strs L ++ [ofL x] := by simp [strs]
theorem cut58_ok (s : Bs) (hs : s.size ≤ 4000000000) : CallsOK Tryz.prog 153 [sV s, .v (.int .u8 46)] (.row 0 (strs (spl (bsL s))).length) [(9, flat sC (strs (spl (bsL s))))] := by
 refine callsOK mixed Tryz.call153 Tryz.func153 rfl (by rw [Tryz.ntmps153]; simp) ?_ rfl
 rw [Tryz.ntmps153]
 have hl : (bsL s).length = s.size := bsL_len s
 with_reducible refine aR fun K' hK => ?_
 simp []
 refine hK _ _ _ ?_
 clear K' hK
 with_reducible refine aR fun K' hK => ?_
 simp []
 refine hK _ _ _ ?_
 clear K' hK
 with_reducible refine aR fun K' hK => ?_
 simp []
 refine hK _ _ _ ?_
 clear K' hK
 with_reducible refine aA ?_
 with_reducible refine aR fun K' hK => ?_
 simp []
 refine hK _ _ _ ?_
 clear K' hK
 with_reducible refine aw_block ?_
 refine aw_loop (fun t G nx => t 0 = sV s ∧ t 1 = .v (.int .u8 46) ∧ ∃ (i f : Nat) (out : List (List UInt8)), t 7 = iV i ∧ t 6 = iV f ∧ CutAt (bsL s) out f i ∧ ∃ r, t 5 = .row r (strs out).length ∧ G r = some (.row 9 (flat sC (strs out))) ∧ r < nx) (fun s' _ _ => match s' 7 with | .v (.int _ n) => s.size + 1 - n.toNat | _ => 0) ?_ ?_
 ·exact ⟨by simp, by simp, 0, 0, [], by simp, by simp, .inl ⟨by omega, by omega, fun j a b => by omega, by simp, by simp⟩, 1, by simp [strs], by simp [strs], by omega⟩
 ·rintro t G nx - ⟨t0, t1, i, f, out, t7, t6, hcut, r, t5, hr, hrn⟩
  have hw : IntKind.i64.wrap (↑i + 1) = ((i + 1 : Nat) : Int) := wrapS (by rcases hcut with h | h <;> omega)
  with_reducible refine aA ?_
  with_reducible refine aR fun K' hK => ?_
  simp [t0, t7]
  refine hK _ _ _ ?_
  clear K' hK
  with_reducible refine aC fun A B hA hB => ?_
  simp []
  refine ⟨fun hi2 => hA ?_, fun hi2 => hB ?_⟩ <;> clear hA hB A B <;> (try simp at hi2) <;> (try with_reducible refine aK ?_)
  ·obtain ⟨hfi, hof, hno, hyes⟩ := cut_step hcut (by omega)
   with_reducible refine aw_block ?_
   refine aw_cut (fun u H ny => H r = some (.row 9 (flat sC (strs out))) ∧ r < ny ∧ u 0 = sV s ∧ u 1 = .v (.int .u8 46) ∧ u 5 = .row r (strs out).length ∧ u 6 = iV f ∧ u 7 = iV i ∧ u 24 = bV (!decide (i < (bsL s).length ∧ by8 (bsL s) i ≠ 46))) ?_ ?_
   ·by_cases he : i = s.size
    ·have he' : ((i : Nat) : Int) = s.size := by omega
     have hn : ¬ i < (bsL s).length := by omega
     with_reducible refine aS fun K' hK => ?_
     simp [t0, t7, he, he']
     refine hK _ _ _ ?_
     clear K' hK
     with_reducible refine aw_end ?_
     simp [hr, hrn, t0, t1, t5, t6, t7, he, hl]
    ·have he' : ¬ ((i : Nat) : Int) = s.size := by omega
     have hi3 : i < s.size := by omega
     have hcc : byteA s i = by8 (bsL s) i := rfl
     generalize hc : by8 (bsL s) i = c at hcc
     by_cases h46 : (c.toNat : Int) = 46
     ·have h46' : c = 46 := u8_of (n := 46) h46 (by decide)
      with_reducible refine aS fun K' hK => ?_
      simp [t0, t1, t7, he, he', hi3, hcc, h46]
      refine hK _ _ _ ?_
      clear K' hK
      with_reducible refine aw_end ?_
      simp [hr, hrn, t0, t1, t5, t6, t7, hl, hi3, h46']
     ·have h46' : ¬ c = 46 := fun h => h46 (by rw [h]; rfl)
      with_reducible refine aS fun K' hK => ?_
      simp [t0, t1, t7, he, he', hi3, hcc, h46]
      refine hK _ _ _ ?_
      clear K' hK
      with_reducible refine aw_end ?_
      simp [hr, hrn, t0, t1, t5, t6, t7, hl, hi3, h46']
   rintro u H nx ⟨hr, hrn, u0, u1, u5, u6, u7, u24⟩
   by_cases hq : i < (bsL s).length ∧ by8 (bsL s) i ≠ 46
   ·have hb : (!decide (i < (bsL s).length ∧ by8 (bsL s) i ≠ 46)) = false := by simp [hq]
    rw [hb] at u24
    with_reducible refine aD fun A B hA hB => ?_
    simp [u24]
    refine ⟨fun hc => hA ?_, fun hc => hB ?_⟩ <;> clear hA hB A B <;> (try (simp at hc; done)) <;> (try (exfalso; simp at hc; omega)) <;> clear hc <;> (try with_reducible refine aK ?_)
    with_reducible refine aw_skipL ?_
    refine blockK_normal ?_
    with_reducible refine aS fun K' hK => ?_
    simp [u7, hw]
    refine hK _ _ _ ?_
    clear K' hK
    refine aw_skipL (loopK_normal ?_ ?_)
    ·exact ⟨by simp [u0], by simp [u1], i + 1, f, out, by simp [hw], by simp [u6], hno hq, r, by simp [u5], hr, hrn⟩
    ·simp [t7, hw]; omega
   ·have hb : (!decide (i < (bsL s).length ∧ by8 (bsL s) i ≠ 46)) = true := by simp only [hq]; rfl
    rw [hb] at u24
    have hnew := hyes hq
    have hsl : s.extract f i = ofL (((bsL s).take i).drop f) := by apply bsL_inj; rw [bsL_ofL, bsL_ext]
    have i1 : i ≤ s.size := by omega
    have hlo : (strs out).length ≤ f := by simpa [strs] using hof
    have b1 : (strs out).length + 1 ≤ 9223372036854775807 := by omega
    have b2 : ((strs out).length + 1) * 16 ≤ 140737488355328 := by omega
    have n1 : ¬ r = nx := by omega
    with_reducible refine aD fun A B hA hB => ?_
    simp [u24]
    refine ⟨fun hc => hA ?_, fun hc => hB ?_⟩ <;> clear hA hB A B <;> (try (simp at hc; done)) <;> (try (exfalso; simp at hc; omega)) <;> clear hc <;> (try with_reducible refine aK ?_)
    with_reducible refine aA ?_
    with_reducible refine aR fun K' hK => ?_
    simp [u5, u0, u6, u7, bnd_some, hfi, i1, hr, b1, b2, n1, treeOf_row, srcOf_row]
    refine hK _ _ _ ?_
    clear K' hK
    with_reducible refine aR fun K' hK => ?_
    simp [u7, hw]
    refine hK _ _ _ ?_
    clear K' hK
    with_reducible refine aw_skipL ?_
    refine blockK_normal ?_
    with_reducible refine aS fun K' hK => ?_
    simp [u7, hw]
    refine hK _ _ _ ?_
    clear K' hK
    refine aw_skipL (loopK_normal ?_ ?_)
    ·refine ⟨by simp [u0], by simp [u1], i + 1, i + 1, _, by simp [hw], by simp [hw], hnew, nx + 1, by simp [strs_snoc], ?_, by omega⟩
     rw [strs_snoc, ← hsl, Hp.upd_self, ← flat_app]; rfl
    ·simp [t7, hw]; omega
  ·skip
   with_reducible refine aw_exit ?_
   refine loopK_exit (blockK_exit ?_)
   have hout : out = spl (bsL s) := by
    rcases hcut with h | h
    ·omega
    ·exact h.2.1
   subst hout
   with_reducible refine aR fun K' hK => ?_
   simp [t5]
   refine hK _ _ _ ?_
   clear K' hK
   first | with_reducible refine aw_ret ?_ | with_reducible refine aw_retL ?_ | with_reducible refine aw_skipL ?_
   simp [blockK, loopK, Post, resA, res1, expT, expA, exp1, expM, expL, okT, okA, ok1, rowOf, Tryz.f153, hr]
theorem spl_len : ∀ (l : List UInt8), ∀ x ∈ spl l, x.length ≤ l.length
 | [], x, h => by simp [spl] at h; simp [h]
 | b :: l, x, h => by
  have ih := spl_len l
  rw [spl] at h
  split at h
  ·rcases List.mem_cons.1 h with rfl | h
   ·simp
   ·have := ih x h
    simp; omega
  ·cases hs : spl l with
   | nil => exact absurd hs (spl_ne l)
   | cons p ps =>
    rw [hs] at h ih
    rcases List.mem_cons.1 h with rfl | h
    ·have := ih p (by simp)
     simp; omega
    ·have := ih x (List.mem_cons_of_mem _ h)
     simp; omega
theorem spl_count : ∀ (l : List UInt8), (spl l).length ≤ l.length + 1
 | [] => by simp [spl]
 | b :: l => by
  have ih := spl_count l
  rw [spl]
  split
  ·simp; omega
  ·cases hs : spl l with
   | nil => simp
   | cons p ps =>
    rw [hs] at ih
    simp at ih ⊢; omega
theorem strs_nth {L : List (List UInt8)} {i : Nat} (h : i < L.length) : nth (strs L) i = ofL (nth L i) := by
 rw [nth_eq (by simpa [strs] using h), nth_eq h]
 simp [strs]
theorem strs_len {L : List (List UInt8)} : (strs L).length = L.length := by simp [strs]
theorem right37_ok (v : Ver) (hs : v.pre.size ≤ 4000000000) : CallsOK Tryz.prog 101 [.agg v.cells] (bV (verOk v)) [] := by
 refine callsOK mixed Tryz.call101 Tryz.func101 rfl (by rw [Tryz.ntmps101]; simp) ?_ rfl
 rw [Tryz.ntmps101]
 have hl : (bsL v.pre).length = v.pre.size := bsL_len v.pre
 with_reducible refine aR fun K' hK => ?_
 simp []
 refine hK _ _ _ ?_
 clear K' hK
 with_reducible refine aA ?_
 with_reducible refine aR fun K' hK => ?_
 simp []
 refine acall_flat (may57_ok v.maj) rfl (by first | rfl | (simp []; done) | (simp []; rfl) | (simp []; exact ⟨rfl, rfl⟩)) ?_
 cases h1 : inR v.maj with
 | false =>
  simp
  refine hK _ _ _ ?_
  clear K' hK
  with_reducible refine aC fun A B hA hB => ?_
  simp []
  refine ⟨fun hc => hA ?_, fun hc => hB ?_⟩ <;> clear hA hB A B <;> (try (simp at hc; done)) <;> (try (exfalso; simp at hc; omega)) <;> clear hc <;> (try with_reducible refine aK ?_)
  with_reducible refine aA ?_
  with_reducible refine aR fun K' hK => ?_
  simp []
  refine hK _ _ _ ?_
  clear K' hK
  first | with_reducible refine aw_ret ?_ | with_reducible refine aw_retL ?_ | with_reducible refine aw_skipL ?_
  simp [blockK, loopK, Post, resA, res1, expT, expA, exp1, expM, expL, okT, okA, ok1, rowOf, Tryz.f101]
  simp [verOk, h1]
 | true =>
 simp
 refine acall_flat (may57_ok v.min) rfl (by first | rfl | (simp []; done) | (simp []; rfl) | (simp []; exact ⟨rfl, rfl⟩)) ?_
 cases h2 : inR v.min with
 | false =>
  simp
  refine hK _ _ _ ?_
  clear K' hK
  with_reducible refine aC fun A B hA hB => ?_
  simp []
  refine ⟨fun hc => hA ?_, fun hc => hB ?_⟩ <;> clear hA hB A B <;> (try (simp at hc; done)) <;> (try (exfalso; simp at hc; omega)) <;> clear hc <;> (try with_reducible refine aK ?_)
  with_reducible refine aA ?_
  with_reducible refine aR fun K' hK => ?_
  simp []
  refine hK _ _ _ ?_
  clear K' hK
  first | with_reducible refine aw_ret ?_ | with_reducible refine aw_retL ?_ | with_reducible refine aw_skipL ?_
  simp [blockK, loopK, Post, resA, res1, expT, expA, exp1, expM, expL, okT, okA, ok1, rowOf, Tryz.f101]
  simp [verOk, h2]
 | true =>
 simp
 refine acall_flat (may57_ok v.pat) rfl (by first | rfl | (simp []; done) | (simp []; rfl) | (simp []; exact ⟨rfl, rfl⟩)) ?_
 cases h3 : inR v.pat with
 | false =>
  simp
  refine hK _ _ _ ?_
  clear K' hK
  with_reducible refine aC fun A B hA hB => ?_
  simp []
  refine ⟨fun hc => hA ?_, fun hc => hB ?_⟩ <;> clear hA hB A B <;> (try (simp at hc; done)) <;> (try (exfalso; simp at hc; omega)) <;> clear hc <;> (try with_reducible refine aK ?_)
  with_reducible refine aA ?_
  with_reducible refine aR fun K' hK => ?_
  simp []
  refine hK _ _ _ ?_
  clear K' hK
  first | with_reducible refine aw_ret ?_ | with_reducible refine aw_retL ?_ | with_reducible refine aw_skipL ?_
  simp [blockK, loopK, Post, resA, res1, expT, expA, exp1, expM, expL, okT, okA, ok1, rowOf, Tryz.f101]
  simp [verOk, h3]
 | true =>
 simp
 refine hK _ _ _ ?_
 clear K' hK
 with_reducible refine aC fun A B hA hB => ?_
 simp []
 refine ⟨fun hc => hA ?_, fun hc => hB ?_⟩ <;> clear hA hB A B <;> (try (simp at hc; done)) <;> (try (exfalso; simp at hc; omega)) <;> clear hc <;> (try with_reducible refine aK ?_)
 by_cases he : v.pre = ⟨#[]⟩
 ·with_reducible refine aA ?_
  with_reducible refine aR fun K' hK => ?_
  simp [he]
  refine hK _ _ _ ?_
  clear K' hK
  with_reducible refine aC fun A B hA hB => ?_
  simp []
  refine ⟨fun hc => hA ?_, fun hc => hB ?_⟩ <;> clear hA hB A B <;> (try (simp at hc; done)) <;> (try (exfalso; simp at hc; omega)) <;> clear hc <;> (try with_reducible refine aK ?_)
  with_reducible refine aA ?_
  with_reducible refine aR fun K' hK => ?_
  simp []
  refine hK _ _ _ ?_
  clear K' hK
  first | with_reducible refine aw_ret ?_ | with_reducible refine aw_retL ?_ | with_reducible refine aw_skipL ?_
  simp [blockK, loopK, Post, resA, res1, expT, expA, exp1, expM, expL, okT, okA, ok1, rowOf, Tryz.f101]
  simp [verOk, h1, h2, h3, preOk, he, bsL_empty]
 ·have hne : ¬ bsL v.pre = [] := fun h => he ((empty_iff _).2 h)
  have hfin : verOk v = (decide ((spl (bsL v.pre)).length ≤ 5) && (spl (bsL v.pre)).all partF) := by
   rw [verOk, preOk, h1, h2, h3, dot_spl]
   simp [hne]
  rw [hfin]
  with_reducible refine aA ?_
  with_reducible refine aR fun K' hK => ?_
  simp [he]
  refine hK _ _ _ ?_
  clear K' hK
  with_reducible refine aC fun A B hA hB => ?_
  simp []
  refine ⟨fun hc => hA ?_, fun hc => hB ?_⟩ <;> clear hA hB A B <;> (try (simp at hc; done)) <;> (try (exfalso; simp at hc; omega)) <;> clear hc <;> (try with_reducible refine aK ?_)
  with_reducible refine aR fun K' hK => ?_
  simp []
  refine acall_new (cut58_ok v.pre hs) (by first | rfl | (simp []; done) | (simp []; rfl) | (simp []; exact ⟨rfl, rfl⟩)) ?_
  simp [addJ_one]
  refine hK _ _ _ ?_
  clear K' hK
  with_reducible refine aA ?_
  with_reducible refine aR fun K' hK => ?_
  simp []
  refine hK _ _ _ ?_
  clear K' hK
  have hsl := spl_len (bsL v.pre)
  have hsc := spl_count (bsL v.pre)
  generalize spl (bsL v.pre) = L at hsl hsc
  have hLl : (strs L).length = L.length := strs_len
  refine aw_gen (fun s G nx => s 3 = .row 1 (strs L).length ∧ s 4 = iV 0 ∧ G 1 = some (.row 9 (flat sC (strs L)))) ?_ ?_
  ·simp
  rintro s G nx ⟨s3, s4, g1⟩
  with_reducible refine aw_block ?_
  refine aw_loop (fun s G nx => s 3 = .row 1 (strs L).length ∧ G 1 = some (.row 9 (flat sC (strs L))) ∧ ∃ i : Nat, s 4 = iV i ∧ i ≤ (strs L).length ∧ (L.take i).all partF = true) (fun s _ _ => match s 4 with | .v (.int _ n) => (strs L).length - n.toNat | _ => 0) ?_ ?_
  ·exact ⟨s3, g1, 0, by simp [s4], by omega, by simp⟩
  ·rintro s G nx - ⟨s3, g1, i, s4, hi, hall⟩
   with_reducible refine aA ?_
   with_reducible refine aR fun K' hK => ?_
   simp [s3, s4, g1]
   refine hK _ _ _ ?_
   clear K' hK
   with_reducible refine aC fun A B hA hB => ?_
   simp []
   refine ⟨fun hi2 => hA ?_, fun hi2 => hB ?_⟩ <;> clear hA hB A B <;> (try simp at hi2) <;> (try with_reducible refine aK ?_)
   ·have hi3 : i < L.length := by omega
    have hw : IntKind.i64.wrap (↑i + 1) = ((i + 1 : Nat) : Int) := wrapS (by omega)
    have hst := all_take1 (p := partF) hi3
    rw [hall, Bool.true_and] at hst
    have hmem := hsl _ (nth_mem hi3)
    have hpp := part59_ok (nth (strs L) i) (by rw [strs_nth hi3, ofL_size]; omega)
    rw [strs_nth hi3, bsL_ofL] at hpp
    with_reducible refine aw_block ?_
    with_reducible refine aR fun K' hK => ?_
    simp [s3, s4, g1, hi2, strs_nth hi3]
    refine acall_flat hpp rfl (by first | rfl | (simp []; done) | (simp []; rfl) | (simp []; exact ⟨rfl, rfl⟩)) ?_
    cases hp : partF (nth L i) with
    | true =>
     rw [hp] at hst
     simp
     refine hK _ _ _ ?_
     clear K' hK
     with_reducible refine aD fun A B hA hB => ?_
     simp []
     refine ⟨fun hc => hA ?_, fun hc => hB ?_⟩ <;> clear hA hB A B <;> (try (simp at hc; done)) <;> (try (exfalso; simp at hc; omega)) <;> clear hc <;> (try with_reducible refine aK ?_)
     with_reducible refine aw_skipL ?_
     refine blockK_normal ?_
     with_reducible refine aS fun K' hK => ?_
     simp [s4, hw]
     refine hK _ _ _ ?_
     clear K' hK
     refine aw_skipL (loopK_normal ?_ ?_)
     ·exact ⟨by simp [s3], g1, i + 1, by simp [hw], by omega, hst⟩
     ·simp [s4, hw]; omega
    | false =>
     simp
     refine hK _ _ _ ?_
     clear K' hK
     with_reducible refine aD fun A B hA hB => ?_
     simp []
     refine ⟨fun hc => hA ?_, fun hc => hB ?_⟩ <;> clear hA hB A B <;> (try (simp at hc; done)) <;> (try (exfalso; simp at hc; omega)) <;> clear hc <;> (try with_reducible refine aK ?_)
     with_reducible refine aA ?_
     with_reducible refine aR fun K' hK => ?_
     simp []
     refine hK _ _ _ ?_
     clear K' hK
     first | with_reducible refine aw_ret ?_ | with_reducible refine aw_retL ?_ | with_reducible refine aw_skipL ?_
     simp [blockK, loopK, Post, resA, res1, expT, expA, exp1, expM, expL, okT, okA, ok1, rowOf, Tryz.f101]
     intro _
     exact ⟨_, nth_mem hi3, hp⟩
   ·skip
    with_reducible refine aw_exit ?_
    refine loopK_exit (blockK_exit ?_)
    have : i = L.length := by omega
    subst this
    rw [List.take_length] at hall
    with_reducible refine aR fun K' hK => ?_
    simp [s3, g1]
    refine hK _ _ _ ?_
    clear K' hK
    first | with_reducible refine aw_ret ?_ | with_reducible refine aw_retL ?_ | with_reducible refine aw_skipL ?_
    simp [blockK, loopK, Post, resA, res1, expT, expA, exp1, expM, expL, okT, okA, ok1, rowOf, Tryz.f101]
    simp [hall, hLl]
    omega
end Go.Proofs.YtgipehooceecpaaGreatDoorAbs
namespace Go.Proofs.YtgipehooceecpaaGreatDoorAbs
set_option linter.unusedSimpArgs false
set_option linter.unusedVariables false
open Go Go.RowKit Go.Proofs
set_option maxRecDepth 100000
set_option maxHeartbeats 1000000
def Pre (t : List Pl) (n : Nat) : Prop := parN t 0 = -1 ∧ ∀ j, 1 ≤ j → j ≤ n → 0 ≤ parN t j ∧ parN t j < j
theorem Pre.dn {t : List Pl} {n : Nat} (h : Pre t n) : ∀ j, j ≤ n → parN t j < j := by
 intro j hj
 rcases Nat.eq_zero_or_pos j with rfl | h1
 ·rw [h.1]; omega
 ·exact (h.2 j h1 hj).2
theorem Pre.le {t : List Pl} {n m : Nat} (h : Pre t n) (hm : m ≤ n) : Pre t m := ⟨h.1, fun j a b => h.2 j a (by omega)⟩
theorem Good.pre {t : List Pl} (g : Good t) {n : Nat} (hn : n < t.length) : Pre t n := ⟨root_par g.root, fun j h1 h2 => g.par j h1 (by omega)⟩
-- child
def chR (t : List Pl) (m : Nat) (p : Int) (b : Bs) : Int := match (List.range m).find? (fun i => decide (1 ≤ i) && chP p b (nth t i)) with
 | some i => i
 | none => -1
end Go.Proofs.YtgipehooceecpaaGreatDoorAbs
namespace Go.Proofs.YtgipehooceecpaaGreatDoorAbs
set_option linter.unusedSimpArgs false
set_option linter.unusedVariables false
open Go Go.RowKit Go.Proofs
set_option maxRecDepth 100000
set_option maxHeartbeats 1000000
end Go.Proofs.YtgipehooceecpaaGreatDoorAbs
namespace Go.Proofs.YtgipehooceecpaaGreatDoorAbs
set_option linter.unusedSimpArgs false
set_option linter.unusedVariables false
open Go Go.RowKit Go.Proofs
set_option maxRecDepth 100000
set_option maxHeartbeats 1000000
theorem under50_ok (t : List Pl) (g : Good t) (i : Nat) (hi : i < t.length) (x : Nat) : CallsOK Tryz.prog 202 [rowT Pl.cells t, iV i, iV x] (bV (underF t i x)) [] := by
 refine callsOK mixed Tryz.call202 Tryz.func202 rfl (by rw [Tryz.ntmps202]; simp) ?_ rfl
 rw [Tryz.ntmps202]
 with_reducible refine aR fun K' hK => ?_
 simp []
 refine hK _ _ _ ?_
 clear K' hK
 with_reducible refine aw_block ?_
 refine aw_loop (fun s G nx => s 0 = rowT Pl.cells t ∧ s 2 = iV x ∧ ∃ j : Nat, s 1 = iV j ∧ j < t.length ∧ underF t j x = underF t i x) (fun s _ _ => match s 1 with | .v (.int _ n) => n.toNat | _ => 0) ?_ ?_
 ·exact ⟨by simp, by simp, i, by simp, hi, rfl⟩
 ·rintro s G nx - ⟨s0, s2, j, s1, hj, hu⟩
  have o1 := s1
  with_reducible refine aA ?_
  with_reducible refine aR fun K' hK => ?_
  simp [s1, s2]
  refine hK _ _ _ ?_
  clear K' hK
  with_reducible refine aC fun A B hA hB => ?_
  simp []
  refine ⟨fun hx => hA ?_, fun hx => hB ?_⟩ <;> clear hA hB A B <;> (try simp at hx) <;> (try with_reducible refine aK ?_)
  ·have hp := g.par j (by omega) hj
   obtain ⟨k, hk⟩ : ∃ k : Nat, parN t j = k := ⟨(parN t j).toNat, by omega⟩
   have hkp : (nth t j).par = k := hk
   have hst := under_step g.dn hj (x : Int)
   rw [hk] at hst hp
   have h1 : ¬ (j : Int) = x := by omega
   have h2 : ¬ (k : Int) < 0 := by omega
   simp only [h1, h2, decide_false, Bool.false_or, Bool.not_false, Bool.true_and, Int.toNat_natCast] at hst
   with_reducible refine aw_toS (aw_block ?_)
   with_reducible refine aS fun K' hK => ?_
   simp [s0, s1, hj, hkp]
   refine hK _ _ _ ?_
   clear K' hK
   with_reducible refine aw_skipL ?_
   refine blockK_normal ?_
   refine aw_skipL (loopK_normal ?_ ?_)
   ·exact ⟨by simp [s0], by simp [s2], k, by simp, by omega, by rw [← hst]; exact hu⟩
   ·simp [o1]; omega
  ·skip
   with_reducible refine aw_exit ?_
   refine loopK_exit (blockK_exit ?_)
   with_reducible refine aR fun K' hK => ?_
   simp [s1, s2]
   refine hK _ _ _ ?_
   clear K' hK
   first | with_reducible refine aw_ret ?_ | with_reducible refine aw_retL ?_ | with_reducible refine aw_skipL ?_
   simp [blockK, loopK, Post, resA, res1, expT, expA, exp1, expM, expL, okT, okA, ok1, rowOf, Tryz.f202]
   rw [← hu]
   by_cases he : j = x
   ·subst he
    simp [under_self g hj]
   ·have : underF t j x = false := by
     cases h : underF t j x with
     | false => rfl
     | true => have := under_ge g hj h; omega
    rw [this]
    simp; omega
theorem ints27_ok (a b : List Int) (ha : a.length ≤ 1000000000) : CallsOK Tryz.prog 37 [rowT iC a, rowT iC b] (bV (decide (a = b))) [] := by
 refine callsOK mixed Tryz.call37 Tryz.func37 rfl (by rw [Tryz.ntmps37]; simp) ?_ rfl
 rw [Tryz.ntmps37]
 with_reducible refine aR fun K' hK => ?_
 simp []
 refine hK _ _ _ ?_
 clear K' hK
 with_reducible refine aA ?_
 with_reducible refine aR fun K' hK => ?_
 simp []
 refine hK _ _ _ ?_
 clear K' hK
 with_reducible refine aC fun A B hA hB => ?_
 simp []
 refine ⟨fun hl => hA ?_, fun hl => hB ?_⟩ <;> clear hA hB A B <;> (try simp at hl) <;> (try with_reducible refine aK ?_)
 ·with_reducible refine aA ?_
  with_reducible refine aR fun K' hK => ?_
  simp []
  refine hK _ _ _ ?_
  clear K' hK
  first | with_reducible refine aw_ret ?_ | with_reducible refine aw_retL ?_ | with_reducible refine aw_skipL ?_
  simp [blockK, loopK, Post, resA, res1, expT, expA, exp1, expM, expL, okT, okA, ok1, rowOf, Tryz.f37]
  intro e; exact hl (by rw [e])
 ·with_reducible refine aA ?_
  with_reducible refine aR fun K' hK => ?_
  simp []
  refine hK _ _ _ ?_
  clear K' hK
  with_reducible refine aw_block ?_
  refine aw_loop (fun s G nx => s 0 = rowT iC a ∧ s 1 = rowT iC b ∧ ∃ i : Nat, s 5 = iV i ∧ i ≤ a.length ∧ a.take i = b.take i) (fun s _ _ => match s 5 with | .v (.int _ n) => a.length - n.toNat | _ => 0) ?_ ?_
  ·exact ⟨by simp, by simp, 0, by simp, by omega, by simp⟩
  ·rintro s G nx - ⟨s0, s1, i, s5, hi, ht⟩
   have hw : IntKind.i64.wrap (↑i + 1) = ((i + 1 : Nat) : Int) := wrapS (by omega)
   with_reducible refine aA ?_
   with_reducible refine aR fun K' hK => ?_
   simp [s0, s5]
   refine hK _ _ _ ?_
   clear K' hK
   with_reducible refine aC fun A B hA hB => ?_
   simp []
   refine ⟨fun hi2 => hA ?_, fun hi2 => hB ?_⟩ <;> clear hA hB A B <;> (try simp at hi2) <;> (try with_reducible refine aK ?_)
   ·have hi3 : i < b.length := by omega
    with_reducible refine aw_block ?_
    with_reducible refine aQ fun K' hK => ?_
    simp (maxSteps := 1000000) [s0, s1, s5, hi2, hi3]
    refine hK _ _ _ ?_
    clear K' hK
    by_cases h1 : nth a i = nth b i
    ·skip
     with_reducible refine aD fun A B hA hB => ?_
     simp [h1]
     refine ⟨fun hc => hA ?_, fun hc => hB ?_⟩ <;> clear hA hB A B <;> (try (simp at hc; done)) <;> (try (exfalso; simp at hc; omega)) <;> clear hc <;> (try with_reducible refine aK ?_)
     with_reducible refine aw_skipL ?_
     refine blockK_normal ?_
     with_reducible refine aS fun K' hK => ?_
     simp [s5, hw]
     refine hK _ _ _ ?_
     clear K' hK
     refine aw_skipL (loopK_normal ?_ ?_)
     ·exact ⟨by simp [s0], by simp [s1], i + 1, by simp [hw], by omega, take_nth hi2 hi3 ht h1⟩
     ·simp [s5, hw]; omega
    ·skip
     with_reducible refine aD fun A B hA hB => ?_
     simp [h1]
     refine ⟨fun hc => hA ?_, fun hc => hB ?_⟩ <;> clear hA hB A B <;> (try (simp at hc; done)) <;> (try (exfalso; simp at hc; omega)) <;> clear hc <;> (try with_reducible refine aK ?_)
     with_reducible refine aA ?_
     with_reducible refine aR fun K' hK => ?_
     simp []
     refine hK _ _ _ ?_
     clear K' hK
     first | with_reducible refine aw_ret ?_ | with_reducible refine aw_retL ?_ | with_reducible refine aw_skipL ?_
     simp [blockK, loopK, Post, resA, res1, expT, expA, exp1, expM, expL, okT, okA, ok1, rowOf, Tryz.f37]
     exact ne_nth h1
   ·skip
    with_reducible refine aw_exit ?_
    refine loopK_exit (blockK_exit ?_)
    with_reducible refine aR fun K' hK => ?_
    simp []
    refine hK _ _ _ ?_
    clear K' hK
    first | with_reducible refine aw_ret ?_ | with_reducible refine aw_retL ?_ | with_reducible refine aw_skipL ?_
    simp [blockK, loopK, Post, resA, res1, expT, expA, exp1, expM, expL, okT, okA, ok1, rowOf, Tryz.f37]
    exact eq_of_take (by omega) (by omega) ht
end Go.Proofs.YtgipehooceecpaaGreatDoorAbs
namespace Go.Proofs.YtgipehooceecpaaGreatDoorAbs
set_option linter.unusedSimpArgs false
set_option linter.unusedVariables false
open Go Go.RowKit Go.Proofs
set_option maxRecDepth 100000
set_option maxHeartbeats 1000000
theorem c9 : Tryz.prog.cellsOf 9 = 1 := by kernel_rfl
end Go.Proofs.YtgipehooceecpaaGreatDoorAbs
namespace Go.Proofs.YtgipehooceecpaaGreatDoorAbs
set_option linter.unusedSimpArgs false
set_option linter.unusedVariables false
open Go Go.RowKit Go.Proofs
set_option maxRecDepth 100000
set_option maxHeartbeats 1000000
@[simp] theorem eqlB (a b : Bool) : evBin Tryz.prog .eql 4 (.bool a) (.bool b) = some (.bool (a == b)) := by
 cases a <;> cases b <;> kernel_rfl
def OwnAt (G : Hp) (r : Nat) (t : List Pl) : Prop := G r = some (.row 58 (flat Pl.cells t)) ∨ G r = some (.frz 58 (flat Pl.cells t))
theorem OwnAt.tree {G : Hp} {r : Nat} {t : List Pl} (h : OwnAt G r t) : treeOf Tryz.prog G (.row r t.length) = some (rowT Pl.cells t) := by
 rcases h with h | h
 ·exact treeOf_of h c34 rfl
 ·exact treeOf_of' h c34 rfl
theorem OwnAt.frz {G : Hp} {r n : Nat} {t : List Pl} (h : OwnAt G r t) : ∃ G', frzOf G (.row r n) = G' ∧ OwnAt G' r t ∧ ∀ j, j ≠ r → G' j = G j := by
 rcases h with h | h
 ·cases t with
  | nil => exact ⟨G, by rw [frzOf_row, h]; rfl, .inl h, fun _ _ => rfl⟩
  | cons p t => exact ⟨_, frz_new h (by simp), .inr (by simp), fun j hj => Hp.upd_ne _ _ hj⟩
 ·exact ⟨G, frz_old h, .inr h, fun _ _ => rfl⟩
end Go.Proofs.YtgipehooceecpaaGreatDoorAbs
namespace Go.Proofs.YtgipehooceecpaaGreatDoorAbs
set_option linter.unusedSimpArgs false
set_option linter.unusedVariables false
open Go Go.RowKit Go.Proofs
set_option maxRecDepth 100000
set_option maxHeartbeats 1000000
end Go.Proofs.YtgipehooceecpaaGreatDoorAbs
namespace Go.Proofs.YtgipehooceecpaaGreatDoorAbs
set_option linter.unusedSimpArgs false
set_option linter.unusedVariables false
open Go Go.RowKit Go.Proofs
set_option maxHeartbeats 400000
def ltB (a b : Bs) : Bool := decide (bsL a < bsL b)
@[simp] theorem str_lss (P : Program) (t : TypeId) (a b : Bs) : evBin P .lss t (.string a) (.string b) = some (.bool (ltB a b)) := by
 simp only [evBin, bytesLess_eq, toL_bsL, ltB]
theorem list_tri (a b : List UInt8) : (!(decide (a < b) || a == b)) = decide (b < a) := by
 rw [Bool.eq_iff_iff]
 simp only [Bool.not_eq_true', Bool.or_eq_false_iff, decide_eq_false_iff_not, beq_eq_false_iff_ne, decide_eq_true_eq]
 constructor
 ·rintro ⟨h1, h2⟩
  apply Classical.byContradiction
  intro h3
  exact h2 (List.le_antisymm (List.not_lt.1 h3) (List.not_lt.1 h1))
 ·intro h
  exact ⟨List.lt_asymm h, fun e => by subst e; exact List.lt_irrefl _ h⟩
@[simp] theorem str_gtr (P : Program) (t : TypeId) (a b : Bs) : evBin P .gtr t (.string a) (.string b) = some (.bool (ltB b a)) := by
 simp only [evBin, bytesLess_eq, toL_bsL, ltB]
 rw [list_tri]
@[simp] theorem str_geq (P : Program) (t : TypeId) (a b : Bs) : evBin P .geq t (.string a) (.string b) = some (.bool (!ltB a b)) := by
 simp only [evBin, bytesLess_eq, toL_bsL, ltB]
@[simp] theorem str_leq (P : Program) (t : TypeId) (a b : Bs) : evBin P .leq t (.string a) (.string b) = some (.bool (!ltB b a)) := by
 simp only [evBin, bytesLess_eq, toL_bsL, ltB]
 rw [← list_tri (bsL a) (bsL b), Bool.not_not]
theorem ltB_irr (a : Bs) : ltB a a = false := by
 unfold ltB
 exact decide_eq_false (List.lt_irrefl _)
theorem ltB_asym {a b : Bs} (h : ltB a b = true) : ltB b a = false := by
 unfold ltB at h ⊢
 exact decide_eq_false (List.lt_asymm (of_decide_eq_true h))
theorem ltB_tri {a b : Bs} (h1 : ltB a b = false) (h2 : ltB b a = false) : a = b := by
 unfold ltB at h1 h2
 exact bsL_inj (List.le_antisymm (List.not_lt.1 (of_decide_eq_false h2)) (List.not_lt.1 (of_decide_eq_false h1)))
theorem ltB_trans {a b c : Bs} (h1 : ltB a b = true) (h2 : ltB b c = true) : ltB a c = true := by
 unfold ltB at h1 h2 ⊢
 exact decide_eq_true (List.lt_trans (of_decide_eq_true h1) (of_decide_eq_true h2))
def cmpI (a b : Int) : Int := if a < b then -1 else if b < a then 1 else 0
def cmpB (a b : Bs) : Int := if ltB a b = true then -1 else if ltB b a = true then 1 else 0
theorem cmpI_self (a : Int) : cmpI a a = 0 := by simp [cmpI]
theorem cmpB_self (a : Bs) : cmpB a a = 0 := by simp [cmpB, ltB_irr]
theorem cmpB_zero {a b : Bs} : cmpB a b = 0 ↔ a = b := by
 constructor
 ·intro h
  unfold cmpB at h
  split at h
  ·cases h
  ·rename_i h1
   split at h
   ·cases h
   ·rename_i h2
    exact ltB_tri (by simpa using h1) (by simpa using h2)
 ·rintro rfl; exact cmpB_self a
def partsN (a b : Bs) : Int := if numP (bsL a) = true then (if numP (bsL b) = true then cmpI (atoiN (bsL a)) (atoiN (bsL b)) else -1) else if numP (bsL b) = true then 1 else cmpB a b
theorem partsN_self (a : Bs) : partsN a a = 0 := by
 unfold partsN
 split
 ·exact cmpI_self _
 ·exact cmpB_self _
def rowsN : List Bs → List Bs → Int
 | a :: x, b :: y => if partsN a b = 0 then rowsN x y else partsN a b
 | x, y => cmpI x.length y.length
theorem rowsN_self : ∀ x : List Bs, rowsN x x = 0
 | [] => rfl
 | a :: x => by rw [rowsN, if_pos (partsN_self a), rowsN_self x]
def coreN (a b : Ver) : Int := if cmpI a.maj b.maj ≠ 0 then cmpI a.maj b.maj else if cmpI a.min b.min ≠ 0 then cmpI a.min b.min else cmpI a.pat b.pat
def comparN (a b : Ver) : Int := if verOk a = true ∧ verOk b = true then
  (if coreN a b ≠ 0 ∨ a.pre = b.pre then coreN a b else if a.pre = ⟨#[]⟩ then 1 else if b.pre = ⟨#[]⟩ then -1 else rowsN (strs (spl (bsL a.pre))) (strs (spl (bsL b.pre))))
 else 0
-- the digits of a number
theorem parse_num : ∀ (l : List UInt8) (acc k : Nat), l.all digB = true → acc < 10 ^ k → k + l.length ≤ 17 → ∃ u, Lib.parseUint10 acc l = .ok u ∧ (u : Int) = l.foldl (fun n c => 10 * n + ((c.toNat : Int) - 48)) acc ∧ u < 10 ^ (k + l.length)
 | [], acc, k, _, ha, _ => ⟨acc, rfl, rfl, by simpa using ha⟩
 | c :: r, acc, k, hl, ha, hk => by
  rw [List.all_cons, Bool.and_eq_true] at hl
  obtain ⟨hc, hr⟩ := hl
  simp [digB] at hc
  simp only [List.length_cons] at hk
  have hp : (10 : Nat) ^ k ≤ 10 ^ 16 := Nat.pow_le_pow_right (by decide) (by omega)
  have hp2 : (10 : Nat) ^ 16 = 10000000000000000 := by decide
  have hnew : acc * 10 + (c.toNat - 48) < 10 ^ (k + 1) := by rw [Nat.pow_succ]; omega
  obtain ⟨u, h1, h2, h3⟩ := parse_num r (acc * 10 + (c.toNat - 48)) (k + 1) hr hnew (by omega)
  refine ⟨u, ?_, ?_, ?_⟩
  ·rw [Lib.parseUint10, if_pos (by omega), if_neg (by omega), if_neg (by omega)]
   exact h1
  ·rw [h2, List.foldl_cons]
   congr 1
   omega
  ·rw [List.length_cons]
   have e : k + (r.length + 1) = k + 1 + r.length := by omega
   rw [e]; exact h3
theorem atoi_num {l : List UInt8} (hd : l.all digB = true) (hne : l ≠ []) (hl : l.length ≤ 17) : atoiN l = numV l := by
 obtain ⟨u, h1, h2, h3⟩ := parse_num l 0 0 hd (by decide) (by omega)
 cases l with
 | nil => exact absurd rfl hne
 | cons c r =>
  rw [List.all_cons, Bool.and_eq_true] at hd
  have hc := hd.1
  simp [digB] at hc
  have hm : Lib.parseMag (c :: r) = .ok u := by rw [Lib.parseMag, if_neg (by simp)]; exact h1
  have hp : (10 : Nat) ^ (0 + (c :: r).length) ≤ 10 ^ 17 := Nat.pow_le_pow_right (by decide) (by omega)
  have hp2 : (10 : Nat) ^ 17 = 100000000000000000 := by decide
  have ha : Lib.atoiAll (c :: r) = .ok (u : Int) := by
   unfold Lib.atoiAll
   have c1 : ¬ c.toNat = 43 := by omega
   have c2 : ¬ c.toNat = 45 := by omega
   simp only [c1, c2, or_self, if_false, hm, not_false_eq_true, true_and, false_and]
   rw [if_neg (by omega)]
  unfold atoiN
  rw [ha]
  exact h2
-- what is split at points
theorem split_go : ∀ (k : Nat) (l : List UInt8), l.count 46 ≤ k → Lib.splitK [46] 0 k l = spl l
 | 0, l, h => by
  have hm : (46 : UInt8) ∉ l := by
   intro hm
   have := List.count_pos_iff.2 hm
   omega
  rw [Lib.splitK, spl_out hm]
 | k + 1, l, h => by
  rw [Lib.splitK, Lib.index_one]
  by_cases hm : (46 : UInt8) ∈ l
  ·obtain ⟨a, r, h1, rfl⟩ := first_at hm
   have hne : ((a.length : Int) == -1) = false := by rw [beq_eq_false_iff_ne]; omega
   rw [ib_in h1, hne, spl_in h1]
   simp only [Bool.false_eq_true, if_false, Int.toNat_natCast, Nat.add_zero, List.length_singleton]
   rw [List.take_left', show (a ++ 46 :: r).drop (a.length + 1) = r by simp, split_go k r]
   ·have : (a ++ 46 :: r).count 46 = r.count 46 + 1 := by
     rw [List.count_append, List.count_eq_zero_of_not_mem h1, List.count_cons_self]; omega
    omega
   ·rfl
  ·rw [ib_out hm, spl_out hm]; rfl
end Go.Proofs.YtgipehooceecpaaGreatDoorAbs
namespace Go.Proofs.YtgipehooceecpaaGreatDoorAbs
set_option linter.unusedSimpArgs false
set_option linter.unusedVariables false
open Go Go.RowKit Go.Proofs
set_option maxRecDepth 100000
set_option maxHeartbeats 400000
theorem libRow {P : Program} [Gl P] {f : FuncId} {xs vs : List Value} {e : TypeId} (hent : ∀ args w, (callFunc f args).run P w = .ok (.enter f args) w) (hv : ∀ v ∈ vs, v.oneCell' = true)
  (hc : P.cellsOf e = 1) (hne : vs ≠ []) (hmax : vs.length ≤ 1000000000)
  (h : ∀ w, Gl.ok P w → Calls P f xs.toArray w fun r w' => r = .returned (.slice (some ⟨w.heap.size, 0, none⟩) vs.length vs.length) ∧ w' = w.alloc (.cells vs.toArray e)) : CallsOK P f (xs.map .v) (.row 0 vs.length) [(e, vs.map .v)] := by
 refine ⟨rfl, hent, fun w us F hF hΓ hx => ?_⟩
 rw [all2_v hx]
 refine (h w (hΓ w (ExtC.refl _ _))).mono ?_
 rintro r w' ⟨rfl, rfl⟩
 have hb : Below w.heap.size w (w.alloc (.cells vs.toArray e)) := (Below.refl _ w).alloc (Nat.le_refl _) _
 have hcur : (w.alloc (.cells vs.toArray e)).heap[w.heap.size]? = some (.cells vs.toArray e) := World.alloc_heap_new _ _
 have hA := Rel.app (w' := w.alloc (.cells vs.toArray e)) (G := fun _ => none) (nx := 0) (e := e) (all := vs.map .v) (rel_zero hF hΓ) rfl (id := none) (b := some w.heap.size) (fun j hj => by cases hj) (fun x hx => by injection hx with hx; exact .inl (Nat.le_of_eq hx)) (Ext.of_below _ hb) (fun x hx _ => hb.block x hx)
  (fun x hx => by injection hx with hx; subst hx; exact (Array.getElem?_eq_some_iff.1 hcur).1) (fun x hx => by
   injection hx with hx; subst hx
   refine ⟨vs, hcur, by simp, fun i a u ha hu => ?_⟩
   rw [List.getElem?_map, hu] at ha
   injection ha with ha
   subst ha
   exact .v (hv u (List.mem_of_getElem? hu))) (fun h => by cases h)
 have hJ : ofJ [(e, vs.map AV.v)] = ((killId (fun _ => none) none).upd 0 (.row e (vs.map .v)) : Hp) := by
  funext i
  cases i with
  | zero => rfl
  | succ i => simp [ofJ, Hp.upd, killId]
 refine ⟨_, (En.zero F).app 0 none (some w.heap.size), rfl, ?_, by rw [hJ]; exact hA.1, rfl, hb, fun i b h => ?_⟩
 ·refine .row (show ((En.zero F).app 0 none (some w.heap.size)).K 0 from .inl rfl) rfl (fun b hb => ?_) (fun hN => ?_)
  ·simp [En.app] at hb
   subst hb
   exact ⟨vs.length, e, rfl, by omega, by simp only [maxLen]; omega, by rw [World.shape?, hcur]; simp [hc]⟩
  ·simp [En.app] at hN
 ·simp [En.app, En.zero] at h
  omega
theorem isNaN230_ok (a : Int) : CallsOK Tryz.prog 230 [iV a] (bV false) [] := by
 refine callsOK mixed Tryz.call230 Tryz.func230 rfl (by rw [Tryz.ntmps230]; simp) ?_ rfl
 rw [Tryz.ntmps230]
 with_reducible refine aR fun K' hK => ?_
 simp []
 refine hK _ _ _ ?_
 clear K' hK
 with_reducible refine aR fun K' hK => ?_
 simp []
 refine hK _ _ _ ?_
 clear K' hK
 first | with_reducible refine aw_ret ?_ | with_reducible refine aw_retL ?_ | with_reducible refine aw_skipL ?_
 simp [blockK, loopK, Post, resA, res1, expT, expA, exp1, expM, expL, okT, okA, ok1, rowOf, Tryz.f230]
theorem cmpI_ok (a b : Int) : CallsOK Tryz.prog 196 [iV a, iV b] (iV (cmpI a b)) [] := by
 refine callsOK mixed Tryz.call196 Tryz.func196 rfl (by rw [Tryz.ntmps196]; simp) ?_ rfl
 rw [Tryz.ntmps196]
 with_reducible refine aR fun K' hK => ?_
 simp []
 refine hK _ _ _ ?_
 clear K' hK
 with_reducible refine aR fun K' hK => ?_
 simp []
 refine acall_flat (isNaN230_ok a) rfl (by simp) ?_
 simp
 refine hK _ _ _ ?_
 clear K' hK
 with_reducible refine aR fun K' hK => ?_
 simp []
 refine acall_flat (isNaN230_ok b) rfl (by simp) ?_
 simp
 refine hK _ _ _ ?_
 clear K' hK
 with_reducible refine aA ?_
 with_reducible refine aR fun K' hK => ?_
 simp []
 refine hK _ _ _ ?_
 clear K' hK
 with_reducible refine aC fun A B hA hB => ?_
 simp []
 refine ⟨fun hc => hA ?_, fun hc => hB ?_⟩ <;> clear hA hB A B <;> (try (simp at hc; done)) <;> (try (exfalso; simp at hc; omega)) <;> clear hc <;> (try with_reducible refine aK ?_)
 with_reducible refine aA ?_
 with_reducible refine aR fun K' hK => ?_
 simp []
 refine hK _ _ _ ?_
 clear K' hK
 with_reducible refine aC fun A B hA hB => ?_
 simp []
 refine ⟨fun hc => hA ?_, fun hc => hB ?_⟩ <;> clear hA hB A B <;> (try (simp at hc; done)) <;> (try (exfalso; simp at hc; omega)) <;> clear hc <;> (try with_reducible refine aK ?_)
 with_reducible refine aA ?_
 with_reducible refine aR fun K' hK => ?_
 simp []
 refine hK _ _ _ ?_
 clear K' hK
 with_reducible refine aC fun A B hA hB => ?_
 simp []
 refine ⟨fun h1 => hA ?_, fun h1 => hB ?_⟩ <;> clear hA hB A B <;> (try simp at h1) <;> (try with_reducible refine aK ?_)
 ·with_reducible refine aA ?_
  with_reducible refine aR fun K' hK => ?_
  simp []
  refine hK _ _ _ ?_
  clear K' hK
  first | with_reducible refine aw_ret ?_ | with_reducible refine aw_retL ?_ | with_reducible refine aw_skipL ?_
  simp [blockK, loopK, Post, resA, res1, expT, expA, exp1, expM, expL, okT, okA, ok1, rowOf, Tryz.f196]
  simp [cmpI, h1]
 ·with_reducible refine aA ?_
  with_reducible refine aR fun K' hK => ?_
  simp []
  refine hK _ _ _ ?_
  clear K' hK
  with_reducible refine aC fun A B hA hB => ?_
  simp []
  refine ⟨fun h2 => hA ?_, fun h2 => hB ?_⟩ <;> clear hA hB A B <;> (try simp at h2) <;> (try with_reducible refine aK ?_)
  ·with_reducible refine aA ?_
   with_reducible refine aR fun K' hK => ?_
   simp []
   refine hK _ _ _ ?_
   clear K' hK
   first | with_reducible refine aw_ret ?_ | with_reducible refine aw_retL ?_ | with_reducible refine aw_skipL ?_
   simp [blockK, loopK, Post, resA, res1, expT, expA, exp1, expM, expL, okT, okA, ok1, rowOf, Tryz.f196]
   simp [cmpI, h1, h2]
  ·skip
   with_reducible refine aR fun K' hK => ?_
   simp []
   refine hK _ _ _ ?_
   clear K' hK
   first | with_reducible refine aw_ret ?_ | with_reducible refine aw_retL ?_ | with_reducible refine aw_skipL ?_
   simp [blockK, loopK, Post, resA, res1, expT, expA, exp1, expM, expL, okT, okA, ok1, rowOf, Tryz.f196]
   simp only [cmpI]; rw [if_neg (by omega), if_neg (by omega)]
theorem isNaN195_ok (a : Bs) : CallsOK Tryz.prog 195 [sV a] (bV false) [] := by
 refine callsOK mixed Tryz.call195 Tryz.func195 rfl (by rw [Tryz.ntmps195]; simp) ?_ rfl
 rw [Tryz.ntmps195]
 with_reducible refine aR fun K' hK => ?_
 simp []
 refine hK _ _ _ ?_
 clear K' hK
 with_reducible refine aR fun K' hK => ?_
 simp []
 refine hK _ _ _ ?_
 clear K' hK
 first | with_reducible refine aw_ret ?_ | with_reducible refine aw_retL ?_ | with_reducible refine aw_skipL ?_
 simp [blockK, loopK, Post, resA, res1, expT, expA, exp1, expM, expL, okT, okA, ok1, rowOf, Tryz.f195]
theorem cmpB_ok (a b : Bs) : CallsOK Tryz.prog 159 [sV a, sV b] (iV (cmpB a b)) [] := by
 refine callsOK mixed Tryz.call159 Tryz.func159 rfl (by rw [Tryz.ntmps159]; simp) ?_ rfl
 rw [Tryz.ntmps159]
 with_reducible refine aR fun K' hK => ?_
 simp []
 refine hK _ _ _ ?_
 clear K' hK
 with_reducible refine aR fun K' hK => ?_
 simp []
 refine acall_flat (isNaN195_ok a) rfl (by simp) ?_
 simp
 refine hK _ _ _ ?_
 clear K' hK
 with_reducible refine aR fun K' hK => ?_
 simp []
 refine acall_flat (isNaN195_ok b) rfl (by simp) ?_
 simp
 refine hK _ _ _ ?_
 clear K' hK
 with_reducible refine aA ?_
 with_reducible refine aR fun K' hK => ?_
 simp []
 refine hK _ _ _ ?_
 clear K' hK
 with_reducible refine aC fun A B hA hB => ?_
 simp []
 refine ⟨fun hc => hA ?_, fun hc => hB ?_⟩ <;> clear hA hB A B <;> (try (simp at hc; done)) <;> (try (exfalso; simp at hc; omega)) <;> clear hc <;> (try with_reducible refine aK ?_)
 with_reducible refine aA ?_
 with_reducible refine aR fun K' hK => ?_
 simp []
 refine hK _ _ _ ?_
 clear K' hK
 with_reducible refine aC fun A B hA hB => ?_
 simp []
 refine ⟨fun hc => hA ?_, fun hc => hB ?_⟩ <;> clear hA hB A B <;> (try (simp at hc; done)) <;> (try (exfalso; simp at hc; omega)) <;> clear hc <;> (try with_reducible refine aK ?_)
 with_reducible refine aA ?_
 with_reducible refine aR fun K' hK => ?_
 simp []
 refine hK _ _ _ ?_
 clear K' hK
 with_reducible refine aC fun A B hA hB => ?_
 simp []
 refine ⟨fun h1 => hA ?_, fun h1 => hB ?_⟩ <;> clear hA hB A B <;> (try simp at h1) <;> (try with_reducible refine aK ?_)
 ·with_reducible refine aA ?_
  with_reducible refine aR fun K' hK => ?_
  simp []
  refine hK _ _ _ ?_
  clear K' hK
  first | with_reducible refine aw_ret ?_ | with_reducible refine aw_retL ?_ | with_reducible refine aw_skipL ?_
  simp [blockK, loopK, Post, resA, res1, expT, expA, exp1, expM, expL, okT, okA, ok1, rowOf, Tryz.f159]
  simp [cmpB, h1]
 ·with_reducible refine aA ?_
  with_reducible refine aR fun K' hK => ?_
  simp []
  refine hK _ _ _ ?_
  clear K' hK
  with_reducible refine aC fun A B hA hB => ?_
  simp []
  refine ⟨fun h2 => hA ?_, fun h2 => hB ?_⟩ <;> clear hA hB A B <;> (try simp at h2) <;> (try with_reducible refine aK ?_)
  ·with_reducible refine aA ?_
   with_reducible refine aR fun K' hK => ?_
   simp []
   refine hK _ _ _ ?_
   clear K' hK
   first | with_reducible refine aw_ret ?_ | with_reducible refine aw_retL ?_ | with_reducible refine aw_skipL ?_
   simp [blockK, loopK, Post, resA, res1, expT, expA, exp1, expM, expL, okT, okA, ok1, rowOf, Tryz.f159]
   simp [cmpB, h1, h2]
  ·skip
   with_reducible refine aR fun K' hK => ?_
   simp []
   refine hK _ _ _ ?_
   clear K' hK
   first | with_reducible refine aw_ret ?_ | with_reducible refine aw_retL ?_ | with_reducible refine aw_skipL ?_
   simp [blockK, loopK, Post, resA, res1, expT, expA, exp1, expM, expL, okT, okA, ok1, rowOf, Tryz.f159]
   simp [cmpB, h1, h2]
theorem splC : ∀ (k : Nat) (l : List UInt8), l.count 46 ≤ k → (spl l).length = l.count 46 + 1 ∧ Lib.count l [46] = l.count 46
 | k, l, h => by
  by_cases hm : (46 : UInt8) ∈ l
  ·obtain ⟨a, r, h1, rfl⟩ := first_at hm
   have hc : (a ++ 46 :: r).count 46 = r.count 46 + 1 := by
    rw [List.count_append, List.count_eq_zero_of_not_mem h1, List.count_cons_self]; omega
   match k, h with
   | 0, h => omega
   | k + 1, h =>
    obtain ⟨i1, i2⟩ := splC k r (by omega)
    have hi : Lib.index (a ++ 46 :: r) [46] = a.length := by rw [Lib.index_one, ib_in h1]
    rw [Lib.count_hit (by simp) hi, spl_in h1, List.length_singleton, show (a ++ 46 :: r).drop (a.length + 1) = r by simp, i2, hc, List.length_cons, i1]
    omega
  ·have hc : l.count 46 = 0 := List.count_eq_zero_of_not_mem hm
   have hi : Lib.index l [46] = -1 := by rw [Lib.index_one, ib_out hm]
   rw [Lib.count_miss hi, spl_out hm, hc]
   simp
theorem split_ok (s : Bs) (hs : s.size ≤ 1000000) : CallsOK Tryz.prog 198 [sV s, sV ⟨#[46]⟩] (.row 0 (strs (spl (bsL s))).length) [(9, flat sC (strs (spl (bsL s))))] := by
 have e0 : (Lib.splitB ⟨#[46]⟩ 0 (Lib.countB s ⟨#[46]⟩) s).map bsL = spl (bsL s) := by
  have := Lib.splitB_data ⟨#[46]⟩ 0 (Lib.countB s ⟨#[46]⟩) s
  rw [show (fun x : ByteArray => x.data.toList) = bsL from rfl] at this
  rw [this]
  refine split_go _ _ ?_
  exact Nat.le_of_eq (splC _ _ (Nat.le_refl _)).2.symm
 have e1 : strs (spl (bsL s)) = Lib.splitB ⟨#[46]⟩ 0 (Lib.countB s ⟨#[46]⟩) s := by
  rw [← e0, strs, List.map_map]
  conv => rhs; rw [← List.map_id (Lib.splitB _ _ _ _)]
  exact List.map_congr_left fun x _ => ofL_bsL x
 have hlen : Lib.countB s ⟨#[46]⟩ + 1 = (strs (spl (bsL s))).length := by
  have h := splC _ (bsL s) (Nat.le_refl _)
  rw [strs, List.length_map, h.1]
  exact congrArg (· + 1) h.2
 have hl : (strs (spl (bsL s))).length ≤ s.size + 1 := by
  have h1 := (splC _ (bsL s) (Nat.le_refl _)).1
  have h2 := List.count_le_length (a := (46 : UInt8)) (l := bsL s)
  rw [bsL_len] at h2
  simp only [strs, List.length_map]
  omega
 have h := libRow (f := 198) (xs := [.string s, .string ⟨#[46]⟩]) (vs := (strs (spl (bsL s))).map Value.string) (e := 9) Tryz.call198 (by simp [Value.oneCell']) (by kernel_rfl) (by simp [← List.length_pos_iff]; omega) (by simp; omega) fun w hw => by
  obtain ⟨m, hm⟩ := hw.2.2.2.1
  refine (Tryz.strings_Split s ⟨#[46]⟩ m w (by omega) hm (by decide)).mono ?_
  rintro e w' ⟨rfl, rfl⟩
  rw [← e1, hlen]
  simp
 have e2 : ((strs (spl (bsL s))).map Value.string).map AV.v = flat sC (strs (spl (bsL s))) := by
  unfold flat
  generalize strs (spl (bsL s)) = L
  induction L with
  | nil => rfl
  | cons a L ih => rw [List.map_cons, List.map_cons, List.flatMap_cons, ih]; rfl
 rw [e2, List.length_map] at h
 exact h
theorem parts_ok (a b : Bs) (ha : a.size ≤ 4000000000) (hb : b.size ≤ 4000000000) : CallsOK Tryz.prog 199 [sV a, sV b] (iV (partsN a b)) [] := by
 refine callsOK mixed Tryz.call199 Tryz.func199 rfl (by rw [Tryz.ntmps199]; simp) ?_ rfl
 rw [Tryz.ntmps199]
 with_reducible refine aR fun K' hK => ?_
 simp []
 refine hK _ _ _ ?_
 clear K' hK
 with_reducible refine aR fun K' hK => ?_
 simp []
 refine acall_flat (number87_ok a ha) rfl (by simp) ?_
 simp
 refine hK _ _ _ ?_
 clear K' hK
 with_reducible refine aR fun K' hK => ?_
 simp []
 refine acall_flat (number87_ok b hb) rfl (by simp) ?_
 simp
 refine hK _ _ _ ?_
 clear K' hK
 with_reducible refine aw_block ?_
 by_cases h1 : numP (bsL a) = true
 ·by_cases h2 : numP (bsL b) = true
  ·skip
   with_reducible refine aR fun K' hK => ?_
   simp [h1, h2]
   refine hK _ _ _ ?_
   clear K' hK
   with_reducible refine aD fun A B hA hB => ?_
   simp [h1, h2]
   refine ⟨fun hc => hA ?_, fun hc => hB ?_⟩ <;> clear hA hB A B <;> (try (simp at hc; done)) <;> (try (exfalso; simp at hc; omega)) <;> clear hc <;> (try with_reducible refine aK ?_)
   with_reducible refine aA ?_
   with_reducible refine aR fun K' hK => ?_
   simp []
   refine acall_flat (cmpI_ok (atoiN (bsL a)) (atoiN (bsL b))) rfl (by simp) ?_
   simp
   refine hK _ _ _ ?_
   clear K' hK
   first | with_reducible refine aw_ret ?_ | with_reducible refine aw_retL ?_ | with_reducible refine aw_skipL ?_
   simp [blockK, loopK, Post, resA, res1, expT, expA, exp1, expM, expL, okT, okA, ok1, rowOf, Tryz.f199]
   simp [partsN, h1, h2]
  ·skip
   with_reducible refine aR fun K' hK => ?_
   simp [h1, h2]
   refine hK _ _ _ ?_
   clear K' hK
   with_reducible refine aD fun A B hA hB => ?_
   simp [h1, h2]
   refine ⟨fun hc => hA ?_, fun hc => hB ?_⟩ <;> clear hA hB A B <;> (try (simp at hc; done)) <;> (try (exfalso; simp at hc; omega)) <;> clear hc <;> (try with_reducible refine aK ?_)
   with_reducible refine aA ?_
   with_reducible refine aR fun K' hK => ?_
   simp [h1, h2]
   refine hK _ _ _ ?_
   clear K' hK
   with_reducible refine aC fun A B hA hB => ?_
   simp [h1, h2]
   refine ⟨fun hc => hA ?_, fun hc => hB ?_⟩ <;> clear hA hB A B <;> (try (simp at hc; done)) <;> (try (exfalso; simp at hc; omega)) <;> clear hc <;> (try with_reducible refine aK ?_)
   with_reducible refine aA ?_
   with_reducible refine aR fun K' hK => ?_
   simp []
   refine hK _ _ _ ?_
   clear K' hK
   first | with_reducible refine aw_ret ?_ | with_reducible refine aw_retL ?_ | with_reducible refine aw_skipL ?_
   simp [blockK, loopK, Post, resA, res1, expT, expA, exp1, expM, expL, okT, okA, ok1, rowOf, Tryz.f199]
   simp [partsN, h1, h2]
 ·by_cases h2 : numP (bsL b) = true
  ·skip
   with_reducible refine aR fun K' hK => ?_
   simp [h1, h2]
   refine hK _ _ _ ?_
   clear K' hK
   with_reducible refine aD fun A B hA hB => ?_
   simp [h1, h2]
   refine ⟨fun hc => hA ?_, fun hc => hB ?_⟩ <;> clear hA hB A B <;> (try (simp at hc; done)) <;> (try (exfalso; simp at hc; omega)) <;> clear hc <;> (try with_reducible refine aK ?_)
   with_reducible refine aA ?_
   with_reducible refine aR fun K' hK => ?_
   simp [h1, h2]
   refine hK _ _ _ ?_
   clear K' hK
   with_reducible refine aC fun A B hA hB => ?_
   simp [h1, h2]
   refine ⟨fun hc => hA ?_, fun hc => hB ?_⟩ <;> clear hA hB A B <;> (try (simp at hc; done)) <;> (try (exfalso; simp at hc; omega)) <;> clear hc <;> (try with_reducible refine aK ?_)
   with_reducible refine aA ?_
   with_reducible refine aR fun K' hK => ?_
   simp [h1, h2]
   refine hK _ _ _ ?_
   clear K' hK
   with_reducible refine aC fun A B hA hB => ?_
   simp [h1, h2]
   refine ⟨fun hc => hA ?_, fun hc => hB ?_⟩ <;> clear hA hB A B <;> (try (simp at hc; done)) <;> (try (exfalso; simp at hc; omega)) <;> clear hc <;> (try with_reducible refine aK ?_)
   with_reducible refine aA ?_
   with_reducible refine aR fun K' hK => ?_
   simp []
   refine hK _ _ _ ?_
   clear K' hK
   first | with_reducible refine aw_ret ?_ | with_reducible refine aw_retL ?_ | with_reducible refine aw_skipL ?_
   simp [blockK, loopK, Post, resA, res1, expT, expA, exp1, expM, expL, okT, okA, ok1, rowOf, Tryz.f199]
   simp [partsN, h1, h2]
  ·skip
   with_reducible refine aR fun K' hK => ?_
   simp [h1, h2]
   refine hK _ _ _ ?_
   clear K' hK
   with_reducible refine aD fun A B hA hB => ?_
   simp [h1, h2]
   refine ⟨fun hc => hA ?_, fun hc => hB ?_⟩ <;> clear hA hB A B <;> (try (simp at hc; done)) <;> (try (exfalso; simp at hc; omega)) <;> clear hc <;> (try with_reducible refine aK ?_)
   with_reducible refine aA ?_
   with_reducible refine aR fun K' hK => ?_
   simp [h1, h2]
   refine hK _ _ _ ?_
   clear K' hK
   with_reducible refine aC fun A B hA hB => ?_
   simp [h1, h2]
   refine ⟨fun hc => hA ?_, fun hc => hB ?_⟩ <;> clear hA hB A B <;> (try (simp at hc; done)) <;> (try (exfalso; simp at hc; omega)) <;> clear hc <;> (try with_reducible refine aK ?_)
   with_reducible refine aA ?_
   with_reducible refine aR fun K' hK => ?_
   simp [h1, h2]
   refine hK _ _ _ ?_
   clear K' hK
   with_reducible refine aC fun A B hA hB => ?_
   simp [h1, h2]
   refine ⟨fun hc => hA ?_, fun hc => hB ?_⟩ <;> clear hA hB A B <;> (try (simp at hc; done)) <;> (try (exfalso; simp at hc; omega)) <;> clear hc <;> (try with_reducible refine aK ?_)
   with_reducible refine aw_skipL ?_
   refine blockK_normal ?_
   with_reducible refine aR fun K' hK => ?_
   simp []
   refine acall_flat (cmpB_ok a b) rfl (by simp) ?_
   simp
   refine hK _ _ _ ?_
   clear K' hK
   first | with_reducible refine aw_ret ?_ | with_reducible refine aw_retL ?_ | with_reducible refine aw_skipL ?_
   simp [blockK, loopK, Post, resA, res1, expT, expA, exp1, expM, expL, okT, okA, ok1, rowOf, Tryz.f199]
   simp [partsN, h1, h2]
end Go.Proofs.YtgipehooceecpaaGreatDoorAbs
