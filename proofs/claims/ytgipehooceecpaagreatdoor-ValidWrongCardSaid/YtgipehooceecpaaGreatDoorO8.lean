/- span.right, span.Holds. -/
import Derived.Test.YtgipehooceecpaaGreatDoorO7
import Derived.Test.YtgipehooceecpaaGreatDoorO4
import Derived.Lib.Split
namespace Go.Proofs.YtgipehooceecpaaGreatDoorAbs
set_option linter.unusedSimpArgs false
set_option linter.unusedVariables false
open Go Go.RowKit Go.Proofs
set_option maxHeartbeats 400000
def rkN (t : List Pl) (i : Int) (j : Nat) : Nat := (keptN t i j).length
section
variable {t : List Pl} {i : Int}
theorem rk_succ {k : Nat} : rkN t i (k + 1) = rkN t i k + if underF t k i = true then 0 else 1 := by
 unfold rkN
 rw [kept_succ, List.length_append]
 split <;> rfl
theorem rk_add {a : Nat} : ∀ d : Nat, rkN t i a ≤ rkN t i (a + d) ∧ rkN t i (a + d) ≤ rkN t i a + d
 | 0 => ⟨Nat.le_refl _, Nat.le_refl _⟩
 | d + 1 => by
  have := rk_add (a := a) d
  rw [← Nat.add_assoc, rk_succ]
  split <;> omega
theorem rk_mono {j k : Nat} (h : j ≤ k) : rkN t i j ≤ rkN t i k := by
 have := (rk_add (t := t) (i := i) (a := j) (k - j)).1
 rwa [Nat.add_sub_cancel' h] at this
theorem rk_lt {j k : Nat} (hu : underF t j i = false) (h : j < k) : rkN t i j < rkN t i k := by
 have h1 := rk_mono (t := t) (i := i) (j := j + 1) (k := k) (by omega)
 rw [rk_succ, hu] at h1
 simp at h1; omega
theorem kept_get : ∀ (m : Nat) {j : Nat}, j < m → underF t j i = false → (keptN t i m)[rkN t i j]? = some j
 | 0, j, h, _ => by omega
 | m + 1, j, h, hu => by
  rw [kept_succ]
  rcases Nat.lt_or_ge j m with h1 | h1
  ·rw [List.getElem?_append_left (rk_lt hu h1)]
   exact kept_get m h1 hu
  ·have : j = m := by omega
   subst this
   rw [hu, List.getElem?_append_right (show (keptN t i j).length ≤ rkN t i j from Nat.le_refl _)]
   simp [rkN]
theorem mem_up (g : Good t) : ∀ (m : Nat) {j x : Nat}, j < m → j < t.length → x ∈ upN t j → x ≤ j
 | 0, j, x, h, _, _ => by omega
 | m + 1, j, x, h, hj, hx => by
  have hd := g.dn j hj
  rw [up_step g.dn hj] at hx
  rcases List.mem_cons.1 hx with rfl | hx
  ·exact Nat.le_refl _
  ·split at hx
   ·cases hx
   ·have := mem_up g m (j := (parN t j).toNat) (by omega) (by omega) hx
    omega
theorem under_ge (g : Good t) {j : Nat} (hj : j < t.length) (h : underF t j i = true) : i ≤ j := by
 unfold underF at h
 obtain ⟨x, hx, h⟩ := List.any_eq_true.1 h
 have := mem_up g _ (Nat.lt_succ_self j) hj hx
 have := of_decide_eq_true h
 omega
theorem under_self (g : Good t) {j : Nat} (hj : j < t.length) : underF t j j = true := by
 rw [under_step g.dn hj]; simp
end
set_option linter.unusedSectionVars false
section
variable {t : List Pl} {i : Int} (g : Good t) (h1 : 1 ≤ i) (h2 : i < t.length)
include g h1 h2
end
-- paths
section
variable {t : List Pl}
end
-- what is added, and cut, is the tree as it was
set_option maxHeartbeats 400000
theorem bsL_empty : bsL ⟨#[]⟩ = [] := rfl
theorem by8_get {l : List UInt8} {i : Nat} (h : i < l.length) : by8 l i = l[i] := by
 simp [by8, List.getD_eq_getElem?_getD, h]
-- cuts at a byte
theorem ib_in : ∀ {a r : List UInt8} {c : UInt8}, c ∉ a → Lib.indexByte (a ++ c :: r) c = a.length
 | [], r, c, _ => by simp [Lib.indexByte]
 | b :: a, r, c, h => by
  have h1 : (b == c) = false := by
   simpa using fun e => h (by simp [e])
  have h2 := ib_in (a := a) (r := r) (c := c) (fun e => h (List.mem_cons_of_mem _ e))
  rw [List.cons_append, Lib.indexByte, h1, h2]
  have h3 : ((a.length : Int) == -1) = false := by
   rw [beq_eq_false_iff_ne]; omega
  simp [h3]
theorem ib_out : ∀ {a : List UInt8} {c : UInt8}, c ∉ a → Lib.indexByte a c = -1
 | [], c, _ => rfl
 | b :: a, c, h => by
  have h1 : (b == c) = false := by
   simpa using fun e => h (by simp [e])
  rw [Lib.indexByte, h1, ib_out (a := a) (fun e => h (List.mem_cons_of_mem _ e))]
  simp
theorem cut_in {a r : List UInt8} {c : UInt8} (h : c ∉ a) : Lib.cut (a ++ c :: r) [c] = (a, r, true) := by
 unfold Lib.cut
 rw [Lib.index_one, ib_in h, if_pos (by omega)]
 simp
theorem cut_out {a : List UInt8} {c : UInt8} (h : c ∉ a) : Lib.cut a [c] = (a, [], false) := by
 unfold Lib.cut
 rw [Lib.index_one, ib_out h, if_neg (by omega)]
theorem first_at : ∀ {l : List UInt8} {c : UInt8}, c ∈ l → ∃ a r, c ∉ a ∧ l = a ++ c :: r
 | [], c, h => by cases h
 | b :: l, c, h => by
  by_cases hb : c = b
  ·exact ⟨[], l, by simp, by simp [hb]⟩
  ·obtain ⟨a, r, h1, h2⟩ := first_at (l := l) (c := c) (by simpa [hb] using h)
   exact ⟨b :: a, r, by simp [hb, h1], by simp [h2]⟩
theorem cut_spec (l : List UInt8) (c : UInt8) : (c ∉ l ∧ Lib.cut l [c] = (l, [], false)) ∨ (∃ a r, c ∉ a ∧ l = a ++ c :: r ∧ Lib.cut l [c] = (a, r, true)) := by
 by_cases h : c ∈ l
 ·obtain ⟨a, r, h1, h2⟩ := first_at h
  exact .inr ⟨a, r, h1, h2, by rw [h2, cut_in h1]⟩
 ·exact .inl ⟨h, cut_out h⟩
theorem trim_in {p r : List UInt8} : Lib.trimPrefix (p ++ r) p = r := by
 have : Lib.hasPrefix (p ++ r) p = true := List.isPrefixOf_iff_prefix.2 ⟨r, rfl⟩
 unfold Lib.trimPrefix
 rw [this]; simp
-- names
-- joined
def joinB (l : List Bs) : List UInt8 := Lib.join (l.map fun b => bsL (preB b)) [47]
open Go Go.RowKit
section
variable {P : Program} [Gl P] {N : Nat} {K : Exit → KS} {s : Sl} {G : Hp} {nx : Nat}
theorem aw_un {a b c : Code} (h : AW P N (.seq (.seq a b) c) K s G nx) : AW P N (.seq a (.seq b c)) K s G nx := by
 have e : AW P N (.seq (.seq a b) c) K = AW P N (.seq a (.seq b c)) K := by
  show AW P N a _ = AW P N a _
  congr 1
  funext e
  cases e <;> rfl
 rw [← e]; exact h
theorem aops_app {ops : Array Oper} {d : Bool} {K : KS} : ∀ (a b : List Oper), AOps P N ops d (a ++ b) K = AOps P N ops d a (AOps P N ops d b K)
 | [], b => rfl
 | o :: a, b => by
  show AStep P N ops d o (AOps P N ops d (a ++ b) K) = AStep P N ops d o (AOps P N ops d a (AOps P N ops d b K))
  rw [aops_app a b]
theorem aops_part {ops : Array Oper} {d : Bool} {K : KS} {os : List Oper} (j : Nat) (h : ∀ K2 : KS, (∀ s G nx, AOps P N ops d (os.drop j) K s G nx → K2 s G nx) → AOps P N ops d (os.take j) K2 s G nx) : AOps P N ops d os K s G nx := by
 have := h _ fun _ _ _ h => h
 rw [← aops_app, List.take_append_drop] at this
 exact this
end
set_option maxRecDepth 100000
set_option maxHeartbeats 1000000
theorem c34 : Tryz.prog.cellsOf 58 = 6 := by kernel_rfl
theorem frz_new {G : Hp} {r n : Nat} {t : List Pl} (hG : G r = some (.row 58 (flat Pl.cells t))) (hne : t ≠ []) : frzOf G (.row r n) = G.upd r (.frz 58 (flat Pl.cells t)) := by
 cases t with
 | nil => exact absurd rfl hne
 | cons p t => rw [frzOf_row, hG]; rfl
theorem frz_old {G : Hp} {r n : Nat} {e : Nat} {cs : List AV} (hG : G r = some (.frz e cs)) : frzOf G (.row r n) = G := by
 rw [frzOf_row, hG]
theorem filter_both {α : Type} (p : α → Bool) : ∀ l : List α, (l.filter p).length + (l.filter fun x => !p x).length = l.length
 | [] => rfl
 | a :: l => by
  have := filter_both p l
  cases h : p a <;> simp [h] <;> omega
theorem below_kept {t : List Pl} {i : Nat} (g : Good t) (hi : i < t.length) : (belowL t i).length + rkN t i t.length = t.length := by
 have hh : holdsF t i = true := holds_iff.2 ⟨g, by omega, by omega⟩
 rw [belowL, hh, if_pos rfl, Int.toNat_natCast]
 unfold belowK rkN keptN
 rw [List.length_map]
 have e : (List.range t.length).filter (fun j => decide (i ≤ j) && underF t j i) = (List.range t.length).filter (fun j => underF t j i) := by
  refine List.filter_congr fun j hj => ?_
  have hj := List.mem_range.1 hj
  cases hu : underF t j i with
  | false => simp
  | true => have := under_ge g hj hu; simp; omega
 rw [e]
 have := filter_both (fun j => underF t j i) (List.range t.length)
 rw [List.length_range] at this
 exact this
theorem below_mem {t : List Pl} {i k : Nat} (g : Good t) (hi : i < t.length) (hk : k < t.length) : (belowL t i).any (fun x => decide (x = (k : Int))) = underF t k i := by
 have hh : holdsF t i = true := holds_iff.2 ⟨g, by omega, by omega⟩
 rw [belowL, hh, if_pos rfl, Int.toNat_natCast]
 unfold belowK
 rw [Bool.eq_iff_iff, List.any_eq_true]
 constructor
 ·rintro ⟨x, hx, h⟩
  obtain ⟨j, hj, rfl⟩ := List.mem_map.1 hx
  have h := of_decide_eq_true h
  have : j = k := by omega
  subst this
  have := (List.mem_filter.1 hj).2
  simp at this
  exact this.2
 ·intro hu
  have := under_ge g hk hu
  exact ⟨k, List.mem_map.2 ⟨k, List.mem_filter.2 ⟨List.mem_range.2 hk, by simp [hu]; omega⟩, rfl⟩, by simp⟩
set_option maxRecDepth 100000
set_option maxHeartbeats 1000000
theorem ib_at {l : List UInt8} {c : UInt8} {i : Nat} (h : i < l.length) (hc : by8 l i = c) (hn : ∀ j, j < i → by8 l j ≠ c) : Lib.indexByte l c = i := by
 have e : l = l.take i ++ c :: l.drop (i + 1) := by
  rw [← hc, by8_get h, List.getElem_cons_drop]; simp
 have hm : c ∉ l.take i := by
  intro hm
  obtain ⟨j, hj, he⟩ := List.mem_iff_getElem.1 hm
  rw [List.length_take] at hj
  rw [List.getElem_take] at he
  exact hn j (by omega) (by rw [by8_get (by omega), he])
 rw [e, ib_in hm, List.length_take]
 omega
theorem ib_no {l : List UInt8} {c : UInt8} (hn : ∀ j, j < l.length → by8 l j ≠ c) : Lib.indexByte l c = -1 := by
 refine ib_out fun hm => ?_
 obtain ⟨j, hj, he⟩ := List.mem_iff_getElem.1 hm
 exact hn j hj (by rw [by8_get hj, he])
theorem u8_of {c : UInt8} {n : Nat} (h : (c.toNat : Int) = n) (hn : n < 256) : c = UInt8.ofNat n := by
 apply UInt8.toNat_inj.1
 rw [UInt8.toNat_ofNat_of_lt' (by simpa using hn)]
 omega
theorem slash55_ok (s : Bs) (hs : s.size ≤ 4611686018427387904) : CallsOK Tryz.prog 200 [sV s] (iV (Lib.indexByte (bsL s) 47)) [] := by
 refine callsOK mixed Tryz.call200 Tryz.func200 rfl (by rw [Tryz.ntmps200]; simp) ?_ rfl
 rw [Tryz.ntmps200]
 have hl : (bsL s).length = s.size := bsL_len s
 with_reducible refine aR fun K' hK => ?_
 simp
 refine hK _ _ _ ?_; clear K' hK
 with_reducible refine aA ?_
 with_reducible refine aR fun K' hK => ?_
 simp
 refine hK _ _ _ ?_; clear K' hK
 with_reducible refine aw_block ?_
 refine aw_loop (fun t G nx => t 0 = sV s ∧ ∃ i : Nat, t 3 = iV i ∧ i ≤ s.size ∧ ∀ j, j < i → by8 (bsL s) j ≠ 47) (fun s' _ _ => match s' 3 with | .v (.int _ n) => s.size - n.toNat | _ => 0) ?_ ?_
 ·exact ⟨by simp, 0, by simp, by omega, fun j hj => by omega⟩
 ·rintro t G nx - ⟨t0, i, t3, hi, hn⟩
  have hw : IntKind.i64.wrap (↑i + 1) = ((i + 1 : Nat) : Int) := wrapS (by omega)
  with_reducible refine aA ?_
  with_reducible refine aR fun K' hK => ?_
  simp [t0, t3]
  refine hK _ _ _ ?_; clear K' hK
  with_reducible refine aC fun A B hA hB => ?_
  simp
  refine ⟨fun hi2 => hA ?_, fun hi2 => hB ?_⟩ <;> clear hA hB A B <;> (try simp at hi2) <;> (try with_reducible refine aK ?_)
  ·skip
   with_reducible refine aw_block ?_
   have hcc : byteA s i = by8 (bsL s) i := rfl
   generalize hc : by8 (bsL s) i = c at hcc
   by_cases a1 : (c.toNat : Int) = 47
   ·have hc47 : c = 47 := u8_of (n := 47) a1 (by decide)
    with_reducible refine aR fun K' hK => ?_
    simp [t0, t3, hi2, hcc, a1]
    refine hK _ _ _ ?_; clear K' hK
    with_reducible refine aU (by simp) ?_
    with_reducible refine aA ?_
    with_reducible refine aR fun K' hK => ?_
    simp [t3]
    refine hK _ _ _ ?_; clear K' hK
    with_reducible refine aw_ret ?_
    simp [blockK, loopK, Post, resA, res1, expT, expA, exp1, expM, expL, okT, okA, ok1, rowOf, Tryz.f200]
    exact (ib_at (by omega) (by rw [hc, hc47]) hn).symm
   ·skip
    with_reducible refine aR fun K' hK => ?_
    simp [t0, t3, hi2, hcc, a1]
    refine hK _ _ _ ?_; clear K' hK
    with_reducible refine aVk (by simp) ?_
    with_reducible refine aw_skipL ?_
    refine blockK_normal ?_
    with_reducible refine aS fun K' hK => ?_
    simp [t3, hw]
    refine hK _ _ _ ?_; clear K' hK
    refine aw_skipL (loopK_normal ?_ ?_)
    ·refine ⟨by simp [t0], i + 1, by simp [hw], by omega, fun j hj => ?_⟩
     rcases Nat.lt_or_ge j i with h | h
     ·exact hn j h
     ·have : j = i := by omega
      subst this
      rw [hc]
      intro h
      exact a1 (by rw [h]; rfl)
    ·simp [t3, hw]; omega
  ·skip
   with_reducible refine aw_exit ?_
   refine loopK_exit (blockK_exit ?_)
   with_reducible refine aR fun K' hK => ?_
   simp
   refine hK _ _ _ ?_; clear K' hK
   with_reducible refine aw_retL ?_
   simp [blockK, loopK, Post, resA, res1, expT, expA, exp1, expM, expL, okT, okA, ok1, rowOf, Tryz.f200]
   exact (ib_no fun j hj => hn j (by omega)).symm
theorem plain56_ok (s : Bs) (hs : s.size ≤ 4611686018427387904) : CallsOK Tryz.prog 201 [sV s] (bV (plainF (bsL s))) [] := by
 refine callsOK mixed Tryz.call201 Tryz.func201 rfl (by rw [Tryz.ntmps201]; simp) ?_ rfl
 rw [Tryz.ntmps201]
 have hl : (bsL s).length = s.size := bsL_len s
 with_reducible refine aR fun K' hK => ?_
 simp
 refine hK _ _ _ ?_; clear K' hK
 with_reducible refine aA ?_
 with_reducible refine aR fun K' hK => ?_
 simp
 refine hK _ _ _ ?_; clear K' hK
 with_reducible refine aw_block ?_
 refine aw_loop (fun t G nx => t 0 = sV s ∧ ∃ i : Nat, t 3 = iV i ∧ i ≤ s.size ∧ (List.range i).all (plAt (bsL s)) = true) (fun s' _ _ => match s' 3 with | .v (.int _ n) => s.size - n.toNat | _ => 0) ?_ ?_
 ·exact ⟨by simp, 0, by simp, by omega, by simp⟩
 ·rintro t G nx - ⟨t0, i, t3, hi, ht⟩
  have hw : IntKind.i64.wrap (↑i + 1) = ((i + 1 : Nat) : Int) := wrapS (by omega)
  with_reducible refine aA ?_
  with_reducible refine aR fun K' hK => ?_
  simp [t0, t3]
  refine hK _ _ _ ?_; clear K' hK
  with_reducible refine aC fun A B hA hB => ?_
  simp
  refine ⟨fun hi2 => hA ?_, fun hi2 => hB ?_⟩ <;> clear hA hB A B <;> (try simp at hi2) <;> (try with_reducible refine aK ?_)
  ·skip
   with_reducible refine aw_block ?_
   have hcc : byteA s i = by8 (bsL s) i := rfl
   generalize hc : by8 (bsL s) i = c at hcc
   with_reducible refine aR fun K' hK => ?_
   simp [t0, t3, hi2, hcc]
   refine hK _ _ _ ?_; clear K' hK
   refine aw_cut (fun t' G' nx' => t' 0 = sV s ∧ t' 3 = iV i ∧ t' 4 = .v (.int .u8 c.toNat) ∧ t' 5 = bV (wordB c)) ?_ ?_
   ·by_cases a1 : (97 : Int) ≤ (c.toNat : Int)
    ·by_cases a2 : (c.toNat : Int) ≤ 122
     ·skip
      with_reducible refine aS fun K' hK => ?_
      simp [a1, a2]
      refine hK _ _ _ ?_; clear K' hK
      with_reducible refine aw_end ?_
      simp [t0, t3, wordB, a1, a2]
     ·have a3 : ¬ (c.toNat : Int) ≤ 57 := by omega
      by_cases a4 : (48 : Int) ≤ (c.toNat : Int)
      ·skip
       with_reducible refine aS fun K' hK => ?_
       simp [a1, a2, a3, a4]
       refine hK _ _ _ ?_; clear K' hK
       with_reducible refine aw_end ?_
       simp [t0, t3, wordB, a1, a2, a3]
      ·omega
    ·by_cases a4 : (48 : Int) ≤ (c.toNat : Int)
     ·by_cases a3 : (c.toNat : Int) ≤ 57
      ·skip
       with_reducible refine aS fun K' hK => ?_
       simp [a1, a3, a4]
       refine hK _ _ _ ?_; clear K' hK
       with_reducible refine aw_end ?_
       simp [t0, t3, wordB, a1, a3, a4]
      ·skip
       with_reducible refine aS fun K' hK => ?_
       simp [a1, a3, a4]
       refine hK _ _ _ ?_; clear K' hK
       with_reducible refine aw_end ?_
       simp [t0, t3, wordB, a1, a3]
     ·skip
      with_reducible refine aS fun K' hK => ?_
      simp [a1, a4]
      refine hK _ _ _ ?_; clear K' hK
      with_reducible refine aw_end ?_
      simp [t0, t3, wordB, a1, a4]
   rintro u G' nx' ⟨u0, u3, u4, u5⟩
   have hbad : plAt (bsL s) i = false → plainF (bsL s) = false := fun h => by
    rw [plainF, range_false (i := i) (n := (bsL s).length) (by omega) h]; rfl
   have hgo : ∀ (h : plAt (bsL s) i = true), (List.range (i + 1)).all (plAt (bsL s)) = true := fun h => by rw [range_all, ht, h]; rfl
   cases hwd : wordB c with
   | true =>
    rw [hwd] at u5
    with_reducible refine aR fun K' hK => ?_
    simp [u5]
    refine hK _ _ _ ?_; clear K' hK
    with_reducible refine aVk (by simp) ?_
    with_reducible refine aw_skipL ?_
    refine blockK_normal ?_
    with_reducible refine aS fun K' hK => ?_
    simp [u3, hw]
    refine hK _ _ _ ?_; clear K' hK
    refine aw_skipL (loopK_normal ?_ ?_)
    ·exact ⟨by simp [u0], i + 1, by simp [hw], by omega, hgo (by simp [plAt, hc, hwd])⟩
    ·simp [t3, hw]; omega
   | false =>
    rw [hwd] at u5
    by_cases hi0 : i = 0
    ·skip
     with_reducible refine aR fun K' hK => ?_
     simp [u3, u5, hi0]
     refine hK _ _ _ ?_; clear K' hK
     with_reducible refine aU (by simp) ?_
     with_reducible refine aA ?_
     with_reducible refine aR fun K' hK => ?_
     simp
     refine hK _ _ _ ?_; clear K' hK
     with_reducible refine aw_ret ?_
     simp [blockK, loopK, Post, resA, res1, expT, expA, exp1, expM, expL, okT, okA, ok1, rowOf, Tryz.f201]
     exact hbad (by subst hi0; simp [plAt, hc, hwd])
    ·by_cases b1 : (c.toNat : Int) = 45
     ·have h45 : c = 45 := u8_of (n := 45) b1 (by decide)
      with_reducible refine aR fun K' hK => ?_
      simp [u3, u4, u5, hi0, b1]
      refine hK _ _ _ ?_; clear K' hK
      with_reducible refine aVk (by simp) ?_
      with_reducible refine aw_skipL ?_
      refine blockK_normal ?_
      with_reducible refine aS fun K' hK => ?_
      simp [u3, hw]
      refine hK _ _ _ ?_; clear K' hK
      refine aw_skipL (loopK_normal ?_ ?_)
      ·exact ⟨by simp [u0], i + 1, by simp [hw], by omega, hgo (by simp [plAt, hc, hi0, sepB, h45])⟩
      ·simp [t3, hw]; omega
     ·by_cases b2 : (c.toNat : Int) = 95
      ·have h95 : c = 95 := u8_of (n := 95) b2 (by decide)
       with_reducible refine aR fun K' hK => ?_
       simp [u3, u4, u5, hi0, b1, b2]
       refine hK _ _ _ ?_; clear K' hK
       with_reducible refine aVk (by simp) ?_
       with_reducible refine aw_skipL ?_
       refine blockK_normal ?_
       with_reducible refine aS fun K' hK => ?_
       simp [u3, hw]
       refine hK _ _ _ ?_; clear K' hK
       refine aw_skipL (loopK_normal ?_ ?_)
       ·exact ⟨by simp [u0], i + 1, by simp [hw], by omega, hgo (by simp [plAt, hc, hi0, sepB, h95])⟩
       ·simp [t3, hw]; omega
      ·by_cases b3 : (c.toNat : Int) = 46
       ·have h46 : c = 46 := u8_of (n := 46) b3 (by decide)
        with_reducible refine aR fun K' hK => ?_
        simp [u3, u4, u5, hi0, b1, b2, b3]
        refine hK _ _ _ ?_; clear K' hK
        with_reducible refine aVk (by simp) ?_
        with_reducible refine aw_skipL ?_
        refine blockK_normal ?_
        with_reducible refine aS fun K' hK => ?_
        simp [u3, hw]
        refine hK _ _ _ ?_; clear K' hK
        refine aw_skipL (loopK_normal ?_ ?_)
        ·exact ⟨by simp [u0], i + 1, by simp [hw], by omega, hgo (by simp [plAt, hc, hi0, sepB, h46])⟩
        ·simp [t3, hw]; omega
       ·skip
        with_reducible refine aR fun K' hK => ?_
        simp [u3, u4, u5, hi0, b1, b2, b3]
        refine hK _ _ _ ?_; clear K' hK
        with_reducible refine aU (by simp) ?_
        with_reducible refine aA ?_
        with_reducible refine aR fun K' hK => ?_
        simp
        refine hK _ _ _ ?_; clear K' hK
        with_reducible refine aw_ret ?_
        simp [blockK, loopK, Post, resA, res1, expT, expA, exp1, expM, expL, okT, okA, ok1, rowOf, Tryz.f201]
        refine hbad ?_
        have h1 : ¬ c = 45 := fun h => b1 (by rw [h]; rfl)
        have h2 : ¬ c = 95 := fun h => b2 (by rw [h]; rfl)
        have h3 : ¬ c = 46 := fun h => b3 (by rw [h]; rfl)
        simp [plAt, hc, hwd, sepB, h1, h2, h3]
  ·skip
   with_reducible refine aw_exit ?_
   refine loopK_exit (blockK_exit ?_)
   with_reducible refine aR fun K' hK => ?_
   simp [t0]
   refine hK _ _ _ ?_; clear K' hK
   with_reducible refine aw_retL ?_
   simp [blockK, loopK, Post, resA, res1, expT, expA, exp1, expM, expL, okT, okA, ok1, rowOf, Tryz.f201]
   have : i = (bsL s).length := by omega
   subst this
   rw [plainF, ht, Bool.true_and]
   simp [empty_iff]
theorem bsL_ext (s : Bs) (a b : Nat) : bsL (s.extract a b) = ((bsL s).take b).drop a := by
 rw [← toL_bsL, Lib.extract_toList, List.drop_take]
 rfl
theorem good36_ok (s : Bs) (hs : s.size ≤ 4611686018427387904) : CallsOK Tryz.prog 163 [sV s] (bV (goodF (bsL s))) [] := by
 refine callsOK mixed Tryz.call163 Tryz.func163 rfl (by rw [Tryz.ntmps163]; simp) ?_ rfl
 rw [Tryz.ntmps163]
 have hl : (bsL s).length = s.size := bsL_len s
 with_reducible refine aR fun K' hK => ?_
 simp
 refine hK _ _ _ ?_; clear K' hK
 by_cases h40 : (40 : Int) < s.size
 ·with_reducible refine aA ?_
  with_reducible refine aR fun K' hK => ?_
  simp [h40]
  refine hK _ _ _ ?_; clear K' hK
  with_reducible refine aX (by simp) ?_
  with_reducible refine aA ?_
  with_reducible refine aR fun K' hK => ?_
  simp
  refine hK _ _ _ ?_; clear K' hK
  with_reducible refine aw_ret ?_
  simp [blockK, loopK, Post, resA, res1, expT, expA, exp1, expM, expL, okT, okA, ok1, rowOf, Tryz.f163]
  rw [goodF, if_pos (.inl (by omega))]
 ·by_cases hnm : s = ⟨#[110, 111, 100, 101, 95, 109, 111, 100, 117, 108, 101, 115]⟩
  ·with_reducible refine aA ?_
   with_reducible refine aR fun K' hK => ?_
   simp [h40, hnm]
   refine hK _ _ _ ?_; clear K' hK
   with_reducible refine aX (by simp) ?_
   with_reducible refine aA ?_
   with_reducible refine aR fun K' hK => ?_
   simp
   refine hK _ _ _ ?_; clear K' hK
   with_reducible refine aw_ret ?_
   simp [blockK, loopK, Post, resA, res1, expT, expA, exp1, expM, expL, okT, okA, ok1, rowOf, Tryz.f163]
   rw [goodF, if_pos (.inr (by rw [hnm]; rfl))]
  ·have hnl : ¬ (40 < (bsL s).length ∨ bsL s = nodeL) := by
    rintro (h | h)
    ·omega
    ·exact hnm (bsL_inj h)
   with_reducible refine aA ?_
   with_reducible refine aR fun K' hK => ?_
   simp [h40, hnm]
   refine hK _ _ _ ?_; clear K' hK
   with_reducible refine aYk (by simp) ?_
   with_reducible refine aR fun K' hK => ?_
   simp
   refine acall_flat (slash55_ok s hs) rfl (by first | rfl | (simp; done) | (simp; rfl) | (simp; exact ⟨rfl, rfl⟩)) ?_
   simp
   refine hK _ _ _ ?_; clear K' hK
   by_cases he : s = ⟨#[]⟩
   ·with_reducible refine aA ?_
    with_reducible refine aR fun K' hK => ?_
    simp [he]
    refine hK _ _ _ ?_; clear K' hK
    with_reducible refine aX (by simp) ?_
    with_reducible refine aA ?_
    with_reducible refine aR fun K' hK => ?_
    simp
    refine acall_flat (plain56_ok ⟨#[]⟩ (by decide)) rfl (by first | rfl | (simp; done) | (simp; rfl) | (simp; exact ⟨rfl, rfl⟩)) ?_
    simp
    refine hK _ _ _ ?_; clear K' hK
    with_reducible refine aw_ret ?_
    simp [blockK, loopK, Post, resA, res1, expT, expA, exp1, expM, expL, okT, okA, ok1, rowOf, Tryz.f163]
    rw [he]; decide +kernel
   ·have hpos : 0 < s.size := by
     rcases Nat.eq_zero_or_pos s.size with h | h
     ·exact absurd ((empty_iff s).2 (List.eq_nil_of_length_eq_zero (by omega))) he
     ·exact h
    have hcc : byteA s 0 = by8 (bsL s) 0 := rfl
    obtain ⟨b, r, hL⟩ : ∃ b r, bsL s = b :: r := List.exists_cons_of_ne_nil (List.ne_nil_of_length_pos (by omega))
    ·skip
     have hb : by8 (bsL s) 0 = b := by rw [hL]; rfl
     rw [hb] at hcc
     by_cases h64 : (b.toNat : Int) = 64
     ·have hb64 : b = 64 := u8_of (n := 64) h64 (by decide)
      subst hb64
      with_reducible refine aA ?_
      with_reducible refine aR fun K' hK => ?_
      simp [he, hpos, hcc, h64]
      refine hK _ _ _ ?_; clear K' hK
      with_reducible refine aYk (by simp) ?_
      have hgd : goodF (64 :: r) = ((Lib.cut r [47]).2.2 && (plainF (Lib.cut r [47]).1 && plainF (Lib.cut r [47]).2.1)) := by
       rw [goodF, if_neg (by rw [← hL]; exact hnl), if_neg (by simp [Lib.hasPrefix, List.isPrefixOf])]
       rw [show Lib.trimPrefix (64 :: r) [64] = r from trim_in (p := [64])]
      rcases cut_spec r 47 with ⟨hno, hc⟩ | ⟨x, y, hx, hr, hc⟩
      ·have hk : Lib.indexByte (bsL s) 47 = -1 := by rw [hL]; exact ib_out (by simp [hno])
       with_reducible refine aR fun K' hK => ?_
       simp [hk]
       refine hK _ _ _ ?_; clear K' hK
       with_reducible refine aw_retL ?_
       simp [blockK, loopK, Post, resA, res1, expT, expA, exp1, expM, expL, okT, okA, ok1, rowOf, Tryz.f163]
       rw [hL, hgd, hc]; simp
      ·have hk : Lib.indexByte (bsL s) 47 = (x.length + 1 : Nat) := by
        rw [hL, hr]
        exact ib_in (a := 64 :: x) (by simp [hx])
       have e1 : bsL (s.extract 1 (x.length + 1)) = x := by rw [bsL_ext, hL, hr]; simp
       have e2 : bsL (s.extract (x.length + 1 + 1) s.size) = y := by
        rw [bsL_ext, ← hl, List.take_length, hL, hr]; simp
       have hsz : x.length + 1 + 1 ≤ s.size := by rw [← hl, hL, hr]; simp
       have hw1 : IntKind.i64.wrap ((x.length : Int) + 1 + 1) = ((x.length + 1 + 1 : Nat) : Int) := by rw [wrap64 (by omega) (by omega)]; omega
       have p1 := plain56_ok (s.extract 1 (x.length + 1)) (by rw [← bsL_len, e1]; omega)
       have p2 := plain56_ok (s.extract (x.length + 1 + 1) s.size) (by rw [← bsL_len, e2]; rw [hL, hr] at hl; simp at hl; omega)
       rw [e1] at p1
       rw [e2] at p2
       have a1 : (0 : Int) < ((x.length + 1 : Nat) : Int) := by omega
       have b1 : (0 : Int) ≤ (x.length : Int) + 1 := by omega
       have b2 : x.length + 1 ≤ s.size := by omega
       have b3 : (0 : Int) ≤ (x.length : Int) + 1 + 1 := by omega
       have b4 : (x.length : Int) + 1 + 1 ≤ s.size := by omega
       have b5 : ((x.length : Int) + 1 + 1).toNat = x.length + 1 + 1 := by omega
       with_reducible refine aR fun K' hK => ?_
       simp [hk, a1, bnd_some, b1, b2]
       refine acall_flat p1 rfl (by first | rfl | (simp; done) | (simp; rfl) | (simp; exact ⟨rfl, rfl⟩)) ?_
       cases hpx : plainF x with
       | false =>
        simp
        refine hK _ _ _ ?_; clear K' hK
        with_reducible refine aw_retL ?_
        simp [blockK, loopK, Post, resA, res1, expT, expA, exp1, expM, expL, okT, okA, ok1, rowOf, Tryz.f163]
        rw [hL, hgd, hc]; simp [hpx]
       | true =>
        simp [hk, hw1, b3, b4, b5, hsz, bnd_some]
        refine acall_flat p2 rfl (by first | rfl | (simp; done) | (simp; rfl) | (simp; exact ⟨rfl, rfl⟩)) ?_
        simp
        refine hK _ _ _ ?_; clear K' hK
        with_reducible refine aw_retL ?_
        simp [blockK, loopK, Post, resA, res1, expT, expA, exp1, expM, expL, okT, okA, ok1, rowOf, Tryz.f163]
        rw [hL, hgd, hc]; simp [hpx]
     ·have h64' : ¬ b = 64 := fun h => h64 (by rw [h]; rfl)
      with_reducible refine aA ?_
      with_reducible refine aR fun K' hK => ?_
      simp [he, hpos, hcc, h64]
      refine hK _ _ _ ?_; clear K' hK
      with_reducible refine aX (by simp) ?_
      with_reducible refine aA ?_
      with_reducible refine aR fun K' hK => ?_
      simp
      refine acall_flat (plain56_ok s hs) rfl (by first | rfl | (simp; done) | (simp; rfl) | (simp; exact ⟨rfl, rfl⟩)) ?_
      simp
      refine hK _ _ _ ?_; clear K' hK
      with_reducible refine aw_ret ?_
      simp [blockK, loopK, Post, resA, res1, expT, expA, exp1, expM, expL, okT, okA, ok1, rowOf, Tryz.f163]
      have hp : Lib.hasPrefix (b :: r) [64] = false := by
       have : ((64 : UInt8) == b) = false := by simpa using fun h => h64' h.symm
       simp [Lib.hasPrefix, List.isPrefixOf, this]
      rw [goodF, if_neg hnl, hL, hp, if_pos rfl]
set_option maxRecDepth 100000
set_option maxHeartbeats 1000000
theorem may57_ok (n : Int) : CallsOK Tryz.prog 152 [iV n] (bV (inR n)) [] := by
 refine callsOK mixed Tryz.call152 Tryz.func152 rfl (by rw [Tryz.ntmps152]; simp) ?_ rfl
 rw [Tryz.ntmps152]
 with_reducible refine aR fun K' hK => ?_
 simp
 refine hK _ _ _ ?_; clear K' hK
 by_cases h : 0 ≤ n
 ·skip
  with_reducible refine aR fun K' hK => ?_
  simp [h]
  refine hK _ _ _ ?_; clear K' hK
  with_reducible refine aw_retL ?_
  simp [blockK, loopK, Post, resA, res1, expT, expA, exp1, expM, expL, okT, okA, ok1, rowOf, Tryz.f152]
  simp [inR, h]
 ·skip
  with_reducible refine aR fun K' hK => ?_
  simp [h]
  refine hK _ _ _ ?_; clear K' hK
  with_reducible refine aw_retL ?_
  simp [blockK, loopK, Post, resA, res1, expT, expA, exp1, expM, expL, okT, okA, ok1, rowOf, Tryz.f152]
  simp [inR, h]
def digB (c : UInt8) : Bool := decide ((48 : Int) ≤ (c.toNat : Int)) && decide ((c.toNat : Int) ≤ 57)
theorem dig_all : ∀ i : _root_.Fin 256, digs.contains (UInt8.ofNat i) = digB (UInt8.ofNat i) := by decide +kernel
theorem dig_eq (c : UInt8) : digs.contains c = digB c := by
 have := dig_all ⟨c.toNat, c.toNat_lt⟩
 simpa using this
theorem dropW_nil {α : Type} {p : α → Bool} : ∀ {l : List α}, l.dropWhile p = [] ↔ l.all p = true
 | [] => by simp
 | a :: l => by
  rw [List.dropWhile_cons, List.all_cons]
  cases h : p a with
  | true => simp [dropW_nil (p := p) (l := l)]
  | false => simp
theorem dropW_all {α : Type} {p : α → Bool} : ∀ {l : List α}, (l.dropWhile p).all p = true → l.all p = true
 | [], _ => rfl
 | a :: l, h => by
  rw [List.dropWhile_cons] at h
  rw [List.all_cons]
  cases hp : p a with
  | true =>
   rw [hp, if_pos rfl] at h
   rw [dropW_all h]; rfl
  | false => rw [hp, if_neg (by simp), List.all_cons, hp] at h; simp at h
theorem trim_nil (l : List UInt8) : Lib.trimS l digs = [] ↔ l.all digB = true := by
 have e : (fun c => digs.contains c) = digB := funext dig_eq
 unfold Lib.trimS Lib.trimLeftS Lib.trimRightS
 rw [e, dropW_nil, List.all_reverse]
 constructor
 ·intro h
  have := dropW_all h
  rwa [List.all_reverse] at this
 ·intro h
  have h2 : l.reverse.dropWhile digB = [] := dropW_nil.2 (by rw [List.all_reverse]; exact h)
  rw [h2]; rfl
theorem numP_eq (l : List UInt8) : numP l = (l.all digB && !decide (l = [])) := by
 unfold numP
 rw [Bool.eq_iff_iff]
 simp only [Bool.and_eq_true, decide_eq_true_eq, trim_nil]
 exact ⟨fun ⟨a, b⟩ => ⟨b, a⟩, fun ⟨a, b⟩ => ⟨b, a⟩⟩
theorem all_at {l : List UInt8} {p : UInt8 → Bool} (h : ∀ i, i < l.length → p (by8 l i) = true) : l.all p = true := by
 rw [List.all_eq_true]
 intro x hx
 obtain ⟨i, hi, rfl⟩ := List.mem_iff_getElem.1 hx
 rw [← by8_get hi]; exact h i hi
theorem not_all {l : List UInt8} {p : UInt8 → Bool} {i : Nat} (hi : i < l.length) (h : p (by8 l i) = false) : l.all p = false := by
 rw [List.all_eq_false]
 exact ⟨by8 l i, by rw [by8_get hi]; exact List.getElem_mem hi, by simp [h]⟩
theorem digits70_ok (s : Bs) (hs : s.size ≤ 4611686018427387904) : CallsOK Tryz.prog 190 [sV s] (bV (numP (bsL s))) [] := by
 refine callsOK mixed Tryz.call190 Tryz.func190 rfl (by rw [Tryz.ntmps190]; simp) ?_ rfl
 rw [Tryz.ntmps190, numP_eq]
 have hl : (bsL s).length = s.size := bsL_len s
 with_reducible refine aR fun K' hK => ?_
 simp
 refine hK _ _ _ ?_; clear K' hK
 with_reducible refine aA ?_
 with_reducible refine aR fun K' hK => ?_
 simp
 refine hK _ _ _ ?_; clear K' hK
 with_reducible refine aw_block ?_
 refine aw_loop (fun t G nx => t 0 = sV s ∧ ∃ i : Nat, t 3 = iV i ∧ i ≤ s.size ∧ ∀ j, j < i → digB (by8 (bsL s) j) = true) (fun s' _ _ => match s' 3 with | .v (.int _ n) => s.size - n.toNat | _ => 0) ?_ ?_
 ·exact ⟨by simp, 0, by simp, by omega, fun j hj => by omega⟩
 ·rintro t G nx - ⟨t0, i, t3, hi, hn⟩
  have hw : IntKind.i64.wrap (↑i + 1) = ((i + 1 : Nat) : Int) := wrapS (by omega)
  with_reducible refine aA ?_
  with_reducible refine aR fun K' hK => ?_
  simp [t0, t3]
  refine hK _ _ _ ?_; clear K' hK
  with_reducible refine aC fun A B hA hB => ?_
  simp
  refine ⟨fun hi2 => hA ?_, fun hi2 => hB ?_⟩ <;> clear hA hB A B <;> (try simp at hi2) <;> (try with_reducible refine aK ?_)
  ·skip
   with_reducible refine aw_block ?_
   have hcc : byteA s i = by8 (bsL s) i := rfl
   generalize hc : by8 (bsL s) i = c at hcc
   by_cases a1 : (c.toNat : Int) < 48
   ·skip
    with_reducible refine aR fun K' hK => ?_
    simp [t0, t3, hi2, hcc, a1]
    refine hK _ _ _ ?_; clear K' hK
    with_reducible refine aU (by simp) ?_
    with_reducible refine aA ?_
    with_reducible refine aR fun K' hK => ?_
    simp
    refine hK _ _ _ ?_; clear K' hK
    with_reducible refine aw_ret ?_
    simp [blockK, loopK, Post, resA, res1, expT, expA, exp1, expM, expL, okT, okA, ok1, rowOf, Tryz.f190]
    intro h
    have h := List.all_eq_true.2 h
    rw [not_all (p := digB) (i := i) (by omega) (by rw [hc]; simp [digB]; omega)] at h
    cases h
   ·by_cases a2 : (57 : Int) < c.toNat
    ·skip
     with_reducible refine aR fun K' hK => ?_
     simp [t0, t3, hi2, hcc, a1, a2]
     refine hK _ _ _ ?_; clear K' hK
     with_reducible refine aU (by simp) ?_
     with_reducible refine aA ?_
     with_reducible refine aR fun K' hK => ?_
     simp
     refine hK _ _ _ ?_; clear K' hK
     with_reducible refine aw_ret ?_
     simp [blockK, loopK, Post, resA, res1, expT, expA, exp1, expM, expL, okT, okA, ok1, rowOf, Tryz.f190]
     intro h
     have h := List.all_eq_true.2 h
     rw [not_all (p := digB) (i := i) (by omega) (by rw [hc]; simp [digB]; omega)] at h
     cases h
    ·skip
     with_reducible refine aR fun K' hK => ?_
     simp [t0, t3, hi2, hcc, a1, a2]
     refine hK _ _ _ ?_; clear K' hK
     with_reducible refine aVk (by simp) ?_
     with_reducible refine aw_skipL ?_
     refine blockK_normal ?_
     with_reducible refine aS fun K' hK => ?_
     simp [t3, hw]
     refine hK _ _ _ ?_; clear K' hK
     refine aw_skipL (loopK_normal ?_ ?_)
     ·refine ⟨by simp [t0], i + 1, by simp [hw], by omega, fun j hj => ?_⟩
      rcases Nat.lt_or_ge j i with h | h
      ·exact hn j h
      ·have : j = i := by omega
       subst this
       rw [hc]
       simp [digB]; omega
     ·simp [t3, hw]; omega
  ·skip
   with_reducible refine aw_exit ?_
   refine loopK_exit (blockK_exit ?_)
   with_reducible refine aR fun K' hK => ?_
   simp [t0]
   refine hK _ _ _ ?_; clear K' hK
   with_reducible refine aw_retL ?_
   simp [blockK, loopK, Post, resA, res1, expT, expA, exp1, expM, expL, okT, okA, ok1, rowOf, Tryz.f190]
   have hall := all_at (p := digB) (l := bsL s) (fun j hj => hn j (by omega))
   rw [hall]
   simp [empty_iff]
theorem wrapU8 {n : Int} (h0 : 0 ≤ n) (h1 : n < 256) : IntKind.u8.wrap n = n := by
 simp [IntKind.wrap, IntKind.signed, IntKind.bits]
 omega
def numV (l : List UInt8) : Int := l.foldl (fun n c => 10 * n + ((c.toNat : Int) - 48)) 0
def numR (l : List UInt8) : Int := if numOk l then numV l else -1
theorem numV_snoc {l : List UInt8} {i : Nat} (h : i < l.length) : numV (l.take (i + 1)) = 10 * numV (l.take i) + ((by8 l i).toNat - 48) := by
 unfold numV
 rw [List.take_add_one, List.getElem?_eq_getElem h, List.foldl_append, by8_get h]; rfl
theorem numV_nn {l : List UInt8} (h : l.all digB = true) : ∀ i, i ≤ l.length → 0 ≤ numV (l.take i) ∧ numV (l.take i) ≤ 10 ^ i - 1
 | 0, _ => by simp [numV]
 | i + 1, hi => by
  have ih := numV_nn h i (by omega)
  have hd : digB (by8 l i) = true := by rw [by8_get (by omega)]; exact List.all_eq_true.1 h _ (List.getElem_mem _)
  simp [digB] at hd
  rw [numV_snoc (by omega), Int.pow_succ]
  omega
theorem numR_nn {l : List UInt8} : decide (0 ≤ numR l) = numOk l := by
 unfold numR
 cases h : numOk l with
 | false => rfl
 | true =>
  have hp : numP l = true := by
   unfold numOk at h
   rw [Bool.and_eq_true] at h
   exact h.1
  rw [numP_eq, Bool.and_eq_true] at hp
  have := (numV_nn hp.1 l.length (Nat.le_refl _)).1
  rw [List.take_length] at this
  simpa using this
theorem number71_ok (s : Bs) (hs : s.size ≤ 4611686018427387904) : CallsOK Tryz.prog 191 [sV s] (iV (numR (bsL s))) [] := by
 refine callsOK mixed Tryz.call191 Tryz.func191 rfl (by rw [Tryz.ntmps191]; simp) ?_ rfl
 rw [Tryz.ntmps191]
 have hl : (bsL s).length = s.size := bsL_len s
 have hbad : numOk (bsL s) = false → numR (bsL s) = -1 := fun h => by rw [numR, h]; rfl
 with_reducible refine aR fun K' hK => ?_
 simp
 refine hK _ _ _ ?_; clear K' hK
 with_reducible refine aA ?_
 refine aw_cut (fun u G nx => u 0 = sV s ∧ u 22 = bV (!numOk (bsL s))) ?_ ?_
 ·skip
  with_reducible refine aS fun K' hK => ?_
  simp
  refine acall_flat (digits70_ok s hs) rfl (by first | rfl | (simp; done) | (simp; rfl) | (simp; exact ⟨rfl, rfl⟩)) ?_
  cases hp : numP (bsL s) with
  | false =>
   simp
   refine hK _ _ _ ?_; clear K' hK
   with_reducible refine aw_end ?_
   simp [numOk, hp]
  | true =>
   have hpe := hp
   rw [numP_eq, Bool.and_eq_true] at hpe
   have hne : bsL s ≠ [] := by simpa using hpe.2
   have hpos : 0 < s.size := by have := List.length_pos_iff.2 hne; omega
   have hcc : byteA s 0 = by8 (bsL s) 0 := rfl
   generalize hc : by8 (bsL s) 0 = c at hcc
   by_cases h6 : (6 : Int) < s.size
   ·simp [h6]
    refine hK _ _ _ ?_; clear K' hK
    with_reducible refine aw_end ?_
    simp [numOk]
    exact .inr (.inl (by omega))
   ·have h6' : (bsL s).length ≤ 6 := by omega
    by_cases z1 : (c.toNat : Int) = 48
    ·have hc48 : c = 48 := u8_of (n := 48) z1 (by decide)
     by_cases z2 : (1 : Int) < s.size
     ·simp [h6, hpos, hcc, z1, z2]
      refine hK _ _ _ ?_; clear K' hK
      with_reducible refine aw_end ?_
      have : ¬ bsL s = [48] := fun h => by rw [h] at hl; simp at hl; omega
      simp [numOk, hc, hc48, this]
     ·simp [h6, hpos, hcc, z1, z2]
      refine hK _ _ _ ?_; clear K' hK
      with_reducible refine aw_end ?_
      have h1 : (bsL s).length = 1 := by omega
      obtain ⟨x, hx⟩ := List.length_eq_one_iff.1 h1
      have : bsL s = [48] := by
       rw [hx] at hc ⊢
       have : x = c := hc
       rw [this, hc48]
      simp [numOk, hp, this]
      rw [this] at hp
      exact hp
    ·have z1' : ¬ c = 48 := fun h => z1 (by rw [h]; rfl)
     simp [h6, hpos, hcc, z1]
     refine hK _ _ _ ?_; clear K' hK
     with_reducible refine aw_end ?_
     simp [numOk, hp, hc, z1', h6']
 rintro u G nx ⟨u0, u22⟩
 cases hok : numOk (bsL s) with
 | false =>
  rw [hok] at u22
  with_reducible refine aX (by simp [u22]) ?_
  with_reducible refine aA ?_
  with_reducible refine aR fun K' hK => ?_
  simp
  refine hK _ _ _ ?_; clear K' hK
  with_reducible refine aw_ret ?_
  simp [blockK, loopK, Post, resA, res1, expT, expA, exp1, expM, expL, okT, okA, ok1, rowOf, Tryz.f191]
  exact (hbad hok).symm
 | true =>
  rw [hok] at u22
  have hok2 := hok
  unfold numOk at hok2
  rw [Bool.and_eq_true, Bool.and_eq_true] at hok2
  obtain ⟨hp, h6, _⟩ := hok2
  have h6 : (bsL s).length ≤ 6 := of_decide_eq_true h6
  rw [numP_eq, Bool.and_eq_true] at hp
  have hfin : numR (bsL s) = numV (bsL s) := by rw [numR, hok]; rfl
  rw [hfin]
  with_reducible refine aYk (by simp [u22]) ?_
  with_reducible refine aR fun K' hK => ?_
  simp
  refine hK _ _ _ ?_; clear K' hK
  with_reducible refine aA ?_
  with_reducible refine aR fun K' hK => ?_
  simp
  refine hK _ _ _ ?_; clear K' hK
  with_reducible refine aw_block ?_
  refine aw_loop (fun t G nx => t 0 = sV s ∧ ∃ i : Nat, t 4 = iV i ∧ i ≤ s.size ∧ t 3 = iV (numV ((bsL s).take i))) (fun s' _ _ => match s' 4 with | .v (.int _ n) => s.size - n.toNat | _ => 0) ?_ ?_
  ·exact ⟨by simp [u0], 0, by simp, by omega, by simp [numV]⟩
  ·rintro t G nx - ⟨t0, i, t4, hi, t3⟩
   have hw : IntKind.i64.wrap (↑i + 1) = ((i + 1 : Nat) : Int) := wrapS (by omega)
   with_reducible refine aA ?_
   with_reducible refine aR fun K' hK => ?_
   simp [t0, t4]
   refine hK _ _ _ ?_; clear K' hK
   with_reducible refine aC fun A B hA hB => ?_
   simp
   refine ⟨fun hi2 => hA ?_, fun hi2 => hB ?_⟩ <;> clear hA hB A B <;> (try simp at hi2) <;> (try with_reducible refine aK ?_)
   ·have hcc : byteA s i = by8 (bsL s) i := rfl
    have hst := numV_snoc (l := bsL s) (i := i) (by omega)
    have hnn := numV_nn hp.1 i (by omega)
    have hpw : (10 : Int) ^ i ≤ 10 ^ 6 := by
     have : (10 : Nat) ^ i ≤ 10 ^ 6 := Nat.pow_le_pow_right (by decide) (by omega)
     exact_mod_cast this
    have hpw6 : (10 : Int) ^ 6 = 1000000 := by decide
    have hd : digB (by8 (bsL s) i) = true := by rw [by8_get (by omega)]; exact List.all_eq_true.1 hp.1 _ (List.getElem_mem _)
    generalize hc : by8 (bsL s) i = c at hcc hst hd
    generalize numV ((bsL s).take i) = v at hst hnn t3
    simp [digB] at hd
    have w1 : IntKind.u8.wrap ((c.toNat : Int) - 48) = (c.toNat : Int) - 48 := wrapU8 (by omega) (by omega)
    have w2 : IntKind.i64.wrap ((c.toNat : Int) - 48) = (c.toNat : Int) - 48 := wrap64 (by omega) (by omega)
    have w3 : IntKind.i64.wrap (10 * v) = 10 * v := wrap64 (by omega) (by omega)
    have w4 : IntKind.i64.wrap (10 * v + ((c.toNat : Int) - 48)) = 10 * v + ((c.toNat : Int) - 48) := wrap64 (by omega) (by omega)
    with_reducible refine aw_block ?_
    with_reducible refine aS fun K' hK => ?_
    simp [t0, t3, t4, hi2, hcc, w1, w2, w3, w4]
    refine hK _ _ _ ?_; clear K' hK
    with_reducible refine aw_skipL ?_
    refine blockK_normal ?_
    with_reducible refine aS fun K' hK => ?_
    simp [t4, hw]
    refine hK _ _ _ ?_; clear K' hK
    refine aw_skipL (loopK_normal ?_ ?_)
    ·exact ⟨by simp [t0], i + 1, by simp [hw], by omega, by rw [hst]; simp [w1, w2, w3, w4]⟩
    ·simp [t4, hw]; omega
   ·skip
    with_reducible refine aw_exit ?_
    refine loopK_exit (blockK_exit ?_)
    have : i = (bsL s).length := by omega
    subst this
    rw [List.take_length] at t3
    with_reducible refine aR fun K' hK => ?_
    simp [t3]
    refine hK _ _ _ ?_; clear K' hK
    with_reducible refine aw_retL ?_
    simp [blockK, loopK, Post, resA, res1, expT, expA, exp1, expM, expL, okT, okA, ok1, rowOf, Tryz.f191]
theorem part_all : ∀ i : _root_.Fin 256, partB (UInt8.ofNat i) = !((decide (((UInt8.ofNat i).toNat : Int) < 97) || decide ((122 : Int) < ((UInt8.ofNat i).toNat : Int))) && ((decide (((UInt8.ofNat i).toNat : Int) < 65) || decide ((90 : Int) < ((UInt8.ofNat i).toNat : Int))) && ((decide (((UInt8.ofNat i).toNat : Int) < 48) || decide ((57 : Int) < ((UInt8.ofNat i).toNat : Int))) && !decide (((UInt8.ofNat i).toNat : Int) = 45)))) := by decide +kernel
theorem part_tab (c : UInt8) : partB c = !((decide ((c.toNat : Int) < 97) || decide ((122 : Int) < (c.toNat : Int))) && ((decide ((c.toNat : Int) < 65) || decide ((90 : Int) < (c.toNat : Int))) && ((decide ((c.toNat : Int) < 48) || decide ((57 : Int) < (c.toNat : Int))) && !decide ((c.toNat : Int) = 45)))) := by
 have := part_all ⟨c.toNat, c.toNat_lt⟩
 rwa [UInt8.ofNat_toNat] at this
theorem num_le {l : List UInt8} : (numP l == numOk l) = (!numP l || numOk l) := by
 cases h : numOk l with
 | false => simp
 | true =>
  have hp : numP l = true := by
   unfold numOk at h
   rw [Bool.and_eq_true] at h
   exact h.1
  simp [hp]
theorem part59_ok (s : Bs) (hs : s.size ≤ 4611686018427387904) : CallsOK Tryz.prog 154 [sV s] (bV (partF (bsL s))) [] := by
 refine callsOK mixed Tryz.call154 Tryz.func154 rfl (by rw [Tryz.ntmps154]; simp) ?_ rfl
 rw [Tryz.ntmps154]
 have hl : (bsL s).length = s.size := bsL_len s
 with_reducible refine aR fun K' hK => ?_
 simp
 refine hK _ _ _ ?_; clear K' hK
 by_cases h1 : (s.size : Int) < 1
 ·with_reducible refine aA ?_
  with_reducible refine aR fun K' hK => ?_
  simp [h1]
  refine hK _ _ _ ?_; clear K' hK
  with_reducible refine aX (by simp) ?_
  with_reducible refine aA ?_
  with_reducible refine aR fun K' hK => ?_
  simp
  refine hK _ _ _ ?_; clear K' hK
  with_reducible refine aw_ret ?_
  simp [blockK, loopK, Post, resA, res1, expT, expA, exp1, expM, expL, okT, okA, ok1, rowOf, Tryz.f154]
  have : bsL s = [] := List.eq_nil_of_length_eq_zero (by omega)
  simp [partF, this]
 by_cases h10 : (10 : Int) < s.size
 ·with_reducible refine aA ?_
  with_reducible refine aR fun K' hK => ?_
  simp [h1, h10]
  refine hK _ _ _ ?_; clear K' hK
  with_reducible refine aX (by simp) ?_
  with_reducible refine aA ?_
  with_reducible refine aR fun K' hK => ?_
  simp
  refine hK _ _ _ ?_; clear K' hK
  with_reducible refine aw_ret ?_
  simp [blockK, loopK, Post, resA, res1, expT, expA, exp1, expM, expL, okT, okA, ok1, rowOf, Tryz.f154]
  have : ¬ (bsL s).length ≤ 10 := by omega
  simp [partF, this]
 have hne : ¬ bsL s = [] := fun h => by rw [h] at hl; simp at hl; omega
 have hle : (bsL s).length ≤ 10 := by omega
 with_reducible refine aA ?_
 with_reducible refine aR fun K' hK => ?_
 simp [h1, h10]
 refine hK _ _ _ ?_; clear K' hK
 with_reducible refine aYk (by simp) ?_
 with_reducible refine aA ?_
 with_reducible refine aR fun K' hK => ?_
 simp
 refine hK _ _ _ ?_; clear K' hK
 with_reducible refine aw_block ?_
 refine aw_loop (fun t G nx => t 0 = sV s ∧ ∃ i : Nat, t 3 = iV i ∧ i ≤ s.size ∧ (List.range i).all (fun i => partB (by8 (bsL s) i)) = true) (fun s' _ _ => match s' 3 with | .v (.int _ n) => s.size - n.toNat | _ => 0) ?_ ?_
 ·exact ⟨by simp, 0, by simp, by omega, by simp⟩
 ·rintro t G nx - ⟨t0, i, t3, hi, ht⟩
  have hw : IntKind.i64.wrap (↑i + 1) = ((i + 1 : Nat) : Int) := wrapS (by omega)
  with_reducible refine aA ?_
  with_reducible refine aR fun K' hK => ?_
  simp [t0, t3]
  refine hK _ _ _ ?_; clear K' hK
  with_reducible refine aC fun A B hA hB => ?_
  simp
  refine ⟨fun hi2 => hA ?_, fun hi2 => hB ?_⟩ <;> clear hA hB A B <;> (try simp at hi2) <;> (try with_reducible refine aK ?_)
  ·skip
   with_reducible refine aw_block ?_
   have hcc : byteA s i = by8 (bsL s) i := rfl
   generalize hc : by8 (bsL s) i = c at hcc
   with_reducible refine aR fun K' hK => ?_
   simp [t0, t3, hi2, hcc]
   refine hK _ _ _ ?_; clear K' hK
   refine aw_cut (fun t' G' nx' => t' 0 = sV s ∧ t' 3 = iV i ∧ t' 47 = bV (!partB c)) ?_ ?_
   ·by_cases a1 : (c.toNat : Int) < 97
    ·by_cases a3 : (c.toNat : Int) < 65
     ·by_cases a5 : (c.toNat : Int) < 48
      ·by_cases a7 : (c.toNat : Int) = 45
       ·skip
        with_reducible refine aS fun K' hK => ?_
        simp [a1, a3, a5, a7]
        refine hK _ _ _ ?_; clear K' hK
        with_reducible refine aw_end ?_
        simp [t0, t3, part_tab, a1, a3, a5, a7]
       ·skip
        with_reducible refine aS fun K' hK => ?_
        simp [a1, a3, a5, a7]
        refine hK _ _ _ ?_; clear K' hK
        with_reducible refine aw_end ?_
        simp [t0, t3, part_tab, a1, a3, a5, a7]
      ·by_cases a6 : (57 : Int) < c.toNat
       ·have a7 : ¬ (c.toNat : Int) = 45 := by omega
        with_reducible refine aS fun K' hK => ?_
        simp [a1, a3, a5, a6, a7]
        refine hK _ _ _ ?_; clear K' hK
        with_reducible refine aw_end ?_
        simp [t0, t3, part_tab, a1, a3, a5, a6, a7]
       ·skip
        with_reducible refine aS fun K' hK => ?_
        simp [a1, a3, a5, a6]
        refine hK _ _ _ ?_; clear K' hK
        with_reducible refine aw_end ?_
        simp [t0, t3, part_tab, a1, a3, a5, a6]
     ·by_cases a4 : (90 : Int) < c.toNat
      ·have a5 : ¬ (c.toNat : Int) < 48 := by omega
       have a6 : (57 : Int) < c.toNat := by omega
       have a7 : ¬ (c.toNat : Int) = 45 := by omega
       with_reducible refine aS fun K' hK => ?_
       simp [a1, a3, a4, a5, a6, a7]
       refine hK _ _ _ ?_; clear K' hK
       with_reducible refine aw_end ?_
       simp [t0, t3, part_tab, a1, a3, a4, a5, a6, a7]
      ·skip
       with_reducible refine aS fun K' hK => ?_
       simp [a1, a3, a4]
       refine hK _ _ _ ?_; clear K' hK
       with_reducible refine aw_end ?_
       simp [t0, t3, part_tab, a1, a3, a4]
    ·by_cases a2 : (122 : Int) < c.toNat
     ·have a3 : ¬ (c.toNat : Int) < 65 := by omega
      have a4 : (90 : Int) < c.toNat := by omega
      have a5 : ¬ (c.toNat : Int) < 48 := by omega
      have a6 : (57 : Int) < c.toNat := by omega
      have a7 : ¬ (c.toNat : Int) = 45 := by omega
      with_reducible refine aS fun K' hK => ?_
      simp [a1, a2, a3, a4, a5, a6, a7]
      refine hK _ _ _ ?_; clear K' hK
      with_reducible refine aw_end ?_
      simp [t0, t3, part_tab, a1, a2, a3, a4, a5, a6, a7]
     ·skip
      with_reducible refine aS fun K' hK => ?_
      simp [a1, a2]
      refine hK _ _ _ ?_; clear K' hK
      with_reducible refine aw_end ?_
      simp [t0, t3, part_tab, a1, a2]
   rintro u G' nx' ⟨u0, u3, u47⟩
   cases hp : partB c with
   | true =>
    rw [hp] at u47
    with_reducible refine aVk (by simp [u47]) ?_
    with_reducible refine aw_skipL ?_
    refine blockK_normal ?_
    with_reducible refine aS fun K' hK => ?_
    simp [u3, hw]
    refine hK _ _ _ ?_; clear K' hK
    refine aw_skipL (loopK_normal ?_ ?_)
    ·exact ⟨by simp [u0], i + 1, by simp [hw], by omega, by rw [range_all, ht, hc, hp]; rfl⟩
    ·simp [t3, hw]; omega
   | false =>
    rw [hp] at u47
    with_reducible refine aU (by simp [u47]) ?_
    with_reducible refine aA ?_
    with_reducible refine aR fun K' hK => ?_
    simp
    refine hK _ _ _ ?_; clear K' hK
    with_reducible refine aw_ret ?_
    simp [blockK, loopK, Post, resA, res1, expT, expA, exp1, expM, expL, okT, okA, ok1, rowOf, Tryz.f154]
    rw [partF, range_false (i := i) (by omega) (by rw [hc]; exact hp)]
    simp
  ·skip
   with_reducible refine aw_exit ?_
   refine loopK_exit (blockK_exit ?_)
   have : i = (bsL s).length := by omega
   subst this
   have hfin : partF (bsL s) = (!numP (bsL s) || numOk (bsL s)) := by rw [partF, ht, num_le]; simp [hne, hle]
   rw [hfin]
   with_reducible refine aR fun K' hK => ?_
   simp [t0]
   refine acall_flat (digits70_ok s hs) rfl (by first | rfl | (simp; done) | (simp; rfl) | (simp; exact ⟨rfl, rfl⟩)) ?_
   cases hp : numP (bsL s) with
   | false =>
    simp
    refine hK _ _ _ ?_; clear K' hK
    with_reducible refine aw_retL ?_
    simp [blockK, loopK, Post, resA, res1, expT, expA, exp1, expM, expL, okT, okA, ok1, rowOf, Tryz.f154]
    exact .inl hp
   | true =>
    have hnn := numR_nn (l := bsL s)
    simp [t0]
    refine acall_flat (number71_ok s hs) rfl (by first | rfl | (simp; done) | (simp; rfl) | (simp; exact ⟨rfl, rfl⟩)) ?_
    simp [hnn]
    refine hK _ _ _ ?_; clear K' hK
    with_reducible refine aw_retL ?_
    simp [blockK, loopK, Post, resA, res1, expT, expA, exp1, expM, expL, okT, okA, ok1, rowOf, Tryz.f154]
    intro h
    rw [hp] at h; cases h
set_option maxRecDepth 100000
set_option maxHeartbeats 1000000
def spl : List UInt8 → List (List UInt8)
 | [] => [[]]
 | b :: l => if b = 46 then [] :: spl l else match spl l with
  | [] => [[b]]
  | p :: ps => (b :: p) :: ps
theorem spl_ne : ∀ l : List UInt8, spl l ≠ []
 | [] => by simp [spl]
 | b :: l => by
  rw [spl]
  split
  ·simp
  ·cases spl l <;> simp
theorem spl_out : ∀ {a : List UInt8}, (46 : UInt8) ∉ a → spl a = [a]
 | [], _ => rfl
 | b :: a, h => by
  have h1 : ¬ b = 46 := fun e => h (by simp [e])
  rw [spl, if_neg h1, spl_out (a := a) (fun e => h (List.mem_cons_of_mem _ e))]
theorem spl_in : ∀ {a r : List UInt8}, (46 : UInt8) ∉ a → spl (a ++ 46 :: r) = a :: spl r
 | [], r, _ => by simp [spl]
 | b :: a, r, h => by
  have h1 : ¬ b = 46 := fun e => h (by simp [e])
  rw [List.cons_append, spl, if_neg h1, spl_in (a := a) (fun e => h (List.mem_cons_of_mem _ e))]
theorem dot_spl : ∀ (k : Nat) (l : List UInt8), dotOk k l = (decide ((spl l).length ≤ k) && (spl l).all partF)
 | 0, l => by
  have := List.length_pos_iff.2 (spl_ne l)
  rw [dotOk]
  have h : ¬ (spl l).length ≤ 0 := by omega
  simp [h]
 | k + 1, l => by
  rw [dotOk]
  by_cases hm : (46 : UInt8) ∈ l
  ·obtain ⟨a, r, h1, rfl⟩ := first_at hm
   rw [ib_in h1, if_neg (by omega), spl_in h1, Int.toNat_natCast, List.take_left', show (a ++ 46 :: r).drop (a.length + 1) = r by simp, dot_spl k r]
   ·simp only [List.length_cons, List.all_cons, Nat.add_le_add_iff_right]
    cases partF a <;> simp
   ·rfl
  ·rw [ib_out hm, if_pos (by omega), spl_out hm]
   simp
theorem drop_at {l : List UInt8} {f i : Nat} (hf : f ≤ i) (hi : i < l.length) (h : by8 l i = 46) : l.drop f = ((l.take i).drop f) ++ 46 :: l.drop (i + 1) := by
 have e : l = l.take i ++ 46 :: l.drop (i + 1) := by
  rw [← h, by8_get hi, List.getElem_cons_drop]; simp
 conv => lhs; rw [e]
 rw [List.drop_append_of_le_length (by rw [List.length_take]; omega)]
theorem no_at {l : List UInt8} {f i : Nat} (hi : i ≤ l.length) (h : ∀ j, f ≤ j → j < i → by8 l j ≠ 46) : (46 : UInt8) ∉ (l.take i).drop f := by
 intro hm
 obtain ⟨j, hj, he⟩ := List.mem_iff_getElem.1 hm
 rw [List.length_drop, List.length_take] at hj
 rw [List.getElem_drop, List.getElem_take] at he
 exact h (f + j) (by omega) (by omega) (by rw [by8_get (by omega), he])
def CutAt (l : List UInt8) (out : List (List UInt8)) (f i : Nat) : Prop :=
 (i ≤ l.length ∧ f ≤ i ∧ (∀ j, f ≤ j → j < i → by8 l j ≠ 46) ∧ out ++ spl (l.drop f) = spl l ∧ out.length ≤ f) ∨ (i = l.length + 1 ∧ out = spl l ∧ f ≤ i)
theorem cut_step {l : List UInt8} {out : List (List UInt8)} {f i : Nat} (h : CutAt l out f i) (hi : i ≤ l.length) : f ≤ i ∧ out.length ≤ f ∧
  ((i < l.length ∧ by8 l i ≠ 46 → CutAt l out f (i + 1)) ∧ (¬ (i < l.length ∧ by8 l i ≠ 46) → CutAt l (out ++ [(l.take i).drop f]) (i + 1) (i + 1))) := by
 rcases h with ⟨_, h2, h3, h4, h5⟩ | ⟨h, _⟩
 ·refine ⟨h2, h5, fun ⟨q1, q2⟩ => .inl ⟨by omega, by omega, fun j a b => ?_, h4, h5⟩, fun hq => ?_⟩
  ·rcases Nat.lt_or_ge j i with h | h
   ·exact h3 j a h
   ·have : j = i := by omega
    subst this; exact q2
  ·rcases Nat.lt_or_ge i l.length with hl | hl
   ·have h46 : by8 l i = 46 := Decidable.not_not.1 fun h => hq ⟨hl, h⟩
    refine .inl ⟨by omega, Nat.le_refl _, fun j a b => by omega, ?_, by simp; omega⟩
    rw [drop_at h2 hl h46, spl_in (no_at hi h3)] at h4
    rw [← h4]; simp
   ·have : i = l.length := by omega
    subst this
    refine .inr ⟨rfl, ?_, Nat.le_refl _⟩
    have hno := no_at hi h3
    rw [List.take_length] at hno ⊢
    rw [spl_out hno] at h4
    exact h4
 ·omega
def strs (L : List (List UInt8)) : List Bs := L.map ofL
theorem strs_snoc {L : List (List UInt8)} {x : List UInt8} : strs (L ++ [x]) = strs L ++ [ofL x] := by simp [strs]
theorem cut58_ok (s : Bs) (hs : s.size ≤ 4000000000) : CallsOK Tryz.prog 153 [sV s, .v (.int .u8 46)] (.row 0 (strs (spl (bsL s))).length) [(9, flat sC (strs (spl (bsL s))))] := by
 refine callsOK mixed Tryz.call153 Tryz.func153 rfl (by rw [Tryz.ntmps153]; simp) ?_ rfl
 rw [Tryz.ntmps153]
 have hl : (bsL s).length = s.size := bsL_len s
 with_reducible refine aR fun K' hK => ?_
 simp
 refine hK _ _ _ ?_; clear K' hK
 with_reducible refine aR fun K' hK => ?_
 simp
 refine hK _ _ _ ?_; clear K' hK
 with_reducible refine aR fun K' hK => ?_
 simp
 refine hK _ _ _ ?_; clear K' hK
 with_reducible refine aA ?_
 with_reducible refine aR fun K' hK => ?_
 simp
 refine hK _ _ _ ?_; clear K' hK
 with_reducible refine aw_block ?_
 refine aw_loop (fun t G nx => t 0 = sV s ∧ t 1 = .v (.int .u8 46) ∧ ∃ (i f : Nat) (out : List (List UInt8)), t 7 = iV i ∧ t 6 = iV f ∧ CutAt (bsL s) out f i ∧ ∃ r, t 5 = .row r (strs out).length ∧ G r = some (.row 9 (flat sC (strs out))) ∧ r < nx) (fun s' _ _ => match s' 7 with | .v (.int _ n) => s.size + 1 - n.toNat | _ => 0) ?_ ?_
 ·exact ⟨by simp, by simp, 0, 0, [], by simp, by simp, .inl ⟨by omega, by omega, fun j a b => by omega, by simp, by simp⟩, 1, by simp [strs], by simp [strs], by omega⟩
 ·rintro t G nx - ⟨t0, t1, i, f, out, t7, t6, hcut, r, t5, hr, hrn⟩
  have hw : IntKind.i64.wrap (↑i + 1) = ((i + 1 : Nat) : Int) := wrapS (by rcases hcut with h | h <;> omega)
  with_reducible refine aA ?_
  with_reducible refine aR fun K' hK => ?_
  simp [t0, t7]
  refine hK _ _ _ ?_; clear K' hK
  with_reducible refine aC fun A B hA hB => ?_
  simp
  refine ⟨fun hi2 => hA ?_, fun hi2 => hB ?_⟩ <;> clear hA hB A B <;> (try simp at hi2) <;> (try with_reducible refine aK ?_)
  ·obtain ⟨hfi, hof, hno, hyes⟩ := cut_step hcut (by omega)
   with_reducible refine aw_block ?_
   refine aw_cut (fun u H ny => H r = some (.row 9 (flat sC (strs out))) ∧ r < ny ∧ u 0 = sV s ∧ u 1 = .v (.int .u8 46) ∧ u 5 = .row r (strs out).length ∧ u 6 = iV f ∧ u 7 = iV i ∧ u 24 = bV (!decide (i < (bsL s).length ∧ by8 (bsL s) i ≠ 46))) ?_ ?_
   ·by_cases he : i = s.size
    ·have he' : ((i : Nat) : Int) = s.size := by omega
     have hn : ¬ i < (bsL s).length := by omega
     with_reducible refine aS fun K' hK => ?_
     simp [t0, t7, he, he']
     refine hK _ _ _ ?_; clear K' hK
     with_reducible refine aw_end ?_
     simp [hr, hrn, t0, t1, t5, t6, t7, he, hl]
    ·have he' : ¬ ((i : Nat) : Int) = s.size := by omega
     have hi3 : i < s.size := by omega
     have hcc : byteA s i = by8 (bsL s) i := rfl
     generalize hc : by8 (bsL s) i = c at hcc
     by_cases h46 : (c.toNat : Int) = 46
     ·have h46' : c = 46 := u8_of (n := 46) h46 (by decide)
      with_reducible refine aS fun K' hK => ?_
      simp [t0, t1, t7, he, he', hi3, hcc, h46]
      refine hK _ _ _ ?_; clear K' hK
      with_reducible refine aw_end ?_
      simp [hr, hrn, t0, t1, t5, t6, t7, hl, hi3, h46']
     ·have h46' : ¬ c = 46 := fun h => h46 (by rw [h]; rfl)
      with_reducible refine aS fun K' hK => ?_
      simp [t0, t1, t7, he, he', hi3, hcc, h46]
      refine hK _ _ _ ?_; clear K' hK
      with_reducible refine aw_end ?_
      simp [hr, hrn, t0, t1, t5, t6, t7, hl, hi3, h46']
   rintro u H nx ⟨hr, hrn, u0, u1, u5, u6, u7, u24⟩
   by_cases hq : i < (bsL s).length ∧ by8 (bsL s) i ≠ 46
   ·have hb : (!decide (i < (bsL s).length ∧ by8 (bsL s) i ≠ 46)) = false := by simp [hq]
    rw [hb] at u24
    with_reducible refine aVk (by simp [u24]) ?_
    with_reducible refine aw_skipL ?_
    refine blockK_normal ?_
    with_reducible refine aS fun K' hK => ?_
    simp [u7, hw]
    refine hK _ _ _ ?_; clear K' hK
    refine aw_skipL (loopK_normal ?_ ?_)
    ·exact ⟨by simp [u0], by simp [u1], i + 1, f, out, by simp [hw], by simp [u6], hno hq, r, by simp [u5], hr, hrn⟩
    ·simp [t7, hw]; omega
   ·have hb : (!decide (i < (bsL s).length ∧ by8 (bsL s) i ≠ 46)) = true := by simp only [hq]; rfl
    rw [hb] at u24
    have hnew := hyes hq
    have hsl : s.extract f i = ofL (((bsL s).take i).drop f) := by apply bsL_inj; rw [bsL_ofL, bsL_ext]
    have i1 : i ≤ s.size := by omega
    have hlo : (strs out).length ≤ f := by simpa [strs] using hof
    have b1 : (strs out).length + 1 ≤ 9223372036854775807 := by omega
    have b2 : ((strs out).length + 1) * 16 ≤ 140737488355328 := by omega
    have n1 : ¬ r = nx := by omega
    with_reducible refine aU (by simp [u24]) ?_
    with_reducible refine aA ?_
    with_reducible refine aR fun K' hK => ?_
    simp [u5, u0, u6, u7, bnd_some, hfi, i1, hr, b1, b2, n1, treeOf_row, srcOf_row]
    refine hK _ _ _ ?_; clear K' hK
    with_reducible refine aR fun K' hK => ?_
    simp [u7, hw]
    refine hK _ _ _ ?_; clear K' hK
    with_reducible refine aw_skipL ?_
    refine blockK_normal ?_
    with_reducible refine aS fun K' hK => ?_
    simp [u7, hw]
    refine hK _ _ _ ?_; clear K' hK
    refine aw_skipL (loopK_normal ?_ ?_)
    ·refine ⟨by simp [u0], by simp [u1], i + 1, i + 1, _, by simp [hw], by simp [hw], hnew, nx + 1, by simp [strs_snoc], ?_, by omega⟩
     rw [strs_snoc, ← hsl, Hp.upd_self, ← flat_app]; rfl
    ·simp [t7, hw]; omega
  ·skip
   with_reducible refine aw_exit ?_
   refine loopK_exit (blockK_exit ?_)
   have hout : out = spl (bsL s) := by
    rcases hcut with h | h
    ·omega
    ·exact h.2.1
   subst hout
   with_reducible refine aR fun K' hK => ?_
   simp [t5]
   refine hK _ _ _ ?_; clear K' hK
   with_reducible refine aw_retL ?_
   simp [blockK, loopK, Post, resA, res1, expT, expA, exp1, expM, expL, okT, okA, ok1, rowOf, Tryz.f153, hr]
theorem spl_len : ∀ (l : List UInt8), ∀ x ∈ spl l, x.length ≤ l.length
 | [], x, h => by simp [spl] at h; simp [h]
 | b :: l, x, h => by
  have ih := spl_len l
  rw [spl] at h
  split at h
  ·rcases List.mem_cons.1 h with rfl | h
   ·simp
   ·have := ih x h
    simp; omega
  ·cases hs : spl l with
   | nil => exact absurd hs (spl_ne l)
   | cons p ps =>
    rw [hs] at h ih
    rcases List.mem_cons.1 h with rfl | h
    ·have := ih p (by simp)
     simp; omega
    ·have := ih x (List.mem_cons_of_mem _ h)
     simp; omega
theorem spl_count : ∀ (l : List UInt8), (spl l).length ≤ l.length + 1
 | [] => by simp [spl]
 | b :: l => by
  have ih := spl_count l
  rw [spl]
  split
  ·simp; omega
  ·cases hs : spl l with
   | nil => simp
   | cons p ps =>
    rw [hs] at ih
    simp at ih ⊢; omega
theorem strs_nth {L : List (List UInt8)} {i : Nat} (h : i < L.length) : nth (strs L) i = ofL (nth L i) := by
 rw [nth_eq (by simpa [strs] using h), nth_eq h]
 simp [strs]
theorem strs_len {L : List (List UInt8)} : (strs L).length = L.length := by simp [strs]
theorem right37_ok (v : Ver) (hs : v.pre.size ≤ 4000000000) : CallsOK Tryz.prog 101 [.agg v.cells] (bV (verOk v)) [] := by
 refine callsOK mixed Tryz.call101 Tryz.func101 rfl (by rw [Tryz.ntmps101]; simp) ?_ rfl
 rw [Tryz.ntmps101]
 have hl : (bsL v.pre).length = v.pre.size := bsL_len v.pre
 with_reducible refine aR fun K' hK => ?_
 simp
 refine hK _ _ _ ?_; clear K' hK
 with_reducible refine aA ?_
 with_reducible refine aR fun K' hK => ?_
 simp
 refine acall_flat (may57_ok v.maj) rfl (by first | rfl | (simp; done) | (simp; rfl) | (simp; exact ⟨rfl, rfl⟩)) ?_
 cases h1 : inR v.maj with
 | false =>
  simp
  refine hK _ _ _ ?_; clear K' hK
  with_reducible refine aX (by simp) ?_
  with_reducible refine aA ?_
  with_reducible refine aR fun K' hK => ?_
  simp
  refine hK _ _ _ ?_; clear K' hK
  with_reducible refine aw_ret ?_
  simp [blockK, loopK, Post, resA, res1, expT, expA, exp1, expM, expL, okT, okA, ok1, rowOf, Tryz.f101]
  simp [verOk, h1]
 | true =>
 simp
 refine acall_flat (may57_ok v.min) rfl (by first | rfl | (simp; done) | (simp; rfl) | (simp; exact ⟨rfl, rfl⟩)) ?_
 cases h2 : inR v.min with
 | false =>
  simp
  refine hK _ _ _ ?_; clear K' hK
  with_reducible refine aX (by simp) ?_
  with_reducible refine aA ?_
  with_reducible refine aR fun K' hK => ?_
  simp
  refine hK _ _ _ ?_; clear K' hK
  with_reducible refine aw_ret ?_
  simp [blockK, loopK, Post, resA, res1, expT, expA, exp1, expM, expL, okT, okA, ok1, rowOf, Tryz.f101]
  simp [verOk, h2]
 | true =>
 simp
 refine acall_flat (may57_ok v.pat) rfl (by first | rfl | (simp; done) | (simp; rfl) | (simp; exact ⟨rfl, rfl⟩)) ?_
 cases h3 : inR v.pat with
 | false =>
  simp
  refine hK _ _ _ ?_; clear K' hK
  with_reducible refine aX (by simp) ?_
  with_reducible refine aA ?_
  with_reducible refine aR fun K' hK => ?_
  simp
  refine hK _ _ _ ?_; clear K' hK
  with_reducible refine aw_ret ?_
  simp [blockK, loopK, Post, resA, res1, expT, expA, exp1, expM, expL, okT, okA, ok1, rowOf, Tryz.f101]
  simp [verOk, h3]
 | true =>
 simp
 refine hK _ _ _ ?_; clear K' hK
 with_reducible refine aYk (by simp) ?_
 by_cases he : v.pre = ⟨#[]⟩
 ·with_reducible refine aA ?_
  with_reducible refine aR fun K' hK => ?_
  simp [he]
  refine hK _ _ _ ?_; clear K' hK
  with_reducible refine aX (by simp) ?_
  with_reducible refine aA ?_
  with_reducible refine aR fun K' hK => ?_
  simp
  refine hK _ _ _ ?_; clear K' hK
  with_reducible refine aw_ret ?_
  simp [blockK, loopK, Post, resA, res1, expT, expA, exp1, expM, expL, okT, okA, ok1, rowOf, Tryz.f101]
  simp [verOk, h1, h2, h3, preOk, he, bsL_empty]
 ·have hne : ¬ bsL v.pre = [] := fun h => he ((empty_iff _).2 h)
  have hfin : verOk v = (decide ((spl (bsL v.pre)).length ≤ 5) && (spl (bsL v.pre)).all partF) := by
   rw [verOk, preOk, h1, h2, h3, dot_spl]
   simp [hne]
  rw [hfin]
  with_reducible refine aA ?_
  with_reducible refine aR fun K' hK => ?_
  simp [he]
  refine hK _ _ _ ?_; clear K' hK
  with_reducible refine aYk (by simp) ?_
  with_reducible refine aR fun K' hK => ?_
  simp
  refine acall_new (cut58_ok v.pre hs) (by first | rfl | (simp; done) | (simp; rfl) | (simp; exact ⟨rfl, rfl⟩)) ?_
  simp [addJ_one]
  refine hK _ _ _ ?_; clear K' hK
  with_reducible refine aA ?_
  with_reducible refine aR fun K' hK => ?_
  simp
  refine hK _ _ _ ?_; clear K' hK
  have hsl := spl_len (bsL v.pre)
  have hsc := spl_count (bsL v.pre)
  generalize spl (bsL v.pre) = L at hsl hsc
  have hLl : (strs L).length = L.length := strs_len
  refine aw_gen (fun s G nx => s 3 = .row 1 (strs L).length ∧ s 4 = iV 0 ∧ G 1 = some (.row 9 (flat sC (strs L)))) ?_ ?_
  ·simp
  rintro s G nx ⟨s3, s4, g1⟩
  with_reducible refine aw_block ?_
  refine aw_loop (fun s G nx => s 3 = .row 1 (strs L).length ∧ G 1 = some (.row 9 (flat sC (strs L))) ∧ ∃ i : Nat, s 4 = iV i ∧ i ≤ (strs L).length ∧ (L.take i).all partF = true) (fun s _ _ => match s 4 with | .v (.int _ n) => (strs L).length - n.toNat | _ => 0) ?_ ?_
  ·exact ⟨s3, g1, 0, by simp [s4], by omega, by simp⟩
  ·rintro s G nx - ⟨s3, g1, i, s4, hi, hall⟩
   with_reducible refine aA ?_
   with_reducible refine aR fun K' hK => ?_
   simp [s3, s4, g1]
   refine hK _ _ _ ?_; clear K' hK
   with_reducible refine aC fun A B hA hB => ?_
   simp
   refine ⟨fun hi2 => hA ?_, fun hi2 => hB ?_⟩ <;> clear hA hB A B <;> (try simp at hi2) <;> (try with_reducible refine aK ?_)
   ·have hi3 : i < L.length := by omega
    have hw : IntKind.i64.wrap (↑i + 1) = ((i + 1 : Nat) : Int) := wrapS (by omega)
    have hst := all_take1 (p := partF) hi3
    rw [hall, Bool.true_and] at hst
    have hmem := hsl _ (nth_mem hi3)
    have hpp := part59_ok (nth (strs L) i) (by rw [strs_nth hi3, ofL_size]; omega)
    rw [strs_nth hi3, bsL_ofL] at hpp
    with_reducible refine aw_block ?_
    with_reducible refine aR fun K' hK => ?_
    simp [s3, s4, g1, hi2, strs_nth hi3]
    refine acall_flat hpp rfl (by first | rfl | (simp; done) | (simp; rfl) | (simp; exact ⟨rfl, rfl⟩)) ?_
    cases hp : partF (nth L i) with
    | true =>
     rw [hp] at hst
     simp
     refine hK _ _ _ ?_; clear K' hK
     with_reducible refine aVk (by simp) ?_
     with_reducible refine aw_skipL ?_
     refine blockK_normal ?_
     with_reducible refine aS fun K' hK => ?_
     simp [s4, hw]
     refine hK _ _ _ ?_; clear K' hK
     refine aw_skipL (loopK_normal ?_ ?_)
     ·exact ⟨by simp [s3], g1, i + 1, by simp [hw], by omega, hst⟩
     ·simp [s4, hw]; omega
    | false =>
     simp
     refine hK _ _ _ ?_; clear K' hK
     with_reducible refine aU (by simp) ?_
     with_reducible refine aA ?_
     with_reducible refine aR fun K' hK => ?_
     simp
     refine hK _ _ _ ?_; clear K' hK
     with_reducible refine aw_ret ?_
     simp [blockK, loopK, Post, resA, res1, expT, expA, exp1, expM, expL, okT, okA, ok1, rowOf, Tryz.f101]
     intro _
     exact ⟨_, nth_mem hi3, hp⟩
   ·skip
    with_reducible refine aw_exit ?_
    refine loopK_exit (blockK_exit ?_)
    have : i = L.length := by omega
    subst this
    rw [List.take_length] at hall
    with_reducible refine aR fun K' hK => ?_
    simp [s3, g1]
    refine hK _ _ _ ?_; clear K' hK
    with_reducible refine aw_retL ?_
    simp [blockK, loopK, Post, resA, res1, expT, expA, exp1, expM, expL, okT, okA, ok1, rowOf, Tryz.f101]
    simp [hall, hLl]
    omega
set_option maxRecDepth 100000
set_option maxHeartbeats 1000000
def Pre (t : List Pl) (n : Nat) : Prop := parN t 0 = -1 ∧ ∀ j, 1 ≤ j → j ≤ n → 0 ≤ parN t j ∧ parN t j < j
theorem Pre.dn {t : List Pl} {n : Nat} (h : Pre t n) : ∀ j, j ≤ n → parN t j < j := by
 intro j hj
 rcases Nat.eq_zero_or_pos j with rfl | h1
 ·rw [h.1]; omega
 ·exact (h.2 j h1 hj).2
theorem Pre.le {t : List Pl} {n m : Nat} (h : Pre t n) (hm : m ≤ n) : Pre t m := ⟨h.1, fun j a b => h.2 j a (by omega)⟩
theorem upF_eqL {t : List Pl} {n : Nat} (hd : ∀ j, j ≤ n → parN t j < j) : ∀ (m k i : Nat), i < k → i < m → i ≤ n → upF t k i = upN t i
 | 0, k, i, _, h, _ => by omega
 | m + 1, 0, i, h, _, _ => by omega
 | m + 1, k + 1, i, hk, hm, hi => by
  have := hd i hi
  unfold upN
  rw [upF, upF]
  by_cases hp : parN t i < 0
  ·rw [if_pos hp, if_pos hp]
  ·rw [if_neg hp, if_neg hp, upF_eqL hd m k _ (by omega) (by omega) (by omega), upF_eqL hd m i _ (by omega) (by omega) (by omega)]
theorem up_stepL {t : List Pl} {n : Nat} (h : Pre t n) {i : Nat} (hi : i ≤ n) : upN t i = i :: (if parN t i < 0 then [] else upN t (parN t i).toNat) := by
 have := h.dn i hi
 conv => lhs; unfold upN
 rw [upF]
 by_cases hp : parN t i < 0
 ·rw [if_pos hp, if_pos hp]
 ·rw [if_neg hp, if_neg hp, upF_eqL h.dn (i + 1) i _ (by omega) (by omega) (by omega)]
theorem dD_valL {t : List Pl} {n : Nat} (hn : n < t.length) (h : Pre t n) : ∀ i, i ≤ n → ∀ j, j ≤ i → nth (dD t i) j + 1 = ((upN t j).length : Int)
 | 0, hi, j, hj => by
  have : j = 0 := by omega
  subst this
  rw [up_zero h.1, dD, nth_eq (by simp; omega)]
  simp
 | i + 1, hi, j, hj => by
  have ih := dD_valL hn h i (by omega)
  rw [dD, nth_setG (by rw [dD_len]; omega), nth_tail (by omega)]
  by_cases hj2 : j = i + 1
  ·subst hj2
   obtain ⟨h1, h2⟩ := h.2 (i + 1) (by omega) hi
   have hq : (nth t (i + 1)).par = parN t (i + 1) := rfl
   rw [if_pos rfl, hq, ih _ (by omega), up_stepL h hi, if_neg (by omega)]
   simp
  ·rw [if_neg hj2]
   exact ih j (by omega)
theorem okAt_iffL {t : List Pl} {i : Nat} (h : i + 1 < t.length) (hp : Pre t i) : okAt t i = true ↔ (0 ≤ parN t (i + 1) ∧ parN t (i + 1) ≤ i) ∧ rightF (nth t (i + 1)).name (nth t (i + 1)).ver = true ∧
  (∀ j, 1 ≤ j → j ≤ i → parN t j = parN t (i + 1) → (nth t j).name = (nth t (i + 1)).name → False) ∧ heightN t (i + 1) ≤ 12 := by
 rw [okAt_iff h]
 constructor
 ·rintro ⟨a, b, c, d⟩
  have hp' : Pre t (i + 1) := ⟨hp.1, fun j h1 h2 => by
   rcases Nat.lt_or_ge i j with h | h
   ·have : j = i + 1 := by omega
    subst this; omega
   ·exact hp.2 j h1 h⟩
  rw [dD_valL (by omega) hp i (Nat.le_refl _) _ (by omega)] at d
  refine ⟨a, b, c, ?_⟩
  unfold heightN
  rw [up_stepL hp' (Nat.le_refl _), if_neg (by omega)]
  simp; omega
 ·rintro ⟨a, b, c, d⟩
  have hp' : Pre t (i + 1) := ⟨hp.1, fun j h1 h2 => by
   rcases Nat.lt_or_ge i j with h | h
   ·have : j = i + 1 := by omega
    subst this; omega
   ·exact hp.2 j h1 h⟩
  refine ⟨a, b, c, ?_⟩
  rw [dD_valL (by omega) hp i (Nat.le_refl _) _ (by omega)]
  unfold heightN at d
  rw [up_stepL hp' (Nat.le_refl _), if_neg (by omega)] at d
  simp at d; omega
theorem Good.pre {t : List Pl} (g : Good t) {n : Nat} (hn : n < t.length) : Pre t n := ⟨root_par g.root, fun j h1 h2 => g.par j h1 (by omega)⟩
-- child
def chR (t : List Pl) (m : Nat) (p : Int) (b : Bs) : Int := match (List.range m).find? (fun i => decide (1 ≤ i) && chP p b (nth t i)) with
 | some i => i
 | none => -1
theorem find_range {q : Nat → Bool} {i : Nat} (hq : q i = true) : ∀ m : Nat, i < m → (∀ j, j < i → q j = false) → (List.range m).find? q = some i
 | 0, h, _ => by omega
 | m + 1, h, hn => by
  rw [List.range_succ, List.find?_append]
  rcases Nat.lt_or_ge i m with h1 | h1
  ·rw [find_range hq m h1 hn]; rfl
  ·have : i = m := by omega
   subst this
   have h0 : (List.range i).find? q = none := by
    rw [List.find?_eq_none]
    intro x hx
    rw [hn x (List.mem_range.1 hx)]; simp
   rw [h0]; simp [hq]
theorem chR_at {t : List Pl} {m i : Nat} {p : Int} {b : Bs} (h1 : 1 ≤ i) (hi : i < m) (hq : chP p b (nth t i) = true) (hn : ∀ j, 1 ≤ j → j < i → chP p b (nth t j) = false) : chR t m p b = i := by
 unfold chR
 rw [find_range (i := i) (by simp [h1, hq]) m hi (fun j hj => by
  by_cases h : 1 ≤ j
  ·simp [hn j h hj]
  ·simp [h])]
theorem chR_no {t : List Pl} {m : Nat} {p : Int} {b : Bs} (hn : ∀ j, 1 ≤ j → j < m → chP p b (nth t j) = false) : chR t m p b = -1 := by
 unfold chR
 have h0 : (List.range m).find? (fun i => decide (1 ≤ i) && chP p b (nth t i)) = none := by
  rw [List.find?_eq_none]
  intro x hx
  by_cases h : 1 ≤ x
  ·simp [hn x h (List.mem_range.1 hx)]
  ·simp [h]
 rw [h0]
theorem chR_nn {t : List Pl} {m : Nat} {p : Int} {b : Bs} : 0 ≤ chR t m p b ↔ ∃ k, 1 ≤ k ∧ k < m ∧ parN t k = p ∧ (nth t k).name = b := by
 unfold chR
 cases h : (List.range m).find? (fun i => decide (1 ≤ i) && chP p b (nth t i)) with
 | some i =>
  have h1 := List.mem_range.1 (List.mem_of_find?_eq_some h)
  have h2 := List.find?_some h
  simp [chP] at h2
  simp only [Int.natCast_nonneg, true_iff]
  exact ⟨i, h2.1, h1, h2.2.1, h2.2.2⟩
 | none =>
  rw [List.find?_eq_none] at h
  constructor
  ·intro h
   have h : (0 : Int) ≤ -1 := h
   omega
  ·rintro ⟨k, h1, h2, h3, h4⟩
   refine absurd ?_ (h k (List.mem_range.2 h2))
   simp [h1, chP, h4]
   exact h3
theorem chR_eq {t : List Pl} {p : Int} {b : Bs} (g : Good t) (hp : 0 ≤ p) : chR t t.length p b = atI (chF t p b) := by
 have h0 := root_par g.root
 cases h : chF t p b with
 | some k =>
  obtain ⟨a1, a2, a3⟩ := chF_some h
  have hk : 1 ≤ k := by
   rcases Nat.eq_zero_or_pos k with rfl | h
   ·omega
   ·exact h
  refine chR_at hk a1 (by simp [chP, a3]; exact a2) fun j j1 jk => ?_
  cases hq : chP p b (nth t j) with
  | false => rfl
  | true =>
   simp [chP] at hq
   have := g.child hp (k := j) (by omega) hq.1 hq.2
   rw [h] at this
   injection this with this
   omega
 | none =>
  refine chR_no fun j j1 jl => ?_
  cases hq : chP p b (nth t j) with
  | false => rfl
  | true =>
   simp [chP] at hq
   exact (chF_none.1 h j jl hq.1 hq.2).elim
theorem child38_ok (t : List Pl) (hl : t.length ≤ 1000000000) (m : Nat) (hm : m ≤ t.length) (p : Int) (b : Bs) : CallsOK Tryz.prog 164 [rowT Pl.cells t, iV m, iV p, sV b] (iV (chR t m p b)) [] := by
 refine callsOK mixed Tryz.call164 Tryz.func164 rfl (by rw [Tryz.ntmps164]; simp) ?_ rfl
 rw [Tryz.ntmps164]
 with_reducible refine aR fun K' hK => ?_
 simp
 refine hK _ _ _ ?_; clear K' hK
 with_reducible refine aA ?_
 with_reducible refine aR fun K' hK => ?_
 simp
 refine hK _ _ _ ?_; clear K' hK
 with_reducible refine aw_block ?_
 refine aw_loop (fun s G nx => s 0 = rowT Pl.cells t ∧ s 1 = iV m ∧ s 2 = iV p ∧ s 3 = sV b ∧ ∃ i : Nat, s 9 = iV i ∧ i ≤ m + 1 ∧ 1 ≤ i ∧ ∀ j, 1 ≤ j → j < i → chP p b (nth t j) = false) (fun s _ _ => match s 9 with | .v (.int _ n) => m + 1 - n.toNat | _ => 0) ?_ ?_
 ·exact ⟨by simp, by simp, by simp, by simp, 1, by simp, by omega, by omega, fun j a b => by omega⟩
 ·rintro s G nx - ⟨s0, s1, s2, s3, i, s9, hi, hi1, hn⟩
  have hw : IntKind.i64.wrap (↑i + 1) = ((i + 1 : Nat) : Int) := wrapS (by omega)
  with_reducible refine aA ?_
  with_reducible refine aR fun K' hK => ?_
  simp [s1, s9]
  refine hK _ _ _ ?_; clear K' hK
  with_reducible refine aC fun A B hA hB => ?_
  simp
  refine ⟨fun hi2 => hA ?_, fun hi2 => hB ?_⟩ <;> clear hA hB A B <;> (try simp at hi2) <;> (try with_reducible refine aK ?_)
  ·have hi3 : i < t.length := by omega
   with_reducible refine aw_block ?_
   by_cases c1 : (nth t i).par = p
   ·by_cases c2 : (nth t i).name = b
    ·skip
     with_reducible refine aR fun K' hK => ?_
     simp [s0, s2, s3, s9, hi3, c1, c2]
     refine hK _ _ _ ?_; clear K' hK
     with_reducible refine aU (by simp) ?_
     with_reducible refine aA ?_
     with_reducible refine aR fun K' hK => ?_
     simp [s9]
     refine hK _ _ _ ?_; clear K' hK
     with_reducible refine aw_ret ?_
     simp [blockK, loopK, Post, resA, res1, expT, expA, exp1, expM, expL, okT, okA, ok1, rowOf, Tryz.f164]
     exact (chR_at hi1 hi2 (by simp [chP, c1, c2]) hn).symm
    ·skip
     with_reducible refine aR fun K' hK => ?_
     simp [s0, s2, s3, s9, hi3, c1, c2]
     refine hK _ _ _ ?_; clear K' hK
     with_reducible refine aVk (by simp) ?_
     with_reducible refine aw_skipL ?_
     refine blockK_normal ?_
     with_reducible refine aS fun K' hK => ?_
     simp [s9, hw]
     refine hK _ _ _ ?_; clear K' hK
     refine aw_skipL (loopK_normal ?_ ?_)
     ·refine ⟨by simp [s0], by simp [s1], by simp [s2], by simp [s3], i + 1, by simp [hw], by omega, by omega, fun j a b => ?_⟩
      rcases Nat.lt_or_ge j i with h | h
      ·exact hn j a h
      ·have : j = i := by omega
       subst this; simp [chP, c2]
     ·simp [s9, hw]; omega
   ·skip
    with_reducible refine aR fun K' hK => ?_
    simp [s0, s2, s3, s9, hi3, c1]
    refine hK _ _ _ ?_; clear K' hK
    with_reducible refine aVk (by simp) ?_
    with_reducible refine aw_skipL ?_
    refine blockK_normal ?_
    with_reducible refine aS fun K' hK => ?_
    simp [s9, hw]
    refine hK _ _ _ ?_; clear K' hK
    refine aw_skipL (loopK_normal ?_ ?_)
    ·refine ⟨by simp [s0], by simp [s1], by simp [s2], by simp [s3], i + 1, by simp [hw], by omega, by omega, fun j a b => ?_⟩
     rcases Nat.lt_or_ge j i with h | h
     ·exact hn j a h
     ·have : j = i := by omega
      subst this; simp [chP, c1]
    ·simp [s9, hw]; omega
  ·skip
   with_reducible refine aw_exit ?_
   refine loopK_exit (blockK_exit ?_)
   with_reducible refine aR fun K' hK => ?_
   simp
   refine hK _ _ _ ?_; clear K' hK
   with_reducible refine aw_retL ?_
   simp [blockK, loopK, Post, resA, res1, expT, expA, exp1, expM, expL, okT, okA, ok1, rowOf, Tryz.f164]
   exact (chR_no fun j a b => hn j a (by omega)).symm
theorem height39_ok (t : List Pl) (hl : t.length ≤ 1000000000) (n : Nat) (hn : n < t.length) (hp : Pre t n) : CallsOK Tryz.prog 165 [rowT Pl.cells t, iV n] (iV (heightN t n)) [] := by
 refine callsOK mixed Tryz.call165 Tryz.func165 rfl (by rw [Tryz.ntmps165]; simp) ?_ rfl
 rw [Tryz.ntmps165]
 have htot := up_len (t := t) n
 with_reducible refine aR fun K' hK => ?_
 simp
 refine hK _ _ _ ?_; clear K' hK
 with_reducible refine aR fun K' hK => ?_
 simp
 refine hK _ _ _ ?_; clear K' hK
 with_reducible refine aw_block ?_
 refine aw_loop (fun s G nx => s 0 = rowT Pl.cells t ∧ ∃ (j h : Nat), s 1 = iV j ∧ s 5 = iV h ∧ j ≤ n ∧ h + (upN t j).length = (upN t n).length) (fun s _ _ => match s 1 with | .v (.int _ n) => n.toNat | _ => 0) ?_ ?_
 ·exact ⟨by simp, n, 0, by simp, by simp, by omega, by omega⟩
 ·rintro s G nx - ⟨s0, j, h, s1, s5, hj, hh⟩
  have o1 := s1
  with_reducible refine aA ?_
  with_reducible refine aR fun K' hK => ?_
  simp [s1]
  refine hK _ _ _ ?_; clear K' hK
  by_cases hj0 : (0 : Int) < j
  ·have hpj := hp.2 j (by omega) hj
   have hst := up_stepL hp hj
   rw [if_neg (by omega)] at hst
   rw [hst] at hh
   simp at hh
   obtain ⟨k, hk⟩ : ∃ k : Nat, parN t j = k := ⟨(parN t j).toNat, by omega⟩
   have hkp : (nth t j).par = k := hk
   rw [hk] at hh hpj
   have hj3 : j < t.length := by omega
   have hw : IntKind.i64.wrap (↑h + 1) = ((h + 1 : Nat) : Int) := wrapS (by omega)
   (first | with_reducible refine aC fun A B hA hB => ?_ | with_reducible refine aD fun A B hA hB => ?_)
   simp [hj0]
   refine ⟨fun hc => hA ?_, fun hc => hB ?_⟩ <;> clear hA hB A B <;> (try (simp at hc; done)) <;> (try (exfalso; simp at hc; omega)) <;> clear hc <;> (try with_reducible refine aK ?_)
   with_reducible refine aw_toS (aw_block ?_)
   with_reducible refine aR fun K' hK => ?_
   simp [s0, s1, hj3, hkp]
   refine hK _ _ _ ?_; clear K' hK
   with_reducible refine aS fun K' hK => ?_
   simp [s5, hw]
   refine hK _ _ _ ?_; clear K' hK
   with_reducible refine aw_skipL ?_
   refine blockK_normal ?_
   refine aw_skipL (loopK_normal ?_ ?_)
   ·exact ⟨by simp [s0], k, h + 1, by simp, by simp [hw], by omega, by simp at hh; omega⟩
   ·simp [o1]; omega
  ·have : j = 0 := by omega
   subst this
   rw [up_zero hp.1] at hh
   with_reducible refine aY (by simp [hj0]) ?_
   with_reducible refine aw_exit ?_
   refine loopK_exit (blockK_exit ?_)
   with_reducible refine aR fun K' hK => ?_
   simp [s5]
   refine hK _ _ _ ?_; clear K' hK
   with_reducible refine aw_retL ?_
   simp [blockK, loopK, Post, resA, res1, expT, expA, exp1, expM, expL, okT, okA, ok1, rowOf, Tryz.f165]
   unfold heightN
   simp at hh; omega
set_option maxRecDepth 100000
set_option maxHeartbeats 1000000
theorem rightF_eq (b : Bs) (v : Ver) : rightF b v = (goodF (bsL b) && verOk v) := by
 unfold rightF
 rw [Bool.and_comm]
theorem check25_ok (t : List Pl) (ht : OKs t) : CallsOK Tryz.prog 110 [rowT Pl.cells t] (iV (checkN t)) [] := by
 refine callsOK mixed Tryz.call110 Tryz.func110 rfl (by rw [Tryz.ntmps110]; simp) ?_ rfl
 rw [Tryz.ntmps110]
 have hl := ht.1
 with_reducible refine aR fun K' hK => ?_
 simp
 refine hK _ _ _ ?_; clear K' hK
 with_reducible refine aA ?_
 with_reducible refine aR fun K' hK => ?_
 simp
 refine hK _ _ _ ?_; clear K' hK
 by_cases h2 : (200 : Int) < t.length
 ·skip
  with_reducible refine aX (by simp [h2]) ?_
  with_reducible refine aA ?_
  with_reducible refine aR fun K' hK => ?_
  simp
  refine hK _ _ _ ?_; clear K' hK
  with_reducible refine aw_ret ?_
  simp [blockK, loopK, Post, resA, res1, expT, expA, exp1, expM, expL, okT, okA, ok1, rowOf, Tryz.f110]
  rw [checkN, if_pos (by omega)]
 with_reducible refine aYk (by simp [h2]) ?_
 have h2' : ¬ 200 < t.length := by omega
 with_reducible refine aR fun K' hK => ?_
 simp [rootC]
 refine hK _ _ _ ?_; clear K' hK
 by_cases he : t = []
 ·with_reducible refine aA ?_
  with_reducible refine aQ fun K' hK => ?_
  simp (maxSteps := 1000000) [he]
  refine hK _ _ _ ?_; clear K' hK
  with_reducible refine aX (by simp) ?_
  with_reducible refine aA ?_
  with_reducible refine aR fun K' hK => ?_
  simp
  refine hK _ _ _ ?_; clear K' hK
  with_reducible refine aw_ret ?_
  simp [blockK, loopK, Post, resA, res1, expT, expA, exp1, expM, expL, okT, okA, ok1, rowOf, Tryz.f110]
  rw [checkN, if_neg h2', if_pos (.inl he)]
 have hpos : 0 < t.length := List.length_pos_iff.2 he
 have hpos' : (0 : Int) < t.length := by omega
 have hz : ¬ (t.length : Int) = 0 := by omega
 by_cases hr : nth t 0 = rootP
 case neg =>
  with_reducible refine aA ?_
  with_reducible refine aQ fun K' hK => ?_
  simp (maxSteps := 1000000) [hz, hpos, hpos', hr, he, rootC]
  refine hK _ _ _ ?_; clear K' hK
  with_reducible refine aX (by simp) ?_
  with_reducible refine aA ?_
  with_reducible refine aR fun K' hK => ?_
  simp
  refine hK _ _ _ ?_; clear K' hK
  with_reducible refine aw_ret ?_
  simp [blockK, loopK, Post, resA, res1, expT, expA, exp1, expM, expL, okT, okA, ok1, rowOf, Tryz.f110]
  rw [checkN, if_neg h2', if_pos (.inr hr)]
 with_reducible refine aA ?_
 with_reducible refine aQ fun K' hK => ?_
 simp (maxSteps := 1000000) [hz, hpos, hpos', hr, he, rootC]
 refine hK _ _ _ ?_; clear K' hK
 with_reducible refine aYk (by simp) ?_
 with_reducible refine aA ?_
 with_reducible refine aR fun K' hK => ?_
 simp
 refine hK _ _ _ ?_; clear K' hK
 with_reducible refine aw_block ?_
 have hbad : ∀ {i : Nat}, i + 1 < t.length → okAt t i = false → checkN t = 150 := fun {i} hi h => by
  rw [checkN, if_neg h2', if_neg (by simp [he, hr]), treeOk, range_false (i := i) (by rw [List.length_tail]; omega) h]; rfl
 refine aw_loop (fun s G nx => s 0 = rowT Pl.cells t ∧ ∃ m : Nat, s 4 = iV m ∧ 1 ≤ m ∧ m ≤ t.length ∧ ∀ j, j + 1 < m → okAt t j = true) (fun s _ _ => match s 4 with | .v (.int _ n) => t.length - n.toNat | _ => 0) ?_ ?_
 ·exact ⟨by simp, 1, by simp, by omega, by omega, fun j hj => by omega⟩
 ·rintro s G nx - ⟨s0, m, s4, hm1, hm, hall⟩
  have o4 := s4
  have hw : IntKind.i64.wrap ((m : Int) + 1) = ((m + 1 : Nat) : Int) := wrapS (by omega)
  obtain ⟨i, hmi⟩ : ∃ i, m = i + 1 := ⟨m - 1, by omega⟩
  have hpre : Pre t i := ⟨root_par hr, fun j h1 hj => by
   obtain ⟨j, rfl⟩ : ∃ m, j = m + 1 := ⟨j - 1, by omega⟩
   have := okAt_par (t := t) (i := j) (by omega) (hall j (by omega))
   omega⟩
  with_reducible refine aA ?_
  with_reducible refine aR fun K' hK => ?_
  simp [s0, s4]
  refine hK _ _ _ ?_; clear K' hK
  with_reducible refine aC fun A B hA hB => ?_
  simp
  refine ⟨fun hi2 => hA ?_, fun hi2 => hB ?_⟩ <;> clear hA hB A B <;> (try simp at hi2) <;> (try with_reducible refine aK ?_)
  ·have hi3 : i + 1 < t.length := by omega
   have hok := okAt_iffL hi3 hpre
   rw [← hmi] at hok
   have hpm : nth t m ∈ t := nth_mem hi2
   obtain ⟨b1, b2⟩ := ht.2 _ hpm
   have hpar : parN t m = (nth t m).par := rfl
   generalize hp : nth t m = p at hpar hok b1 b2
   rw [hpar] at hok
   have hff : ¬ ((0 ≤ p.par ∧ p.par ≤ i) ∧ rightF p.name p.ver = true ∧ (∀ (j : Nat), 1 ≤ j → j ≤ i → parN t j = p.par → (nth t j).name = p.name → False) ∧ heightN t m ≤ 12) → okAt t i = false := fun h => by
    cases h1 : okAt t i with
    | false => rfl
    | true => exact (h (hok.1 h1)).elim
   with_reducible refine aw_block ?_
   refine aw_cut (fun u G' nx' => u 0 = rowT Pl.cells t ∧ u 4 = iV m ∧ ∃ id, u 5 = .ptr id 0 ∧ G' id = some (.var 58 p.cells) ∧ id < nx') ?_ ?_
   ·skip
    with_reducible refine aS fun K' hK => ?_
    simp [s0, s4, hi2, hp]
    refine hK _ _ _ ?_; clear K' hK
    with_reducible refine aw_end ?_
    exact ⟨by simp [s0], by simp [s4], nx, by simp, by simp, by omega⟩
   rintro u H ny ⟨u0, u4, id, u5, hid, hidn⟩
   refine aw_cut (fun v H ny => v 0 = rowT Pl.cells t ∧ v 4 = iV m ∧ v 66 = bV (!okAt t i)) ?_ ?_
   ·by_cases c1 : p.par < 0
    ·have hf := hff (fun h => by omega)
     with_reducible refine aS fun K' hK => ?_
     simp [u5, hid, c1]
     refine hK _ _ _ ?_; clear K' hK
     with_reducible refine aw_end ?_
     simp [u0, u4, hf]
    by_cases c2 : (m : Int) ≤ p.par
    ·have hf := hff (fun h => by omega)
     with_reducible refine aS fun K' hK => ?_
     simp [u4, u5, hid, c1, c2]
     refine hK _ _ _ ?_; clear K' hK
     with_reducible refine aw_end ?_
     simp [u0, u4, hf]
    have hpre2 : Pre t m := ⟨hpre.1, fun j h1 hj => by
     rcases Nat.lt_or_ge i j with h | h
     ·have : j = m := by omega
      subst this
      rw [hpar]; omega
     ·exact hpre.2 j h1 h⟩
    with_reducible refine aS fun K' hK => ?_
    simp [u4, u5, hid, c1, c2]
    refine acall_flat (good36_ok p.name (by omega)) rfl (by first | rfl | (simp; done) | (simp; rfl) | (simp; exact ⟨rfl, rfl⟩)) ?_
    cases c3 : goodF (bsL p.name) with
    | false =>
     have hf := hff (fun h => by have := h.2.1; rw [rightF_eq, c3] at this; cases this)
     simp
     refine hK _ _ _ ?_; clear K' hK
     with_reducible refine aw_end ?_
     simp [u0, u4, hf]
    | true =>
    simp [u5, hid]
    refine acall_flat (right37_ok p.ver (by omega)) rfl (by first | rfl | (simp; done) | (simp; rfl) | (simp; exact ⟨rfl, rfl⟩)) ?_
    cases c4 : verOk p.ver with
    | false =>
     have hf := hff (fun h => by have := h.2.1; rw [rightF_eq, c4] at this; simp at this)
     simp
     refine hK _ _ _ ?_; clear K' hK
     with_reducible refine aw_end ?_
     simp [u0, u4, hf]
    | true =>
    simp [u0, u4, u5, hid]
    refine acall_flat (child38_ok t hl m (by omega) p.par p.name) rfl (by first | rfl | (simp; done) | (simp; rfl) | (simp; exact ⟨rfl, rfl⟩)) ?_
    have hch := chR_nn (t := t) (m := m) (p := p.par) (b := p.name)
    by_cases c5 : 0 ≤ chR t m p.par p.name
    ·have hf := hff (fun h => by
      obtain ⟨k, k1, k2, k3, k4⟩ := hch.1 c5
      exact h.2.2.1 k k1 (by omega) k3 k4)
     simp [c5]
     refine hK _ _ _ ?_; clear K' hK
     with_reducible refine aw_end ?_
     simp [u0, u4, hf]
    simp [c5, u0, u4]
    refine acall_flat (height39_ok t hl m hi2 hpre2) rfl (by first | rfl | (simp; done) | (simp; rfl) | (simp; exact ⟨rfl, rfl⟩)) ?_
    by_cases c6 : 12 < heightN t m
    ·have hf := hff (fun h => by omega)
     simp [c6]
     refine hK _ _ _ ?_; clear K' hK
     with_reducible refine aw_end ?_
     simp [u0, u4, hf]
    ·have hf : okAt t i = true := hok.2 ⟨by omega, by rw [rightF_eq, c3, c4]; rfl, fun j j1 j2 j3 j4 => c5 (hch.2 ⟨j, j1, by omega, j3, j4⟩), by omega⟩
     simp [c6]
     refine hK _ _ _ ?_; clear K' hK
     with_reducible refine aw_end ?_
     simp [u0, u4, hf]
   rintro v H ny ⟨v0, v4, v66⟩
   cases hf : okAt t i with
   | false =>
    rw [hf] at v66
    with_reducible refine aU (by simp [v66]) ?_
    with_reducible refine aA ?_
    with_reducible refine aR fun K' hK => ?_
    simp
    refine hK _ _ _ ?_; clear K' hK
    with_reducible refine aw_ret ?_
    simp [blockK, loopK, Post, resA, res1, expT, expA, exp1, expM, expL, okT, okA, ok1, rowOf, Tryz.f110]
    exact (hbad hi3 hf).symm
   | true =>
    rw [hf] at v66
    with_reducible refine aVk (by simp [v66]) ?_
    with_reducible refine aw_skipL ?_
    refine blockK_normal ?_
    with_reducible refine aS fun K' hK => ?_
    simp [v4, hw]
    refine hK _ _ _ ?_; clear K' hK
    refine aw_skipL (loopK_normal ?_ ?_)
    ·refine ⟨by simp [v0], m + 1, by simp [hw], by omega, by omega, fun j hj => ?_⟩
     rcases Nat.lt_or_ge j i with h | h
     ·exact hall j (by omega)
     ·have : j = i := by omega
      subst this; exact hf
    ·simp [o4, hw]; omega
  ·skip
   with_reducible refine aw_exit ?_
   refine loopK_exit (blockK_exit ?_)
   with_reducible refine aR fun K' hK => ?_
   simp
   refine hK _ _ _ ?_; clear K' hK
   with_reducible refine aw_retL ?_
   simp [blockK, loopK, Post, resA, res1, expT, expA, exp1, expM, expL, okT, okA, ok1, rowOf, Tryz.f110]
   have hto : treeOk t = true := by
    unfold treeOk
    rw [List.all_eq_true]
    intro j hj
    have := List.mem_range.1 hj
    rw [List.length_tail] at this
    exact hall j (by omega)
   rw [checkN, if_neg h2', if_neg (by simp [he, hr]), if_pos hto]
set_option maxRecDepth 100000
set_option maxHeartbeats 1000000
theorem under50_ok (t : List Pl) (g : Good t) (i : Nat) (hi : i < t.length) (x : Nat) : CallsOK Tryz.prog 202 [rowT Pl.cells t, iV i, iV x] (bV (underF t i x)) [] := by
 refine callsOK mixed Tryz.call202 Tryz.func202 rfl (by rw [Tryz.ntmps202]; simp) ?_ rfl
 rw [Tryz.ntmps202]
 with_reducible refine aR fun K' hK => ?_
 simp
 refine hK _ _ _ ?_; clear K' hK
 with_reducible refine aw_block ?_
 refine aw_loop (fun s G nx => s 0 = rowT Pl.cells t ∧ s 2 = iV x ∧ ∃ j : Nat, s 1 = iV j ∧ j < t.length ∧ underF t j x = underF t i x) (fun s _ _ => match s 1 with | .v (.int _ n) => n.toNat | _ => 0) ?_ ?_
 ·exact ⟨by simp, by simp, i, by simp, hi, rfl⟩
 ·rintro s G nx - ⟨s0, s2, j, s1, hj, hu⟩
  have o1 := s1
  with_reducible refine aA ?_
  with_reducible refine aR fun K' hK => ?_
  simp [s1, s2]
  refine hK _ _ _ ?_; clear K' hK
  with_reducible refine aC fun A B hA hB => ?_
  simp
  refine ⟨fun hx => hA ?_, fun hx => hB ?_⟩ <;> clear hA hB A B <;> (try simp at hx) <;> (try with_reducible refine aK ?_)
  ·have hp := g.par j (by omega) hj
   obtain ⟨k, hk⟩ : ∃ k : Nat, parN t j = k := ⟨(parN t j).toNat, by omega⟩
   have hkp : (nth t j).par = k := hk
   have hst := under_step g.dn hj (x : Int)
   rw [hk] at hst hp
   have h1 : ¬ (j : Int) = x := by omega
   have h2 : ¬ (k : Int) < 0 := by omega
   simp only [h1, h2, decide_false, Bool.false_or, Bool.not_false, Bool.true_and, Int.toNat_natCast] at hst
   with_reducible refine aw_toS (aw_block ?_)
   with_reducible refine aS fun K' hK => ?_
   simp [s0, s1, hj, hkp]
   refine hK _ _ _ ?_; clear K' hK
   with_reducible refine aw_skipL ?_
   refine blockK_normal ?_
   refine aw_skipL (loopK_normal ?_ ?_)
   ·exact ⟨by simp [s0], by simp [s2], k, by simp, by omega, by rw [← hst]; exact hu⟩
   ·simp [o1]; omega
  ·skip
   with_reducible refine aw_exit ?_
   refine loopK_exit (blockK_exit ?_)
   with_reducible refine aR fun K' hK => ?_
   simp [s1, s2]
   refine hK _ _ _ ?_; clear K' hK
   with_reducible refine aw_retL ?_
   simp [blockK, loopK, Post, resA, res1, expT, expA, exp1, expM, expL, okT, okA, ok1, rowOf, Tryz.f202]
   rw [← hu]
   by_cases he : j = x
   ·subst he
    simp [under_self g hj]
   ·have : underF t j x = false := by
     cases h : underF t j x with
     | false => rfl
     | true => have := under_ge g hj h; omega
    rw [this]
    simp; omega
theorem resolved49_ok (t : List Pl) (g : Good t) (ht : OKs t) (i : Nat) (hi : i < t.length) (b : Bs) : CallsOK Tryz.prog 136 [rowT Pl.cells t, iV i, sV b] (iV (resolveN t i b)) [] := by
 refine callsOK mixed Tryz.call136 Tryz.func136 rfl (by rw [Tryz.ntmps136]; simp) ?_ rfl
 rw [Tryz.ntmps136]
 with_reducible refine aR fun K' hK => ?_
 simp
 refine hK _ _ _ ?_; clear K' hK
 with_reducible refine aw_block ?_
 refine aw_loop (fun s G nx => s 0 = rowT Pl.cells t ∧ s 2 = sV b ∧ ∃ p : Int, s 1 = iV p ∧ ((∃ j : Nat, p = j ∧ j < t.length ∧ resolveN t j b = resolveN t i b) ∨ (p = -1 ∧ resolveN t i b = -1))) (fun s _ _ => match s 1 with | .v (.int _ n) => (n + 1).toNat | _ => 0) ?_ ?_
 ·exact ⟨by simp, by simp, i, by simp, .inl ⟨i, rfl, hi, rfl⟩⟩
 ·rintro s G nx - ⟨s0, s2, p, s1, hp⟩
  rcases hp with ⟨j, rfl, hj, hr⟩ | ⟨rfl, hr⟩
  ·have o1 := s1
   have hd := g.dn j hj
   have hge : -1 ≤ parN t j := by
    rcases Nat.eq_zero_or_pos j with rfl | h
    ·rw [root_par g.root]; omega
    ·have := g.par j h hj; omega
   have hch := chR_eq (b := b) g (p := (j : Int)) (by omega)
   with_reducible refine aA ?_
   with_reducible refine aR fun K' hK => ?_
   simp [s1]
   refine hK _ _ _ ?_; clear K' hK
   with_reducible refine aXk (by simp) ?_
   with_reducible refine aw_toS (aw_block ?_)
   with_reducible refine aR fun K' hK => ?_
   simp [s0, s1, s2]
   refine acall_flat (child38_ok t ht.1 t.length (Nat.le_refl _) j b) rfl (by first | rfl | (simp; done) | (simp; rfl) | (simp; exact ⟨rfl, rfl⟩)) ?_
   rw [hch]
   simp
   refine hK _ _ _ ?_; clear K' hK
   cases hc : chF t j b with
   | some k =>
    rw [res_at g hj hc] at hr
    have h0 : (0 : Int) ≤ atI (some k) := by simp [atI]
    with_reducible refine aA ?_
    with_reducible refine aR fun K' hK => ?_
    simp [h0]
    refine hK _ _ _ ?_; clear K' hK
    with_reducible refine aX (by simp) ?_
    with_reducible refine aA ?_
    with_reducible refine aR fun K' hK => ?_
    simp
    refine hK _ _ _ ?_; clear K' hK
    with_reducible refine aw_ret ?_
    simp [blockK, loopK, Post, resA, res1, expT, expA, exp1, expM, expL, okT, okA, ok1, rowOf, Tryz.f136]
    rw [← hr]; rfl
   | none =>
    have h0 : ¬ (0 : Int) ≤ atI none := by simp [atI]
    with_reducible refine aA ?_
    with_reducible refine aR fun K' hK => ?_
    simp [h0]
    refine hK _ _ _ ?_; clear K' hK
    with_reducible refine aYk (by simp) ?_
    with_reducible refine aS fun K' hK => ?_
    simp [s0, s1, hj]
    refine hK _ _ _ ?_; clear K' hK
    with_reducible refine aw_skipL ?_
    refine blockK_normal ?_
    refine aw_skipL (loopK_normal ?_ ?_)
    ·refine ⟨by simp [s0], by simp [s2], parN t j, by simp [parN], ?_⟩
     by_cases hp : 0 ≤ parN t j
     ·rw [res_up g hj hc hp] at hr
      exact .inl ⟨(parN t j).toNat, by omega, by omega, by rw [Int.toNat_of_nonneg hp]; exact hr⟩
     ·rw [res_root g hj hc (by omega)] at hr
      exact .inr ⟨by omega, hr.symm⟩
    ·simp [o1]
     have : (nth t j).par = parN t j := rfl
     omega
  ·with_reducible refine aA ?_
   with_reducible refine aR fun K' hK => ?_
   simp [s1]
   refine hK _ _ _ ?_; clear K' hK
   with_reducible refine aY (by simp) ?_
   with_reducible refine aw_exit ?_
   refine loopK_exit (blockK_exit ?_)
   with_reducible refine aR fun K' hK => ?_
   simp
   refine hK _ _ _ ?_; clear K' hK
   with_reducible refine aw_retL ?_
   simp [blockK, loopK, Post, resA, res1, expT, expA, exp1, expM, expL, okT, okA, ok1, rowOf, Tryz.f136]
   exact hr.symm
theorem ints27_ok (a b : List Int) (ha : a.length ≤ 1000000000) : CallsOK Tryz.prog 37 [rowT iC a, rowT iC b] (bV (decide (a = b))) [] := by
 refine callsOK mixed Tryz.call37 Tryz.func37 rfl (by rw [Tryz.ntmps37]; simp) ?_ rfl
 rw [Tryz.ntmps37]
 with_reducible refine aR fun K' hK => ?_
 simp
 refine hK _ _ _ ?_; clear K' hK
 with_reducible refine aA ?_
 with_reducible refine aR fun K' hK => ?_
 simp
 refine hK _ _ _ ?_; clear K' hK
 with_reducible refine aC fun A B hA hB => ?_
 simp
 refine ⟨fun hl => hA ?_, fun hl => hB ?_⟩ <;> clear hA hB A B <;> (try simp at hl) <;> (try with_reducible refine aK ?_)
 ·with_reducible refine aA ?_
  with_reducible refine aR fun K' hK => ?_
  simp
  refine hK _ _ _ ?_; clear K' hK
  with_reducible refine aw_ret ?_
  simp [blockK, loopK, Post, resA, res1, expT, expA, exp1, expM, expL, okT, okA, ok1, rowOf, Tryz.f37]
  intro e; exact hl (by rw [e])
 ·with_reducible refine aA ?_
  with_reducible refine aR fun K' hK => ?_
  simp
  refine hK _ _ _ ?_; clear K' hK
  with_reducible refine aw_block ?_
  refine aw_loop (fun s G nx => s 0 = rowT iC a ∧ s 1 = rowT iC b ∧ ∃ i : Nat, s 5 = iV i ∧ i ≤ a.length ∧ a.take i = b.take i) (fun s _ _ => match s 5 with | .v (.int _ n) => a.length - n.toNat | _ => 0) ?_ ?_
  ·exact ⟨by simp, by simp, 0, by simp, by omega, by simp⟩
  ·rintro s G nx - ⟨s0, s1, i, s5, hi, ht⟩
   have hw : IntKind.i64.wrap (↑i + 1) = ((i + 1 : Nat) : Int) := wrapS (by omega)
   with_reducible refine aA ?_
   with_reducible refine aR fun K' hK => ?_
   simp [s0, s5]
   refine hK _ _ _ ?_; clear K' hK
   with_reducible refine aC fun A B hA hB => ?_
   simp
   refine ⟨fun hi2 => hA ?_, fun hi2 => hB ?_⟩ <;> clear hA hB A B <;> (try simp at hi2) <;> (try with_reducible refine aK ?_)
   ·have hi3 : i < b.length := by omega
    with_reducible refine aw_block ?_
    with_reducible refine aQ fun K' hK => ?_
    simp (maxSteps := 1000000) [s0, s1, s5, hi2, hi3]
    refine hK _ _ _ ?_; clear K' hK
    by_cases h1 : nth a i = nth b i
    ·skip
     with_reducible refine aVk (by simp [h1]) ?_
     with_reducible refine aw_skipL ?_
     refine blockK_normal ?_
     with_reducible refine aS fun K' hK => ?_
     simp [s5, hw]
     refine hK _ _ _ ?_; clear K' hK
     refine aw_skipL (loopK_normal ?_ ?_)
     ·exact ⟨by simp [s0], by simp [s1], i + 1, by simp [hw], by omega, take_nth hi2 hi3 ht h1⟩
     ·simp [s5, hw]; omega
    ·skip
     with_reducible refine aU (by simp [h1]) ?_
     with_reducible refine aA ?_
     with_reducible refine aR fun K' hK => ?_
     simp
     refine hK _ _ _ ?_; clear K' hK
     with_reducible refine aw_ret ?_
     simp [blockK, loopK, Post, resA, res1, expT, expA, exp1, expM, expL, okT, okA, ok1, rowOf, Tryz.f37]
     exact ne_nth h1
   ·skip
    with_reducible refine aw_exit ?_
    refine loopK_exit (blockK_exit ?_)
    with_reducible refine aR fun K' hK => ?_
    simp
    refine hK _ _ _ ?_; clear K' hK
    with_reducible refine aw_retL ?_
    simp [blockK, loopK, Post, resA, res1, expT, expA, exp1, expM, expL, okT, okA, ok1, rowOf, Tryz.f37]
    exact eq_of_take (by omega) (by omega) ht
set_option maxRecDepth 100000
set_option maxHeartbeats 1000000
theorem c9 : Tryz.prog.cellsOf 9 = 1 := by kernel_rfl
set_option maxRecDepth 100000
set_option maxHeartbeats 1000000
@[simp] theorem eqlB (a b : Bool) : evBin Tryz.prog .eql 4 (.bool a) (.bool b) = some (.bool (a == b)) := by
 cases a <;> cases b <;> kernel_rfl
def OwnAt (G : Hp) (r : Nat) (t : List Pl) : Prop := G r = some (.row 58 (flat Pl.cells t)) ∨ G r = some (.frz 58 (flat Pl.cells t))
theorem OwnAt.tree {G : Hp} {r : Nat} {t : List Pl} (h : OwnAt G r t) : treeOf Tryz.prog G (.row r t.length) = some (rowT Pl.cells t) := by
 rcases h with h | h
 ·exact treeOf_of h c34 rfl
 ·exact treeOf_of' h c34 rfl
theorem OwnAt.frz {G : Hp} {r n : Nat} {t : List Pl} (h : OwnAt G r t) : ∃ G', frzOf G (.row r n) = G' ∧ OwnAt G' r t ∧ ∀ j, j ≠ r → G' j = G j := by
 rcases h with h | h
 ·cases t with
  | nil => exact ⟨G, by rw [frzOf_row, h]; rfl, .inl h, fun _ _ => rfl⟩
  | cons p t => exact ⟨_, frz_new h (by simp), .inr (by simp), fun j hj => Hp.upd_ne _ _ hj⟩
 ·exact ⟨G, frz_old h, .inr h, fun _ _ => rfl⟩
set_option maxRecDepth 100000
set_option maxHeartbeats 1000000
set_option maxHeartbeats 400000
def ltB (a b : Bs) : Bool := decide (bsL a < bsL b)
@[simp] theorem str_lss (P : Program) (t : TypeId) (a b : Bs) : evBin P .lss t (.string a) (.string b) = some (.bool (ltB a b)) := by
 simp only [evBin, bytesLess_eq, toL_bsL, ltB]
theorem list_tri (a b : List UInt8) : (!(decide (a < b) || a == b)) = decide (b < a) := by
 rw [Bool.eq_iff_iff]
 simp only [Bool.not_eq_true', Bool.or_eq_false_iff, decide_eq_false_iff_not, beq_eq_false_iff_ne, decide_eq_true_eq]
 constructor
 ·rintro ⟨h1, h2⟩
  apply Classical.byContradiction
  intro h3
  exact h2 (List.le_antisymm (List.not_lt.1 h3) (List.not_lt.1 h1))
 ·intro h
  exact ⟨List.lt_asymm h, fun e => by subst e; exact List.lt_irrefl _ h⟩
@[simp] theorem str_gtr (P : Program) (t : TypeId) (a b : Bs) : evBin P .gtr t (.string a) (.string b) = some (.bool (ltB b a)) := by
 simp only [evBin, bytesLess_eq, toL_bsL, ltB]
 rw [list_tri]
@[simp] theorem str_geq (P : Program) (t : TypeId) (a b : Bs) : evBin P .geq t (.string a) (.string b) = some (.bool (!ltB a b)) := by
 simp only [evBin, bytesLess_eq, toL_bsL, ltB]
@[simp] theorem str_leq (P : Program) (t : TypeId) (a b : Bs) : evBin P .leq t (.string a) (.string b) = some (.bool (!ltB b a)) := by
 simp only [evBin, bytesLess_eq, toL_bsL, ltB]
 rw [← list_tri (bsL a) (bsL b), Bool.not_not]
theorem ltB_irr (a : Bs) : ltB a a = false := by
 unfold ltB
 exact decide_eq_false (List.lt_irrefl _)
theorem ltB_asym {a b : Bs} (h : ltB a b = true) : ltB b a = false := by
 unfold ltB at h ⊢
 exact decide_eq_false (List.lt_asymm (of_decide_eq_true h))
theorem ltB_tri {a b : Bs} (h1 : ltB a b = false) (h2 : ltB b a = false) : a = b := by
 unfold ltB at h1 h2
 exact bsL_inj (List.le_antisymm (List.not_lt.1 (of_decide_eq_false h2)) (List.not_lt.1 (of_decide_eq_false h1)))
theorem ltB_trans {a b c : Bs} (h1 : ltB a b = true) (h2 : ltB b c = true) : ltB a c = true := by
 unfold ltB at h1 h2 ⊢
 exact decide_eq_true (List.lt_trans (of_decide_eq_true h1) (of_decide_eq_true h2))
def cmpI (a b : Int) : Int := if a < b then -1 else if b < a then 1 else 0
def cmpB (a b : Bs) : Int := if ltB a b = true then -1 else if ltB b a = true then 1 else 0
theorem cmpI_self (a : Int) : cmpI a a = 0 := by simp [cmpI]
theorem cmpB_self (a : Bs) : cmpB a a = 0 := by simp [cmpB, ltB_irr]
theorem cmpB_zero {a b : Bs} : cmpB a b = 0 ↔ a = b := by
 constructor
 ·intro h
  unfold cmpB at h
  split at h
  ·cases h
  ·rename_i h1
   split at h
   ·cases h
   ·rename_i h2
    exact ltB_tri (by simpa using h1) (by simpa using h2)
 ·rintro rfl; exact cmpB_self a
def partsN (a b : Bs) : Int := if numP (bsL a) = true then (if numP (bsL b) = true then cmpI (atoiN (bsL a)) (atoiN (bsL b)) else -1) else if numP (bsL b) = true then 1 else cmpB a b
theorem partsN_self (a : Bs) : partsN a a = 0 := by
 unfold partsN
 split
 ·exact cmpI_self _
 ·exact cmpB_self _
def rowsN : List Bs → List Bs → Int
 | a :: x, b :: y => if partsN a b = 0 then rowsN x y else partsN a b
 | x, y => cmpI x.length y.length
theorem rowsN_self : ∀ x : List Bs, rowsN x x = 0
 | [] => rfl
 | a :: x => by rw [rowsN, if_pos (partsN_self a), rowsN_self x]
def coreN (a b : Ver) : Int := if cmpI a.maj b.maj ≠ 0 then cmpI a.maj b.maj else if cmpI a.min b.min ≠ 0 then cmpI a.min b.min else cmpI a.pat b.pat
def comparN (a b : Ver) : Int := if verOk a = true ∧ verOk b = true then
  (if coreN a b ≠ 0 ∨ a.pre = b.pre then coreN a b else if a.pre = ⟨#[]⟩ then 1 else if b.pre = ⟨#[]⟩ then -1 else rowsN (strs (spl (bsL a.pre))) (strs (spl (bsL b.pre))))
 else 0
-- the digits of a number
theorem parse_num : ∀ (l : List UInt8) (acc k : Nat), l.all digB = true → acc < 10 ^ k → k + l.length ≤ 17 → ∃ u, Lib.parseUint10 acc l = .ok u ∧ (u : Int) = l.foldl (fun n c => 10 * n + ((c.toNat : Int) - 48)) acc ∧ u < 10 ^ (k + l.length)
 | [], acc, k, _, ha, _ => ⟨acc, rfl, rfl, by simpa using ha⟩
 | c :: r, acc, k, hl, ha, hk => by
  rw [List.all_cons, Bool.and_eq_true] at hl
  obtain ⟨hc, hr⟩ := hl
  simp [digB] at hc
  simp only [List.length_cons] at hk
  have hp : (10 : Nat) ^ k ≤ 10 ^ 16 := Nat.pow_le_pow_right (by decide) (by omega)
  have hp2 : (10 : Nat) ^ 16 = 10000000000000000 := by decide
  have hnew : acc * 10 + (c.toNat - 48) < 10 ^ (k + 1) := by rw [Nat.pow_succ]; omega
  obtain ⟨u, h1, h2, h3⟩ := parse_num r (acc * 10 + (c.toNat - 48)) (k + 1) hr hnew (by omega)
  refine ⟨u, ?_, ?_, ?_⟩
  ·rw [Lib.parseUint10, if_pos (by omega), if_neg (by omega), if_neg (by omega)]
   exact h1
  ·rw [h2, List.foldl_cons]
   congr 1
   omega
  ·rw [List.length_cons]
   have e : k + (r.length + 1) = k + 1 + r.length := by omega
   rw [e]; exact h3
theorem atoi_num {l : List UInt8} (hd : l.all digB = true) (hne : l ≠ []) (hl : l.length ≤ 17) : atoiN l = numV l := by
 obtain ⟨u, h1, h2, h3⟩ := parse_num l 0 0 hd (by decide) (by omega)
 cases l with
 | nil => exact absurd rfl hne
 | cons c r =>
  rw [List.all_cons, Bool.and_eq_true] at hd
  have hc := hd.1
  simp [digB] at hc
  have hm : Lib.parseMag (c :: r) = .ok u := by rw [Lib.parseMag, if_neg (by simp)]; exact h1
  have hp : (10 : Nat) ^ (0 + (c :: r).length) ≤ 10 ^ 17 := Nat.pow_le_pow_right (by decide) (by omega)
  have hp2 : (10 : Nat) ^ 17 = 100000000000000000 := by decide
  have ha : Lib.atoiAll (c :: r) = .ok (u : Int) := by
   unfold Lib.atoiAll
   have c1 : ¬ c.toNat = 43 := by omega
   have c2 : ¬ c.toNat = 45 := by omega
   simp only [c1, c2, or_self, if_false, hm, not_false_eq_true, true_and, false_and]
   rw [if_neg (by omega)]
  unfold atoiN
  rw [ha]
  exact h2
-- what is split at points
theorem split_go : ∀ (k : Nat) (l : List UInt8), l.count 46 ≤ k → Lib.splitK [46] 0 k l = spl l
 | 0, l, h => by
  have hm : (46 : UInt8) ∉ l := by
   intro hm
   have := List.count_pos_iff.2 hm
   omega
  rw [Lib.splitK, spl_out hm]
 | k + 1, l, h => by
  rw [Lib.splitK, Lib.index_one]
  by_cases hm : (46 : UInt8) ∈ l
  ·obtain ⟨a, r, h1, rfl⟩ := first_at hm
   have hne : ((a.length : Int) == -1) = false := by rw [beq_eq_false_iff_ne]; omega
   rw [ib_in h1, hne, spl_in h1]
   simp only [Bool.false_eq_true, if_false, Int.toNat_natCast, Nat.add_zero, List.length_singleton]
   rw [List.take_left', show (a ++ 46 :: r).drop (a.length + 1) = r by simp, split_go k r]
   ·have : (a ++ 46 :: r).count 46 = r.count 46 + 1 := by
     rw [List.count_append, List.count_eq_zero_of_not_mem h1, List.count_cons_self]; omega
    omega
   ·rfl
  ·rw [ib_out hm, spl_out hm]; rfl
set_option maxRecDepth 100000
set_option maxHeartbeats 400000
theorem libRow {P : Program} [Gl P] {f : FuncId} {xs vs : List Value} {e : TypeId} (hent : ∀ args w, (callFunc f args).run P w = .ok (.enter f args) w) (hv : ∀ v ∈ vs, v.oneCell' = true)
  (hc : P.cellsOf e = 1) (hne : vs ≠ []) (hmax : vs.length ≤ 1000000000)
  (h : ∀ w, Gl.ok P w → Calls P f xs.toArray w fun r w' => r = .returned (.slice (some ⟨w.heap.size, 0, none⟩) vs.length vs.length) ∧ w' = w.alloc (.cells vs.toArray e)) : CallsOK P f (xs.map .v) (.row 0 vs.length) [(e, vs.map .v)] := by
 refine ⟨rfl, hent, fun w us F hF hΓ hx => ?_⟩
 rw [all2_v hx]
 refine (h w (hΓ w (ExtC.refl _ _))).mono ?_
 rintro r w' ⟨rfl, rfl⟩
 have hb : Below w.heap.size w (w.alloc (.cells vs.toArray e)) := (Below.refl _ w).alloc (Nat.le_refl _) _
 have hcur : (w.alloc (.cells vs.toArray e)).heap[w.heap.size]? = some (.cells vs.toArray e) := World.alloc_heap_new _ _
 have hA := Rel.app (w' := w.alloc (.cells vs.toArray e)) (G := fun _ => none) (nx := 0) (e := e) (all := vs.map .v) (rel_zero hF hΓ) rfl (id := none) (b := some w.heap.size) (fun j hj => by cases hj) (fun x hx => by injection hx with hx; exact .inl (Nat.le_of_eq hx)) (Ext.of_below _ hb) (fun x hx _ => hb.block x hx)
  (fun x hx => by injection hx with hx; subst hx; exact (Array.getElem?_eq_some_iff.1 hcur).1) (fun x hx => by
   injection hx with hx; subst hx
   refine ⟨vs, hcur, by simp, fun i a u ha hu => ?_⟩
   rw [List.getElem?_map, hu] at ha
   injection ha with ha
   subst ha
   exact .v (hv u (List.mem_of_getElem? hu))) (fun h => by cases h)
 have hJ : ofJ [(e, vs.map AV.v)] = ((killId (fun _ => none) none).upd 0 (.row e (vs.map .v)) : Hp) := by
  funext i
  cases i with
  | zero => rfl
  | succ i => simp [ofJ, Hp.upd, killId]
 refine ⟨_, (En.zero F).app 0 none (some w.heap.size), rfl, ?_, by rw [hJ]; exact hA.1, rfl, hb, fun i b h => ?_⟩
 ·refine .row (show ((En.zero F).app 0 none (some w.heap.size)).K 0 from .inl rfl) rfl (fun b hb => ?_) (fun hN => ?_)
  ·simp [En.app] at hb
   subst hb
   exact ⟨vs.length, e, rfl, by omega, by simp only [maxLen]; omega, by rw [World.shape?, hcur]; simp [hc]⟩
  ·simp [En.app] at hN
 ·simp [En.app, En.zero] at h
  omega
theorem isNaN230_ok (a : Int) : CallsOK Tryz.prog 230 [iV a] (bV false) [] := by
 refine callsOK mixed Tryz.call230 Tryz.func230 rfl (by rw [Tryz.ntmps230]; simp) ?_ rfl
 rw [Tryz.ntmps230]
 with_reducible refine aR fun K' hK => ?_
 simp
 refine hK _ _ _ ?_; clear K' hK
 with_reducible refine aR fun K' hK => ?_
 simp
 refine hK _ _ _ ?_; clear K' hK
 with_reducible refine aw_retL ?_
 simp [blockK, loopK, Post, resA, res1, expT, expA, exp1, expM, expL, okT, okA, ok1, rowOf, Tryz.f230]
theorem cmpI_ok (a b : Int) : CallsOK Tryz.prog 196 [iV a, iV b] (iV (cmpI a b)) [] := by
 refine callsOK mixed Tryz.call196 Tryz.func196 rfl (by rw [Tryz.ntmps196]; simp) ?_ rfl
 rw [Tryz.ntmps196]
 with_reducible refine aR fun K' hK => ?_
 simp
 refine hK _ _ _ ?_; clear K' hK
 with_reducible refine aR fun K' hK => ?_
 simp
 refine acall_flat (isNaN230_ok a) rfl (by simp) ?_
 simp
 refine hK _ _ _ ?_; clear K' hK
 with_reducible refine aR fun K' hK => ?_
 simp
 refine acall_flat (isNaN230_ok b) rfl (by simp) ?_
 simp
 refine hK _ _ _ ?_; clear K' hK
 with_reducible refine aA ?_
 with_reducible refine aR fun K' hK => ?_
 simp
 refine hK _ _ _ ?_; clear K' hK
 with_reducible refine aYk (by simp) ?_
 with_reducible refine aA ?_
 with_reducible refine aR fun K' hK => ?_
 simp
 refine hK _ _ _ ?_; clear K' hK
 with_reducible refine aYk (by simp) ?_
 with_reducible refine aA ?_
 with_reducible refine aR fun K' hK => ?_
 simp
 refine hK _ _ _ ?_; clear K' hK
 with_reducible refine aC fun A B hA hB => ?_
 simp
 refine ⟨fun h1 => hA ?_, fun h1 => hB ?_⟩ <;> clear hA hB A B <;> (try simp at h1) <;> (try with_reducible refine aK ?_)
 ·with_reducible refine aA ?_
  with_reducible refine aR fun K' hK => ?_
  simp
  refine hK _ _ _ ?_; clear K' hK
  with_reducible refine aw_ret ?_
  simp [blockK, loopK, Post, resA, res1, expT, expA, exp1, expM, expL, okT, okA, ok1, rowOf, Tryz.f196]
  simp [cmpI, h1]
 ·with_reducible refine aA ?_
  with_reducible refine aR fun K' hK => ?_
  simp
  refine hK _ _ _ ?_; clear K' hK
  with_reducible refine aC fun A B hA hB => ?_
  simp
  refine ⟨fun h2 => hA ?_, fun h2 => hB ?_⟩ <;> clear hA hB A B <;> (try simp at h2) <;> (try with_reducible refine aK ?_)
  ·with_reducible refine aA ?_
   with_reducible refine aR fun K' hK => ?_
   simp
   refine hK _ _ _ ?_; clear K' hK
   with_reducible refine aw_ret ?_
   simp [blockK, loopK, Post, resA, res1, expT, expA, exp1, expM, expL, okT, okA, ok1, rowOf, Tryz.f196]
   simp [cmpI, h1, h2]
  ·skip
   with_reducible refine aR fun K' hK => ?_
   simp
   refine hK _ _ _ ?_; clear K' hK
   with_reducible refine aw_retL ?_
   simp [blockK, loopK, Post, resA, res1, expT, expA, exp1, expM, expL, okT, okA, ok1, rowOf, Tryz.f196]
   simp only [cmpI]; rw [if_neg (by omega), if_neg (by omega)]
theorem isNaN195_ok (a : Bs) : CallsOK Tryz.prog 195 [sV a] (bV false) [] := by
 refine callsOK mixed Tryz.call195 Tryz.func195 rfl (by rw [Tryz.ntmps195]; simp) ?_ rfl
 rw [Tryz.ntmps195]
 with_reducible refine aR fun K' hK => ?_
 simp
 refine hK _ _ _ ?_; clear K' hK
 with_reducible refine aR fun K' hK => ?_
 simp
 refine hK _ _ _ ?_; clear K' hK
 with_reducible refine aw_retL ?_
 simp [blockK, loopK, Post, resA, res1, expT, expA, exp1, expM, expL, okT, okA, ok1, rowOf, Tryz.f195]
theorem cmpB_ok (a b : Bs) : CallsOK Tryz.prog 159 [sV a, sV b] (iV (cmpB a b)) [] := by
 refine callsOK mixed Tryz.call159 Tryz.func159 rfl (by rw [Tryz.ntmps159]; simp) ?_ rfl
 rw [Tryz.ntmps159]
 with_reducible refine aR fun K' hK => ?_
 simp
 refine hK _ _ _ ?_; clear K' hK
 with_reducible refine aR fun K' hK => ?_
 simp
 refine acall_flat (isNaN195_ok a) rfl (by simp) ?_
 simp
 refine hK _ _ _ ?_; clear K' hK
 with_reducible refine aR fun K' hK => ?_
 simp
 refine acall_flat (isNaN195_ok b) rfl (by simp) ?_
 simp
 refine hK _ _ _ ?_; clear K' hK
 with_reducible refine aA ?_
 with_reducible refine aR fun K' hK => ?_
 simp
 refine hK _ _ _ ?_; clear K' hK
 with_reducible refine aYk (by simp) ?_
 with_reducible refine aA ?_
 with_reducible refine aR fun K' hK => ?_
 simp
 refine hK _ _ _ ?_; clear K' hK
 with_reducible refine aYk (by simp) ?_
 with_reducible refine aA ?_
 with_reducible refine aR fun K' hK => ?_
 simp
 refine hK _ _ _ ?_; clear K' hK
 with_reducible refine aC fun A B hA hB => ?_
 simp
 refine ⟨fun h1 => hA ?_, fun h1 => hB ?_⟩ <;> clear hA hB A B <;> (try simp at h1) <;> (try with_reducible refine aK ?_)
 ·with_reducible refine aA ?_
  with_reducible refine aR fun K' hK => ?_
  simp
  refine hK _ _ _ ?_; clear K' hK
  with_reducible refine aw_ret ?_
  simp [blockK, loopK, Post, resA, res1, expT, expA, exp1, expM, expL, okT, okA, ok1, rowOf, Tryz.f159]
  simp [cmpB, h1]
 ·with_reducible refine aA ?_
  with_reducible refine aR fun K' hK => ?_
  simp
  refine hK _ _ _ ?_; clear K' hK
  with_reducible refine aC fun A B hA hB => ?_
  simp
  refine ⟨fun h2 => hA ?_, fun h2 => hB ?_⟩ <;> clear hA hB A B <;> (try simp at h2) <;> (try with_reducible refine aK ?_)
  ·with_reducible refine aA ?_
   with_reducible refine aR fun K' hK => ?_
   simp
   refine hK _ _ _ ?_; clear K' hK
   with_reducible refine aw_ret ?_
   simp [blockK, loopK, Post, resA, res1, expT, expA, exp1, expM, expL, okT, okA, ok1, rowOf, Tryz.f159]
   simp [cmpB, h1, h2]
  ·skip
   with_reducible refine aR fun K' hK => ?_
   simp
   refine hK _ _ _ ?_; clear K' hK
   with_reducible refine aw_retL ?_
   simp [blockK, loopK, Post, resA, res1, expT, expA, exp1, expM, expL, okT, okA, ok1, rowOf, Tryz.f159]
   simp [cmpB, h1, h2]
theorem splC : ∀ (k : Nat) (l : List UInt8), l.count 46 ≤ k → (spl l).length = l.count 46 + 1 ∧ Lib.count l [46] = l.count 46
 | k, l, h => by
  by_cases hm : (46 : UInt8) ∈ l
  ·obtain ⟨a, r, h1, rfl⟩ := first_at hm
   have hc : (a ++ 46 :: r).count 46 = r.count 46 + 1 := by
    rw [List.count_append, List.count_eq_zero_of_not_mem h1, List.count_cons_self]; omega
   match k, h with
   | 0, h => omega
   | k + 1, h =>
    obtain ⟨i1, i2⟩ := splC k r (by omega)
    have hi : Lib.index (a ++ 46 :: r) [46] = a.length := by rw [Lib.index_one, ib_in h1]
    rw [Lib.count_hit (by simp) hi, spl_in h1, List.length_singleton, show (a ++ 46 :: r).drop (a.length + 1) = r by simp, i2, hc, List.length_cons, i1]
    omega
  ·have hc : l.count 46 = 0 := List.count_eq_zero_of_not_mem hm
   have hi : Lib.index l [46] = -1 := by rw [Lib.index_one, ib_out hm]
   rw [Lib.count_miss hi, spl_out hm, hc]
   simp
theorem split_ok (s : Bs) (hs : s.size ≤ 1000000) : CallsOK Tryz.prog 198 [sV s, sV ⟨#[46]⟩] (.row 0 (strs (spl (bsL s))).length) [(9, flat sC (strs (spl (bsL s))))] := by
 have e0 : (Lib.splitB ⟨#[46]⟩ 0 (Lib.countB s ⟨#[46]⟩) s).map bsL = spl (bsL s) := by
  have := Lib.splitB_data ⟨#[46]⟩ 0 (Lib.countB s ⟨#[46]⟩) s
  rw [show (fun x : ByteArray => x.data.toList) = bsL from rfl] at this
  rw [this]
  refine split_go _ _ ?_
  exact Nat.le_of_eq (splC _ _ (Nat.le_refl _)).2.symm
 have e1 : strs (spl (bsL s)) = Lib.splitB ⟨#[46]⟩ 0 (Lib.countB s ⟨#[46]⟩) s := by
  rw [← e0, strs, List.map_map]
  conv => rhs; rw [← List.map_id (Lib.splitB _ _ _ _)]
  exact List.map_congr_left fun x _ => ofL_bsL x
 have hlen : Lib.countB s ⟨#[46]⟩ + 1 = (strs (spl (bsL s))).length := by
  have h := splC _ (bsL s) (Nat.le_refl _)
  rw [strs, List.length_map, h.1]
  exact congrArg (· + 1) h.2
 have hl : (strs (spl (bsL s))).length ≤ s.size + 1 := by
  have h1 := (splC _ (bsL s) (Nat.le_refl _)).1
  have h2 := List.count_le_length (a := (46 : UInt8)) (l := bsL s)
  rw [bsL_len] at h2
  simp only [strs, List.length_map]
  omega
 have h := libRow (f := 198) (xs := [.string s, .string ⟨#[46]⟩]) (vs := (strs (spl (bsL s))).map Value.string) (e := 9) Tryz.call198 (by simp [Value.oneCell']) (by kernel_rfl) (by simp [← List.length_pos_iff]; omega) (by simp; omega) fun w hw => by
  obtain ⟨m, hm⟩ := hw.2.2.2.1
  refine (Tryz.strings_Split s ⟨#[46]⟩ m w (by omega) hm (by decide)).mono ?_
  rintro e w' ⟨rfl, rfl⟩
  rw [← e1, hlen]
  simp
 have e2 : ((strs (spl (bsL s))).map Value.string).map AV.v = flat sC (strs (spl (bsL s))) := by
  unfold flat
  generalize strs (spl (bsL s)) = L
  induction L with
  | nil => rfl
  | cons a L ih => rw [List.map_cons, List.map_cons, List.flatMap_cons, ih]; rfl
 rw [e2, List.length_map] at h
 exact h
theorem parts_ok (a b : Bs) (ha : a.size ≤ 4000000000) (hb : b.size ≤ 4000000000) : CallsOK Tryz.prog 199 [sV a, sV b] (iV (partsN a b)) [] := by
 refine callsOK mixed Tryz.call199 Tryz.func199 rfl (by rw [Tryz.ntmps199]; simp) ?_ rfl
 rw [Tryz.ntmps199]
 with_reducible refine aR fun K' hK => ?_
 simp
 refine hK _ _ _ ?_; clear K' hK
 with_reducible refine aR fun K' hK => ?_
 simp
 refine acall_flat (number87_ok a ha) rfl (by simp) ?_
 simp
 refine hK _ _ _ ?_; clear K' hK
 with_reducible refine aR fun K' hK => ?_
 simp
 refine acall_flat (number87_ok b hb) rfl (by simp) ?_
 simp
 refine hK _ _ _ ?_; clear K' hK
 with_reducible refine aw_block ?_
 by_cases h1 : numP (bsL a) = true
 ·by_cases h2 : numP (bsL b) = true
  ·skip
   with_reducible refine aR fun K' hK => ?_
   simp [h1, h2]
   refine hK _ _ _ ?_; clear K' hK
   with_reducible refine aU (by simp [h1, h2]) ?_
   with_reducible refine aA ?_
   with_reducible refine aR fun K' hK => ?_
   simp
   refine acall_flat (cmpI_ok (atoiN (bsL a)) (atoiN (bsL b))) rfl (by simp) ?_
   simp
   refine hK _ _ _ ?_; clear K' hK
   with_reducible refine aw_ret ?_
   simp [blockK, loopK, Post, resA, res1, expT, expA, exp1, expM, expL, okT, okA, ok1, rowOf, Tryz.f199]
   simp [partsN, h1, h2]
  ·skip
   with_reducible refine aR fun K' hK => ?_
   simp [h1, h2]
   refine hK _ _ _ ?_; clear K' hK
   with_reducible refine aV (by simp [h1, h2]) ?_
   with_reducible refine aA ?_
   with_reducible refine aR fun K' hK => ?_
   simp [h1, h2]
   refine hK _ _ _ ?_; clear K' hK
   with_reducible refine aX (by simp [h1, h2]) ?_
   with_reducible refine aA ?_
   with_reducible refine aR fun K' hK => ?_
   simp
   refine hK _ _ _ ?_; clear K' hK
   with_reducible refine aw_ret ?_
   simp [blockK, loopK, Post, resA, res1, expT, expA, exp1, expM, expL, okT, okA, ok1, rowOf, Tryz.f199]
   simp [partsN, h1, h2]
 ·by_cases h2 : numP (bsL b) = true
  ·skip
   with_reducible refine aR fun K' hK => ?_
   simp [h1, h2]
   refine hK _ _ _ ?_; clear K' hK
   with_reducible refine aV (by simp [h1, h2]) ?_
   with_reducible refine aA ?_
   with_reducible refine aR fun K' hK => ?_
   simp [h1, h2]
   refine hK _ _ _ ?_; clear K' hK
   with_reducible refine aY (by simp [h1, h2]) ?_
   with_reducible refine aA ?_
   with_reducible refine aR fun K' hK => ?_
   simp [h1, h2]
   refine hK _ _ _ ?_; clear K' hK
   with_reducible refine aX (by simp [h1, h2]) ?_
   with_reducible refine aA ?_
   with_reducible refine aR fun K' hK => ?_
   simp
   refine hK _ _ _ ?_; clear K' hK
   with_reducible refine aw_ret ?_
   simp [blockK, loopK, Post, resA, res1, expT, expA, exp1, expM, expL, okT, okA, ok1, rowOf, Tryz.f199]
   simp [partsN, h1, h2]
  ·skip
   with_reducible refine aR fun K' hK => ?_
   simp [h1, h2]
   refine hK _ _ _ ?_; clear K' hK
   with_reducible refine aV (by simp [h1, h2]) ?_
   with_reducible refine aA ?_
   with_reducible refine aR fun K' hK => ?_
   simp [h1, h2]
   refine hK _ _ _ ?_; clear K' hK
   with_reducible refine aY (by simp [h1, h2]) ?_
   with_reducible refine aA ?_
   with_reducible refine aR fun K' hK => ?_
   simp [h1, h2]
   refine hK _ _ _ ?_; clear K' hK
   with_reducible refine aYk (by simp [h1, h2]) ?_
   with_reducible refine aw_skipL ?_
   refine blockK_normal ?_
   with_reducible refine aR fun K' hK => ?_
   simp
   refine acall_flat (cmpB_ok a b) rfl (by simp) ?_
   simp
   refine hK _ _ _ ?_; clear K' hK
   with_reducible refine aw_retL ?_
   simp [blockK, loopK, Post, resA, res1, expT, expA, exp1, expM, expL, okT, okA, ok1, rowOf, Tryz.f199]
   simp [partsN, h1, h2]
set_option maxRecDepth 100000
set_option maxHeartbeats 1000000
def orN : List Int → Int
 | [] => 0
 | a :: l => if a = 0 then orN l else a
theorem orN_drop {l : List Int} {i : Nat} (h : i < l.length) : orN (l.drop i) = if nth l i = 0 then orN (l.drop (i + 1)) else nth l i := by
 rw [List.drop_eq_getElem_cons h, orN, nth_eq h]
theorem or_ok (l : List Int) (hl : l.length < 4611686018427387904) : CallsOK Tryz.prog 157 [rowT iC l] (iV (orN l)) [] := by
 refine callsOK mixed Tryz.call157 Tryz.func157 rfl (by rw [Tryz.ntmps157]; simp) ?_ rfl
 rw [Tryz.ntmps157]
 with_reducible refine aR fun K' hK => ?_
 simp
 refine hK _ _ _ ?_; clear K' hK
 with_reducible refine aR fun K' hK => ?_
 simp
 refine hK _ _ _ ?_; clear K' hK
 with_reducible refine aA ?_
 with_reducible refine aR fun K' hK => ?_
 simp
 refine hK _ _ _ ?_; clear K' hK
 with_reducible refine aw_block ?_
 refine aw_loop (fun s G nx => s 6 = rowT iC l ∧ s 3 = iV 0 ∧ s 7 = iV l.length ∧ ∃ i : Nat, s 8 = iV i ∧ i ≤ l.length ∧ orN l = orN (l.drop i)) (fun s _ _ => match s 8 with | .v (.int _ n) => l.length - n.toNat | _ => 0) ?_ ?_
 ·exact ⟨by simp, by simp, by simp, 0, by simp, by omega, by simp⟩
 ·rintro s G nx - ⟨s6, s3, s7, i, s8, hi, ht⟩
  have hw : IntKind.i64.wrap (↑i + 1) = ((i + 1 : Nat) : Int) := wrapS (by omega)
  with_reducible refine aR fun K' hK => ?_
  simp [s7, s8]
  refine hK _ _ _ ?_; clear K' hK
  with_reducible refine aC fun A B hA hB => ?_
  simp
  refine ⟨fun hi2 => hA ?_, fun hi2 => hB ?_⟩ <;> clear hA hB A B <;> (try simp at hi2) <;> (try with_reducible refine aK ?_)
  ·have hstep := orN_drop hi2
   with_reducible refine aw_block ?_
   with_reducible refine aR fun K' hK => ?_
   simp [s6, s8, hi2]
   refine hK _ _ _ ?_; clear K' hK
   by_cases h0 : nth l i = 0
   ·skip
    with_reducible refine aR fun K' hK => ?_
    simp [s3, h0]
    refine hK _ _ _ ?_; clear K' hK
    with_reducible refine aVk (by simp [h0]) ?_
    with_reducible refine aw_skipL ?_
    refine blockK_normal ?_
    with_reducible refine aS fun K' hK => ?_
    simp [s8, hw]
    refine hK _ _ _ ?_; clear K' hK
    refine aw_skipL (loopK_normal ?_ ?_)
    ·exact ⟨by simp [s6], by simp [s3], by simp [s7], i + 1, by simp [hw], by omega, by rw [ht, hstep, if_pos h0]⟩
    ·simp [s8, hw]; omega
   ·skip
    with_reducible refine aR fun K' hK => ?_
    simp [s3, h0]
    refine hK _ _ _ ?_; clear K' hK
    with_reducible refine aU (by simp [h0]) ?_
    with_reducible refine aA ?_
    with_reducible refine aR fun K' hK => ?_
    simp
    refine hK _ _ _ ?_; clear K' hK
    with_reducible refine aw_ret ?_
    simp [blockK, loopK, Post, resA, res1, expT, expA, exp1, expM, expL, okT, okA, ok1, rowOf, Tryz.f157]
    rw [ht, hstep, if_neg h0]
  ·skip
   with_reducible refine aw_exit ?_
   refine loopK_exit (blockK_exit ?_)
   with_reducible refine aR fun K' hK => ?_
   simp [s3]
   refine hK _ _ _ ?_; clear K' hK
   with_reducible refine aw_retL ?_
   simp [blockK, loopK, Post, resA, res1, expT, expA, exp1, expM, expL, okT, okA, ok1, rowOf, Tryz.f157]
   rw [ht, List.drop_of_length_le (by omega)]; rfl
theorem rowsN_drop {x y : List Bs} {i : Nat} (hx : i < x.length) (hy : i < y.length) : rowsN (x.drop i) (y.drop i) = if partsN (nth x i) (nth y i) = 0 then rowsN (x.drop (i + 1)) (y.drop (i + 1)) else partsN (nth x i) (nth y i) := by
 rw [List.drop_eq_getElem_cons hx, List.drop_eq_getElem_cons hy, rowsN, nth_eq hx, nth_eq hy]
theorem rowsN_end {x y : List Bs} {i : Nat} (h : x.length = i ∧ i ≤ y.length ∨ y.length = i ∧ i ≤ x.length) : rowsN (x.drop i) (y.drop i) = cmpI x.length y.length := by
 have e : rowsN (x.drop i) (y.drop i) = cmpI (x.drop i).length (y.drop i).length := by
  rcases h with ⟨h, _⟩ | ⟨h, _⟩
  ·rw [List.drop_of_length_le (l := x) (by omega)]
   cases y.drop i <;> rfl
  ·rw [List.drop_of_length_le (l := y) (by omega)]
   cases x.drop i <;> rfl
 rw [e, List.length_drop, List.length_drop]
 unfold cmpI
 congr 1
 ·simp only [eq_iff_iff]; omega
 ·congr 1
  simp only [eq_iff_iff]; omega
theorem rows_ok (x y : List Bs) (hx : x.length < 1000000000) (hy : y.length < 1000000000) (hxs : ∀ b ∈ x, b.size ≤ 4000000000) (hys : ∀ b ∈ y, b.size ≤ 4000000000) : CallsOK Tryz.prog 197 [rowT sC x, rowT sC y, .fn 199 []] (iV (rowsN x y)) [] := by
 refine callsOK mixed Tryz.call197 Tryz.func197 rfl (by rw [Tryz.ntmps197]; simp) ?_ rfl
 rw [Tryz.ntmps197]
 obtain ⟨m, hm, hmx, hmy, hme⟩ : ∃ m : Nat, (if y.length < x.length then (y.length : Int) else (x.length : Int)) = (m : Int) ∧ m ≤ x.length ∧ m ≤ y.length ∧ (x.length = m ∨ y.length = m) := ⟨min x.length y.length, by split <;> omega, by omega, by omega, by omega⟩
 with_reducible refine aR fun K' hK => ?_
 simp
 refine hK _ _ _ ?_; clear K' hK
 with_reducible refine aA ?_
 with_reducible refine aR fun K' hK => ?_
 simp [hm]
 refine hK _ _ _ ?_; clear K' hK
 with_reducible refine aw_block ?_
 refine aw_loop (fun s G nx => s 0 = rowT sC x ∧ s 1 = rowT sC y ∧ s 2 = .fn 199 [] ∧ s 13 = iV m ∧ ∃ i : Nat, s 14 = iV i ∧ i ≤ m ∧ rowsN x y = rowsN (x.drop i) (y.drop i)) (fun s _ _ => match s 14 with | .v (.int _ n) => m - n.toNat | _ => 0) ?_ ?_
 ·exact ⟨by simp, by simp, by simp, by simp [hm], 0, by simp, by omega, by simp⟩
 ·rintro s G nx - ⟨s0, s1, s2, s13, i, s14, hi, ht⟩
  have hw : IntKind.i64.wrap (↑i + 1) = ((i + 1 : Nat) : Int) := wrapS (by omega)
  with_reducible refine aR fun K' hK => ?_
  simp [s13, s14]
  refine hK _ _ _ ?_; clear K' hK
  with_reducible refine aC fun A B hA hB => ?_
  simp
  refine ⟨fun hi2 => hA ?_, fun hi2 => hB ?_⟩ <;> clear hA hB A B <;> (try simp at hi2) <;> (try with_reducible refine aK ?_)
  ·have hix : i < x.length := by omega
   have hiy : i < y.length := by omega
   have hstep := rowsN_drop hix hiy
   with_reducible refine aw_block ?_
   with_reducible refine aR fun K' hK => ?_
   simp [s14]
   refine hK _ _ _ ?_; clear K' hK
   with_reducible refine aQ fun K' hK => ?_
   simp [s0, s1, s2, hix, hiy]
   refine acall_flat (parts_ok (nth x i) (nth y i) (hxs _ (nth_mem hix)) (hys _ (nth_mem hiy))) rfl (by simp) ?_
   simp
   refine hK _ _ _ ?_; clear K' hK
   by_cases h0 : partsN (nth x i) (nth y i) = 0
   ·skip
    with_reducible refine aR fun K' hK => ?_
    simp [h0]
    refine hK _ _ _ ?_; clear K' hK
    with_reducible refine aVk (by simp [h0]) ?_
    with_reducible refine aw_skipL ?_
    refine blockK_normal ?_
    with_reducible refine aS fun K' hK => ?_
    simp [s14, hw]
    refine hK _ _ _ ?_; clear K' hK
    refine aw_skipL (loopK_normal ?_ ?_)
    ·exact ⟨by simp [s0], by simp [s1], by simp [s2], by simp [s13], i + 1, by simp [hw], by omega, by rw [ht, hstep, if_pos h0]⟩
    ·simp [s14, hw]; omega
   ·skip
    with_reducible refine aR fun K' hK => ?_
    simp [h0]
    refine hK _ _ _ ?_; clear K' hK
    with_reducible refine aU (by simp [h0]) ?_
    with_reducible refine aA ?_
    with_reducible refine aR fun K' hK => ?_
    simp
    refine hK _ _ _ ?_; clear K' hK
    with_reducible refine aw_ret ?_
    simp [blockK, loopK, Post, resA, res1, expT, expA, exp1, expM, expL, okT, okA, ok1, rowOf, Tryz.f197]
    rw [ht, hstep, if_neg h0]
  ·skip
   with_reducible refine aw_exit ?_
   refine loopK_exit (blockK_exit ?_)
   with_reducible refine aR fun K' hK => ?_
   simp [s0, s1]
   refine acall_flat (cmpI_ok x.length y.length) rfl (by simp) ?_
   simp
   refine hK _ _ _ ?_; clear K' hK
   with_reducible refine aw_retL ?_
   simp [blockK, loopK, Post, resA, res1, expT, expA, exp1, expM, expL, okT, okA, ok1, rowOf, Tryz.f197]
   rw [ht, rowsN_end (by omega)]
theorem vright_ok (v : Ver) (hs : v.pre.size ≤ 4000000000) : CallsOK Tryz.prog 174 [.agg v.cells] (bV (verOk v)) [] := right65_ok v hs
theorem strs_size {s : Bs} {b : Bs} (h : b ∈ strs (spl (bsL s))) : b.size ≤ s.size := by
 obtain ⟨l, hl, rfl⟩ := List.mem_map.1 h
 have : ∀ (t : List UInt8) (l : List UInt8), l ∈ spl t → l.length ≤ t.length := by
  intro t
  induction t with
  | nil => intro l hl; simp [spl] at hl; simp [hl]
  | cons c t ih =>
   intro l hl
   rw [spl] at hl
   split at hl
   ·rcases List.mem_cons.1 hl with rfl | h
    ·simp
    ·have := ih l h; simp; omega
   ·cases hs : spl t with
    | nil => rw [hs] at hl; simp at hl; subst hl; simp
    | cons p ps =>
     rw [hs] at hl ih
     rcases List.mem_cons.1 hl with rfl | h
     ·have := ih p (List.mem_cons_self ..); simp; omega
     ·have := ih l (List.mem_cons_of_mem _ h); simp; omega
 have := this _ _ hl
 rw [bsL_len] at this
 show l.toArray.size ≤ _
 simpa using this
theorem orN3 (a b : Ver) : orN [cmpI a.maj b.maj, cmpI a.min b.min, cmpI a.pat b.pat] = coreN a b := by
 simp only [orN, coreN]
 by_cases h1 : cmpI a.maj b.maj = 0
 ·by_cases h2 : cmpI a.min b.min = 0
  ·by_cases h3 : cmpI a.pat b.pat = 0 <;> simp [h1, h2, h3]
  ·simp [h1, h2]
 ·simp [h1]
theorem strs_le (s : Bs) : (strs (spl (bsL s))).length ≤ s.size + 1 := by
 have h1 := (splC _ (bsL s) (Nat.le_refl _)).1
 have h2 := List.count_le_length (a := (46 : UInt8)) (l := bsL s)
 rw [bsL_len] at h2
 simp only [strs, List.length_map]
 omega
theorem compare_ok (a b : Ver) (ha : a.pre.size ≤ 1000000) (hb : b.pre.size ≤ 1000000) : CallsOK Tryz.prog 160 [.agg a.cells, .agg b.cells] (iV (comparN a b)) [] := by
 refine callsOK mixed Tryz.call160 Tryz.func160 rfl (by rw [Tryz.ntmps160]; simp) ?_ rfl
 rw [Tryz.ntmps160]
 with_reducible refine aR fun K' hK => ?_
 simp
 refine hK _ _ _ ?_; clear K' hK
 with_reducible refine aA ?_
 with_reducible refine aR fun K' hK => ?_
 simp
 refine acall_flat (vright_ok a (by omega)) rfl (by simp) ?_
 by_cases va : verOk a = true
 ·by_cases vb : verOk b = true
  ·simp [va]
   refine acall_flat (vright_ok b (by omega)) rfl (by simp) ?_
   simp [vb]
   refine hK _ _ _ ?_; clear K' hK
   with_reducible refine aYk (by simp) ?_
   with_reducible refine aQ fun K' hK => ?_
   simp
   refine acall_flat (cmpI_ok a.maj b.maj) rfl (by simp) ?_
   simp
   refine acall_flat (cmpI_ok a.min b.min) rfl (by simp) ?_
   simp
   refine acall_flat (cmpI_ok a.pat b.pat) rfl (by simp) ?_
   simp
   refine acall_flat (or_ok [cmpI a.maj b.maj, cmpI a.min b.min, cmpI a.pat b.pat] (by simp)) rfl (by simp [treeOf_row]; rfl) ?_
   simp
   refine hK _ _ _ ?_; clear K' hK
   rw [orN3]
   with_reducible refine aw_block ?_
   have fin : comparN a b = if coreN a b ≠ 0 ∨ a.pre = b.pre then coreN a b else if a.pre = ⟨#[]⟩ then 1 else if b.pre = ⟨#[]⟩ then -1 else rowsN (strs (spl (bsL a.pre))) (strs (spl (bsL b.pre))) := by rw [comparN, if_pos ⟨va, vb⟩]
   by_cases hc : coreN a b = 0
   ·by_cases hp : a.pre = b.pre
    ·skip
     with_reducible refine aR fun K' hK => ?_
     simp [hc, hp]
     refine hK _ _ _ ?_; clear K' hK
     with_reducible refine aU (by simp [hc, hp]) ?_
     with_reducible refine aA ?_
     with_reducible refine aR fun K' hK => ?_
     simp
     refine hK _ _ _ ?_; clear K' hK
     with_reducible refine aw_ret ?_
     simp [blockK, loopK, Post, resA, res1, expT, expA, exp1, expM, expL, okT, okA, ok1, rowOf, Tryz.f160]
     rw [fin, if_pos (.inr hp)]; exact hc.symm
    ·skip
     with_reducible refine aR fun K' hK => ?_
     simp [hc, hp]
     refine hK _ _ _ ?_; clear K' hK
     with_reducible refine aV (by simp [hc, hp]) ?_
     by_cases a0 : a.pre = ⟨#[]⟩
     ·with_reducible refine aA ?_
      with_reducible refine aR fun K' hK => ?_
      simp [a0]
      refine hK _ _ _ ?_; clear K' hK
      with_reducible refine aX (by simp [a0]) ?_
      with_reducible refine aA ?_
      with_reducible refine aR fun K' hK => ?_
      simp
      refine hK _ _ _ ?_; clear K' hK
      with_reducible refine aw_ret ?_
      simp [blockK, loopK, Post, resA, res1, expT, expA, exp1, expM, expL, okT, okA, ok1, rowOf, Tryz.f160]
      rw [fin, if_neg (fun h => h.elim (· hc) hp), if_pos a0]
     ·with_reducible refine aA ?_
      with_reducible refine aR fun K' hK => ?_
      simp [a0]
      refine hK _ _ _ ?_; clear K' hK
      with_reducible refine aY (by simp [a0]) ?_
      by_cases b0 : b.pre = ⟨#[]⟩
      ·with_reducible refine aA ?_
       with_reducible refine aR fun K' hK => ?_
       simp [b0]
       refine hK _ _ _ ?_; clear K' hK
       with_reducible refine aX (by simp [b0]) ?_
       with_reducible refine aA ?_
       with_reducible refine aR fun K' hK => ?_
       simp
       refine hK _ _ _ ?_; clear K' hK
       with_reducible refine aw_ret ?_
       simp [blockK, loopK, Post, resA, res1, expT, expA, exp1, expM, expL, okT, okA, ok1, rowOf, Tryz.f160]
       rw [fin, if_neg (fun h => h.elim (· hc) hp), if_neg a0, if_pos b0]
      ·with_reducible refine aA ?_
       with_reducible refine aR fun K' hK => ?_
       simp [b0]
       refine hK _ _ _ ?_; clear K' hK
       with_reducible refine aYk (by simp [b0]) ?_
       with_reducible refine aw_skipL ?_
       refine blockK_normal ?_
       with_reducible refine aQ fun K' hK => ?_
       simp
       refine acall_new (split_ok a.pre ha) (by simp) ?_
       simp [addJ_one]
       refine acall_new (split_ok b.pre hb) (by simp) ?_
       simp [addJ_one]
       refine acall_flat (rows_ok (strs (spl (bsL a.pre))) (strs (spl (bsL b.pre))) (by have := strs_le a.pre; omega) (by have := strs_le b.pre; omega) (fun x hx => by have := strs_size hx; omega) (fun x hx => by have := strs_size hx; omega)) rfl (by first | rfl | (simp; done) | (simp; rfl) | (simp; exact ⟨rfl, rfl⟩)) ?_
       simp
       refine hK _ _ _ ?_; clear K' hK
       with_reducible refine aw_retL ?_
       simp [blockK, loopK, Post, resA, res1, expT, expA, exp1, expM, expL, okT, okA, ok1, rowOf, Tryz.f160]
       rw [fin, if_neg (fun h => h.elim (· hc) hp), if_neg a0, if_neg b0]
   ·skip
    with_reducible refine aR fun K' hK => ?_
    simp [hc]
    refine hK _ _ _ ?_; clear K' hK
    with_reducible refine aU (by simp [hc]) ?_
    with_reducible refine aA ?_
    with_reducible refine aR fun K' hK => ?_
    simp
    refine hK _ _ _ ?_; clear K' hK
    with_reducible refine aw_ret ?_
    simp [blockK, loopK, Post, resA, res1, expT, expA, exp1, expM, expL, okT, okA, ok1, rowOf, Tryz.f160]
    rw [fin, if_pos (.inl hc)]
  ·simp [va]
   refine acall_flat (vright_ok b (by omega)) rfl (by simp) ?_
   simp [vb]
   refine hK _ _ _ ?_; clear K' hK
   with_reducible refine aX (by simp) ?_
   with_reducible refine aA ?_
   with_reducible refine aR fun K' hK => ?_
   simp
   refine hK _ _ _ ?_; clear K' hK
   with_reducible refine aw_ret ?_
   simp [blockK, loopK, Post, resA, res1, expT, expA, exp1, expM, expL, okT, okA, ok1, rowOf, Tryz.f160]
   simp [comparN, vb]
 ·simp [va]
  refine hK _ _ _ ?_; clear K' hK
  with_reducible refine aX (by simp) ?_
  with_reducible refine aA ?_
  with_reducible refine aR fun K' hK => ?_
  simp
  refine hK _ _ _ ?_; clear K' hK
  with_reducible refine aw_ret ?_
  simp [blockK, loopK, Post, resA, res1, expT, expA, exp1, expM, expL, okT, okA, ok1, rowOf, Tryz.f160]
  simp [comparN, va]
set_option maxRecDepth 100000
structure Bd where
 op : Int
 ver : Ver
 deriving DecidableEq, Inhabited
abbrev Alt := List Bd
abbrev Rg := List Alt
structure Dep where
 kind : Int
 name : Bs
 range : Rg
 deriving DecidableEq, Inhabited
structure Ru where
 name : Bs
 range : Rg
 deriving DecidableEq, Inhabited
structure Man where
 name : Bs
 ver : Ver
 deps : List Dep
 rules : List Ru
 deriving DecidableEq, Inhabited
def Bd.val (b : Bd) : Value := .agg #[.int .i64 b.op, .int .i64 b.ver.maj, .int .i64 b.ver.min, .int .i64 b.ver.pat, .string b.ver.pre]
def Bd.cells (b : Bd) : List AV := [iV b.op, iV b.ver.maj, iV b.ver.min, iV b.ver.pat, sV b.ver.pre]
def Alt.cells (l : Alt) : List AV := [rowT Bd.cells l]
def Rg.cells (r : Rg) : List AV := [rowT Alt.cells r]
def Dep.cells (d : Dep) : List AV := [iV d.kind, sV d.name, rowT Alt.cells d.range]
def Ru.cells (d : Ru) : List AV := [sV d.name, rowT Alt.cells d.range]
def Man.cells (m : Man) : List AV := [sV m.name, iV m.ver.maj, iV m.ver.min, iV m.ver.pat, sV m.ver.pre, rowT Dep.cells m.deps, rowT Ru.cells m.rules]
instance : Wid Bd.cells 5 := ⟨fun _ => rfl, by decide⟩
instance : Wid Alt.cells 1 := ⟨fun _ => rfl, by decide⟩
instance : Wid Dep.cells 3 := ⟨fun _ => rfl, by decide⟩
instance : Wid Ru.cells 2 := ⟨fun _ => rfl, by decide⟩
instance : Wid Man.cells 7 := ⟨fun _ => rfl, by decide⟩
section
variable {G : Hp}
@[simp] theorem bd_looks (P : Program) (d : Bd) : looksA P G d.cells = some d.cells := rfl
@[simp] theorem bd_trees (P : Program) (d : Bd) : treesOf P G d.cells = some (d.cells, G) := rfl
@[simp] theorem dep_looks (P : Program) (d : Dep) : looksA P G d.cells = some d.cells := rfl
@[simp] theorem dep_trees (P : Program) (d : Dep) : treesOf P G d.cells = some (d.cells, G) := rfl
@[simp] theorem ru_looks (P : Program) (d : Ru) : looksA P G d.cells = some d.cells := rfl
@[simp] theorem ru_trees (P : Program) (d : Ru) : treesOf P G d.cells = some (d.cells, G) := rfl
@[simp] theorem man_looks (P : Program) (d : Man) : looksA P G d.cells = some d.cells := rfl
@[simp] theorem man_trees (P : Program) (d : Man) : treesOf P G d.cells = some (d.cells, G) := rfl
@[simp] theorem rg_looks (P : Program) (d : Rg) : looksA P G d.cells = some d.cells := rfl
@[simp] theorem rg_trees (P : Program) (d : Rg) : treesOf P G d.cells = some (d.cells, G) := rfl
@[simp] theorem alt_looks (P : Program) (d : Alt) : looksA P G d.cells = some d.cells := rfl
@[simp] theorem alt_trees (P : Program) (d : Alt) : treesOf P G d.cells = some (d.cells, G) := rfl
@[simp] theorem dep_one (d : Dep) : d.cells.all AV.one = true := rfl
@[simp] theorem dep_len (d : Dep) : d.cells.length = 3 := rfl
@[simp] theorem ru_one (d : Ru) : d.cells.all AV.one = true := rfl
@[simp] theorem ru_len (d : Ru) : d.cells.length = 2 := rfl
@[simp] theorem man_one (d : Man) : d.cells.all AV.one = true := rfl
@[simp] theorem man_len (d : Man) : d.cells.length = 7 := rfl
@[simp] theorem bd_one (d : Bd) : d.cells.all AV.one = true := rfl
@[simp] theorem bd_len (d : Bd) : d.cells.length = 5 := rfl
@[simp] theorem rg_one (d : Rg) : d.cells.all AV.one = true := rfl
@[simp] theorem rg_len (d : Rg) : d.cells.length = 1 := rfl
@[simp] theorem bd_all (b : Bd) : getC b.cells 0 5 = some b.cells := rfl
@[simp] theorem bd_op (b : Bd) : getC b.cells 0 1 = some [iV b.op] := rfl
@[simp] theorem bd_ver (b : Bd) : getC b.cells 1 4 = some b.ver.cells := rfl
@[simp] theorem bd_conc (b : Bd) : conc (.agg b.cells) = some b.val := rfl
@[simp] theorem rg_all (r : Rg) : getC r.cells 0 1 = some [rowT Alt.cells r] := rfl
@[simp] theorem alt_all (l : Alt) : getC l.cells 0 1 = some [rowT Bd.cells l] := rfl
@[simp] theorem dep_all (d : Dep) : getC d.cells 0 3 = some d.cells := rfl
@[simp] theorem dep_kind (d : Dep) : getC d.cells 0 1 = some [iV d.kind] := rfl
@[simp] theorem dep_name (d : Dep) : getC d.cells 1 1 = some [sV d.name] := rfl
@[simp] theorem dep_range (d : Dep) : getC d.cells 2 1 = some [rowT Alt.cells d.range] := rfl
@[simp] theorem ru_all (d : Ru) : getC d.cells 0 2 = some d.cells := rfl
@[simp] theorem ru_name (d : Ru) : getC d.cells 0 1 = some [sV d.name] := rfl
@[simp] theorem ru_range (d : Ru) : getC d.cells 1 1 = some [rowT Alt.cells d.range] := rfl
@[simp] theorem man_all (m : Man) : getC m.cells 0 7 = some m.cells := rfl
@[simp] theorem man_name (m : Man) : getC m.cells 0 1 = some [sV m.name] := rfl
@[simp] theorem man_ver (m : Man) : getC m.cells 1 4 = some m.ver.cells := rfl
@[simp] theorem man_deps (m : Man) : getC m.cells 5 1 = some [rowT Dep.cells m.deps] := rfl
@[simp] theorem man_rules (m : Man) : getC m.cells 6 1 = some [rowT Ru.cells m.rules] := rfl
@[simp] theorem bd_take (d : Bd) : List.take 5 d.cells = d.cells := rfl
@[simp] theorem dep_take (d : Dep) : List.take 3 d.cells = d.cells := rfl
@[simp] theorem ru_take (d : Ru) : List.take 2 d.cells = d.cells := rfl
@[simp] theorem man_take (d : Man) : List.take 7 d.cells = d.cells := rfl
@[simp] theorem rg_take (d : Rg) : List.take 1 d.cells = d.cells := rfl
end
theorem eqBd' (a b : Bd) : evBin Tryz.prog .neq 87 a.val b.val = some (.bool (!((a.op == b.op) && (((a.ver.maj == b.ver.maj) && ((a.ver.min == b.ver.min) && ((a.ver.pat == b.ver.pat) && ((a.ver.pre.toList == b.ver.pre.toList) && true)))) && true)))) := by kernel_rfl
@[simp] theorem eqBd (a b : Bd) : evBin Tryz.prog .neq 87 a.val b.val = some (.bool (!decide (a = b))) := by
 rw [eqBd', beq_toList]
 have : ((a.op == b.op) && (((a.ver.maj == b.ver.maj) && ((a.ver.min == b.ver.min) && ((a.ver.pat == b.ver.pat) && (decide (a.ver.pre = b.ver.pre) && true)))) && true)) = decide (a = b) := by
  rw [Bool.eq_iff_iff]
  cases a with | mk a1 a2 => cases a2; cases b with | mk b1 b2 => cases b2; simp
 rw [this]
set_option maxRecDepth 100000
set_option maxHeartbeats 1000000
def opN (op c : Int) : Bool := if op = 1 then decide (c = 0) else if op = 2 then decide (c < 0) else if op = 3 then decide (c ≤ 0) else if op = 4 then decide (0 < c) else decide (0 ≤ c)
def holdB (v : Ver) (b : Bd) : Bool := opN b.op (comparN v b.ver)
def nearB (v : Ver) (b : Bd) : Bool := decide (b.ver.pre ≠ ⟨#[]⟩ ∧ { b.ver with pre := v.pre } = v)
theorem sg176_ok (c : Int) : CallsOK Tryz.prog 176 [iV c] (bV (decide (0 ≤ c))) [] := by
 refine callsOK mixed Tryz.call176 Tryz.func176 rfl (by rw [Tryz.ntmps176]; simp) ?_ rfl
 rw [Tryz.ntmps176]
 with_reducible refine aR fun K' hK => ?_
 simp
 refine hK _ _ _ ?_; clear K' hK
 with_reducible refine aR fun K' hK => ?_
 simp
 refine hK _ _ _ ?_; clear K' hK
 with_reducible refine aw_retL ?_
 simp [blockK, loopK, Post, resA, res1, expT, expA, exp1, expM, expL, okT, okA, ok1, rowOf, Tryz.f176]
theorem sg177_ok (c : Int) : CallsOK Tryz.prog 177 [iV c] (bV (decide (c = 0))) [] := by
 refine callsOK mixed Tryz.call177 Tryz.func177 rfl (by rw [Tryz.ntmps177]; simp) ?_ rfl
 rw [Tryz.ntmps177]
 with_reducible refine aR fun K' hK => ?_
 simp
 refine hK _ _ _ ?_; clear K' hK
 with_reducible refine aR fun K' hK => ?_
 simp
 refine hK _ _ _ ?_; clear K' hK
 with_reducible refine aw_retL ?_
 simp [blockK, loopK, Post, resA, res1, expT, expA, exp1, expM, expL, okT, okA, ok1, rowOf, Tryz.f177]
theorem sg178_ok (c : Int) : CallsOK Tryz.prog 178 [iV c] (bV (decide (c < 0))) [] := by
 refine callsOK mixed Tryz.call178 Tryz.func178 rfl (by rw [Tryz.ntmps178]; simp) ?_ rfl
 rw [Tryz.ntmps178]
 with_reducible refine aR fun K' hK => ?_
 simp
 refine hK _ _ _ ?_; clear K' hK
 with_reducible refine aR fun K' hK => ?_
 simp
 refine hK _ _ _ ?_; clear K' hK
 with_reducible refine aw_retL ?_
 simp [blockK, loopK, Post, resA, res1, expT, expA, exp1, expM, expL, okT, okA, ok1, rowOf, Tryz.f178]
theorem sg179_ok (c : Int) : CallsOK Tryz.prog 179 [iV c] (bV (decide (c ≤ 0))) [] := by
 refine callsOK mixed Tryz.call179 Tryz.func179 rfl (by rw [Tryz.ntmps179]; simp) ?_ rfl
 rw [Tryz.ntmps179]
 with_reducible refine aR fun K' hK => ?_
 simp
 refine hK _ _ _ ?_; clear K' hK
 with_reducible refine aR fun K' hK => ?_
 simp
 refine hK _ _ _ ?_; clear K' hK
 with_reducible refine aw_retL ?_
 simp [blockK, loopK, Post, resA, res1, expT, expA, exp1, expM, expL, okT, okA, ok1, rowOf, Tryz.f179]
theorem sg180_ok (c : Int) : CallsOK Tryz.prog 180 [iV c] (bV (decide (0 < c))) [] := by
 refine callsOK mixed Tryz.call180 Tryz.func180 rfl (by rw [Tryz.ntmps180]; simp) ?_ rfl
 rw [Tryz.ntmps180]
 with_reducible refine aR fun K' hK => ?_
 simp
 refine hK _ _ _ ?_; clear K' hK
 with_reducible refine aR fun K' hK => ?_
 simp
 refine hK _ _ _ ?_; clear K' hK
 with_reducible refine aw_retL ?_
 simp [blockK, loopK, Post, resA, res1, expT, expA, exp1, expM, expL, okT, okA, ok1, rowOf, Tryz.f180]
theorem holds139_ok (b : Bd) (v : Ver) (hb : b.ver.pre.size ≤ 1000000) (hv : v.pre.size ≤ 1000000) : CallsOK Tryz.prog 139 [.agg b.cells, .agg v.cells] (bV (holdB v b)) [] := by
 refine callsOK mixed Tryz.call139 Tryz.func139 rfl (by rw [Tryz.ntmps139]; simp) ?_ rfl
 rw [Tryz.ntmps139]
 with_reducible refine aR fun K' hK => ?_
 simp
 refine hK _ _ _ ?_; clear K' hK
 with_reducible refine aR fun K' hK => ?_
 simp
 refine hK _ _ _ ?_; clear K' hK
 with_reducible refine aA ?_
 with_reducible refine aR fun K' hK => ?_
 simp
 refine hK _ _ _ ?_; clear K' hK
 with_reducible refine aw_block ?_
 by_cases h1 : b.op = 1
 ·skip
  with_reducible refine aR fun K' hK => ?_
  simp [h1]
  refine hK _ _ _ ?_; clear K' hK
  with_reducible refine aU (by simp [h1]) ?_
  with_reducible refine aR fun K' hK => ?_
  simp
  refine hK _ _ _ ?_; clear K' hK
  with_reducible refine aw_skipL ?_
  refine blockK_normal ?_
  with_reducible refine aR fun K' hK => ?_
  simp
  refine acall_flat (compare_ok v b.ver hv hb) rfl (by simp) ?_
  simp
  refine acall_flat (sg177_ok (comparN v b.ver)) rfl (by simp) ?_
  simp
  refine hK _ _ _ ?_; clear K' hK
  with_reducible refine aw_retL ?_
  simp [blockK, loopK, Post, resA, res1, expT, expA, exp1, expM, expL, okT, okA, ok1, rowOf, Tryz.f139]
  simp [holdB, opN, h1]
 ·skip
  with_reducible refine aR fun K' hK => ?_
  simp [h1]
  refine hK _ _ _ ?_; clear K' hK
  with_reducible refine aV (by simp [h1]) ?_
  by_cases h2 : b.op = 2
  ·with_reducible refine aA ?_
   with_reducible refine aR fun K' hK => ?_
   simp [h1, h2]
   refine hK _ _ _ ?_; clear K' hK
   with_reducible refine aX (by simp [h1, h2]) ?_
   with_reducible refine aR fun K' hK => ?_
   simp
   refine hK _ _ _ ?_; clear K' hK
   with_reducible refine aw_skipL ?_
   refine blockK_normal ?_
   with_reducible refine aR fun K' hK => ?_
   simp
   refine acall_flat (compare_ok v b.ver hv hb) rfl (by simp) ?_
   simp
   refine acall_flat (sg178_ok (comparN v b.ver)) rfl (by simp) ?_
   simp
   refine hK _ _ _ ?_; clear K' hK
   with_reducible refine aw_retL ?_
   simp [blockK, loopK, Post, resA, res1, expT, expA, exp1, expM, expL, okT, okA, ok1, rowOf, Tryz.f139]
   simp [holdB, opN, h1, h2]
  ·with_reducible refine aA ?_
   with_reducible refine aR fun K' hK => ?_
   simp [h1, h2]
   refine hK _ _ _ ?_; clear K' hK
   with_reducible refine aY (by simp [h1, h2]) ?_
   by_cases h3 : b.op = 3
   ·with_reducible refine aA ?_
    with_reducible refine aR fun K' hK => ?_
    simp [h1, h2, h3]
    refine hK _ _ _ ?_; clear K' hK
    with_reducible refine aX (by simp [h1, h2, h3]) ?_
    with_reducible refine aR fun K' hK => ?_
    simp
    refine hK _ _ _ ?_; clear K' hK
    with_reducible refine aw_skipL ?_
    refine blockK_normal ?_
    with_reducible refine aR fun K' hK => ?_
    simp
    refine acall_flat (compare_ok v b.ver hv hb) rfl (by simp) ?_
    simp
    refine acall_flat (sg179_ok (comparN v b.ver)) rfl (by simp) ?_
    simp
    refine hK _ _ _ ?_; clear K' hK
    with_reducible refine aw_retL ?_
    simp [blockK, loopK, Post, resA, res1, expT, expA, exp1, expM, expL, okT, okA, ok1, rowOf, Tryz.f139]
    simp [holdB, opN, h1, h2, h3]
   ·with_reducible refine aA ?_
    with_reducible refine aR fun K' hK => ?_
    simp [h1, h2, h3]
    refine hK _ _ _ ?_; clear K' hK
    with_reducible refine aY (by simp [h1, h2, h3]) ?_
    by_cases h4 : b.op = 4
    ·with_reducible refine aA ?_
     with_reducible refine aR fun K' hK => ?_
     simp [h1, h2, h3, h4]
     refine hK _ _ _ ?_; clear K' hK
     with_reducible refine aX (by simp [h1, h2, h3, h4]) ?_
     with_reducible refine aR fun K' hK => ?_
     simp
     refine hK _ _ _ ?_; clear K' hK
     with_reducible refine aw_skipL ?_
     refine blockK_normal ?_
     with_reducible refine aR fun K' hK => ?_
     simp
     refine acall_flat (compare_ok v b.ver hv hb) rfl (by simp) ?_
     simp
     refine acall_flat (sg180_ok (comparN v b.ver)) rfl (by simp) ?_
     simp
     refine hK _ _ _ ?_; clear K' hK
     with_reducible refine aw_retL ?_
     simp [blockK, loopK, Post, resA, res1, expT, expA, exp1, expM, expL, okT, okA, ok1, rowOf, Tryz.f139]
     simp [holdB, opN, h1, h2, h3, h4]
    ·with_reducible refine aA ?_
     with_reducible refine aR fun K' hK => ?_
     simp [h1, h2, h3, h4]
     refine hK _ _ _ ?_; clear K' hK
     with_reducible refine aYk (by simp [h1, h2, h3, h4]) ?_
     with_reducible refine aw_skipL ?_
     refine blockK_normal ?_
     with_reducible refine aR fun K' hK => ?_
     simp
     refine acall_flat (compare_ok v b.ver hv hb) rfl (by simp) ?_
     simp
     refine acall_flat (sg176_ok (comparN v b.ver)) rfl (by simp) ?_
     simp
     refine hK _ _ _ ?_; clear K' hK
     with_reducible refine aw_retL ?_
     simp [blockK, loopK, Post, resA, res1, expT, expA, exp1, expM, expL, okT, okA, ok1, rowOf, Tryz.f139]
     simp [holdB, opN, h1, h2, h3, h4]
@[simp] theorem ver_put3 (d : Ver) (p : Bs) : List.take 3 d.cells ++ sV p :: List.drop 4 d.cells = ({ d with pre := p } : Ver).cells := rfl
theorem eql23' (a b : Ver) : evBin Tryz.prog .eql 23 a.val b.val = some (.bool ((a.maj == b.maj) && ((a.min == b.min) && ((a.pat == b.pat) && ((a.pre.toList == b.pre.toList) && true))))) := by kernel_rfl
@[simp] theorem eql23 (a b : Ver) : evBin Tryz.prog .eql 23 a.val b.val = some (.bool (decide (a = b))) := by
 rw [eql23', beq_toList]
 congr 2
 rw [Bool.eq_iff_iff]
 cases a; cases b; simp
theorem near140_ok (b : Bd) (v : Ver) : CallsOK Tryz.prog 140 [.agg b.cells, .agg v.cells] (bV (nearB v b)) [] := by
 refine callsOK mixed Tryz.call140 Tryz.func140 rfl (by rw [Tryz.ntmps140]; simp) ?_ rfl
 rw [Tryz.ntmps140]
 with_reducible refine aR fun K' hK => ?_
 simp
 refine hK _ _ _ ?_; clear K' hK
 with_reducible refine aR fun K' hK => ?_
 simp
 refine hK _ _ _ ?_; clear K' hK
 by_cases h : b.ver.pre = ⟨#[]⟩
 ·skip
  with_reducible refine aR fun K' hK => ?_
  simp [h]
  refine hK _ _ _ ?_; clear K' hK
  with_reducible refine aR fun K' hK => ?_
  simp
  refine hK _ _ _ ?_; clear K' hK
  with_reducible refine aR fun K' hK => ?_
  simp
  refine hK _ _ _ ?_; clear K' hK
  with_reducible refine aw_retL ?_
  simp [blockK, loopK, Post, resA, res1, expT, expA, exp1, expM, expL, okT, okA, ok1, rowOf, Tryz.f140]
  simp [nearB, h]
 ·skip
  with_reducible refine aR fun K' hK => ?_
  simp [h]
  refine hK _ _ _ ?_; clear K' hK
  with_reducible refine aR fun K' hK => ?_
  simp
  refine hK _ _ _ ?_; clear K' hK
  with_reducible refine aR fun K' hK => ?_
  simp
  refine hK _ _ _ ?_; clear K' hK
  with_reducible refine aw_retL ?_
  simp [blockK, loopK, Post, resA, res1, expT, expA, exp1, expM, expL, okT, okA, ok1, rowOf, Tryz.f140]
  simp [nearB, h]
set_option maxRecDepth 100000
set_option maxHeartbeats 1000000
def bdOk (b : Bd) : Bool := verOk b.ver && (decide (1 ≤ b.op) && decide (b.op ≤ 5))
def altOk (l : Alt) : Bool := l.all bdOk && decide (l.length ≤ 8)
def rgOk (r : Rg) : Bool := r.all altOk && (decide (1 ≤ r.length) && decide (r.length ≤ 8))
def Alt.sz (l : Alt) : Prop := l.length ≤ 1000000000 ∧ ∀ b ∈ l, b.ver.pre.size ≤ 1000000
def Rg.sz (r : Rg) : Prop := r.length ≤ 1000000000 ∧ ∀ l ∈ r, Alt.sz l
theorem right138_ok (r : Rg) (hr : Rg.sz r) : CallsOK Tryz.prog 138 [.agg r.cells] (bV (rgOk r)) [] := by
 refine callsOK mixed Tryz.call138 Tryz.func138 rfl (by rw [Tryz.ntmps138]; simp) ?_ rfl
 rw [Tryz.ntmps138]
 have hl := hr.1
 with_reducible refine aR fun K' hK => ?_
 simp
 refine hK _ _ _ ?_; clear K' hK
 with_reducible refine aA ?_
 with_reducible refine aR fun K' hK => ?_
 simp [Rg.cells]
 refine hK _ _ _ ?_; clear K' hK
 with_reducible refine aw_block ?_
 refine aw_loop (fun s G nx => G 0 = some (.var 33 [rowT Alt.cells r]) ∧ s 1 = .ptr 0 0 ∧ s 10 = rowT Alt.cells r ∧ s 11 = iV r.length ∧ ∃ i : Nat, s 12 = iV i ∧ i ≤ r.length ∧ (r.take i).all altOk = true) (fun s _ _ => match s 12 with | .v (.int _ n) => r.length - n.toNat | _ => 0) ?_ ?_
 ·exact ⟨by simp [Rg.cells], by simp, by simp [Rg.cells], by simp [Rg.cells], 0, by simp, by omega, by simp⟩
 ·rintro s G nx hf ⟨g0, s1, s10, s11, i, s12, hi, ht⟩
  have o12 := s12
  have n0 : ¬ 0 = nx := by have := fresh_lt hf g0; omega
  have hw : IntKind.i64.wrap (↑i + 1) = ((i + 1 : Nat) : Int) := wrapS (by omega)
  with_reducible refine aR fun K' hK => ?_
  simp [s11, s12]
  refine hK _ _ _ ?_; clear K' hK
  with_reducible refine aC fun A B hA hB => ?_
  simp
  refine ⟨fun hi2 => hA ?_, fun hi2 => hB ?_⟩ <;> clear hA hB A B <;> (try simp at hi2) <;> (try with_reducible refine aK ?_)
  ·have hstep := all_take1 (p := altOk) hi2
   have hA := hr.2 _ (nth_mem hi2)
   have hfalse : altOk (nth r i) = false → rgOk r = false := fun h => by rw [rgOk, all_false hi2 h]; rfl
   generalize hgl : nth r i = l at *
   have hAl := hA.1
   with_reducible refine aw_block ?_
   with_reducible refine aR fun K' hK => ?_
   simp [s10, s12, hi2, hgl]
   refine hK _ _ _ ?_; clear K' hK
   with_reducible refine aA ?_
   with_reducible refine aR fun K' hK => ?_
   simp
   refine hK _ _ _ ?_; clear K' hK
   with_reducible refine aw_block ?_
   refine aw_loop (fun s G nx => G 0 = some (.var 33 [rowT Alt.cells r]) ∧ s 1 = .ptr 0 0 ∧ s 10 = rowT Alt.cells r ∧ s 11 = iV r.length ∧ s 12 = iV i ∧ s 4 = rowT Bd.cells l ∧ s 16 = rowT Bd.cells l ∧ s 17 = iV l.length ∧ ∃ j : Nat, s 18 = iV j ∧ j ≤ l.length ∧ (l.take j).all bdOk = true) (fun s _ _ => match s 18 with | .v (.int _ n) => l.length - n.toNat | _ => 0) ?_ ?_
   ·exact ⟨by simp [g0], by simp [s1], by simp [s10], by simp [s11], by simp [s12], by simp, by simp, by simp, 0, by simp, by omega, by simp⟩
   ·clear s1 s10 s11 s12 g0 hf n0
    rintro s G nx hf ⟨g0, s1, s10, s11, s12, s4, s16, s17, j, s18, hj, hjt⟩
    have n0 : ¬ 0 = nx := by have := fresh_lt hf g0; omega
    have hwj : IntKind.i64.wrap (↑j + 1) = ((j + 1 : Nat) : Int) := wrapS (by omega)
    with_reducible refine aR fun K' hK => ?_
    simp [s17, s18]
    refine hK _ _ _ ?_; clear K' hK
    with_reducible refine aC fun A B hA hB => ?_
    simp
    refine ⟨fun hj2 => hA ?_, fun hj2 => hB ?_⟩ <;> clear hA hB A B <;> (try simp at hj2) <;> (try with_reducible refine aK ?_)
    ·have hjstep := all_take1 (p := bdOk) hj2
     have hjfalse : bdOk (nth l j) = false → rgOk r = false := fun h => hfalse (by rw [altOk, all_false hj2 h]; rfl)
     have hbz := hA.2 _ (nth_mem hj2)
     generalize hgb : nth l j = b at *
     with_reducible refine aw_block ?_
     with_reducible refine aR fun K' hK => ?_
     simp [s16, s18, hj2, hgb]
     refine hK _ _ _ ?_; clear K' hK
     with_reducible refine aR fun K' hK => ?_
     simp
     refine acall_flat (print51_ok b.ver (by omega)) rfl (by simp) ?_
     simp
     refine hK _ _ _ ?_; clear K' hK
     by_cases c1 : verOk b.ver = true
     ·by_cases c2 : b.op < 1
      ·skip
       with_reducible refine aR fun K' hK => ?_
       simp [c1, c2]
       refine hK _ _ _ ?_; clear K' hK
       with_reducible refine aU (by simp) ?_
       with_reducible refine aA ?_
       with_reducible refine aR fun K' hK => ?_
       simp
       refine hK _ _ _ ?_; clear K' hK
       with_reducible refine aw_ret ?_
       simp [blockK, loopK, Post, resA, res1, expT, expA, exp1, expM, expL, okT, okA, ok1, rowOf, Tryz.f138]
       exact hjfalse (by simp [bdOk]; omega)
      ·by_cases c3 : 5 < b.op
       ·skip
        with_reducible refine aR fun K' hK => ?_
        simp [c1, c2, c3]
        refine hK _ _ _ ?_; clear K' hK
        with_reducible refine aU (by simp) ?_
        with_reducible refine aA ?_
        with_reducible refine aR fun K' hK => ?_
        simp
        refine hK _ _ _ ?_; clear K' hK
        with_reducible refine aw_ret ?_
        simp [blockK, loopK, Post, resA, res1, expT, expA, exp1, expM, expL, okT, okA, ok1, rowOf, Tryz.f138]
        exact hjfalse (by simp [bdOk]; omega)
       ·skip
        with_reducible refine aR fun K' hK => ?_
        simp [c1, c2, c3]
        refine hK _ _ _ ?_; clear K' hK
        with_reducible refine aVk (by simp) ?_
        with_reducible refine aw_skipL ?_
        refine blockK_normal ?_
        with_reducible refine aS fun K' hK => ?_
        simp [s18, hwj]
        refine hK _ _ _ ?_; clear K' hK
        refine aw_skipL (loopK_normal ?_ ?_)
        ·exact ⟨by simp [n0, g0], by simp [s1], by simp [s10], by simp [s11], by simp [s12], by simp [s4], by simp [s16], by simp [s17], j + 1, by simp [hwj], by omega, by rw [hjstep, hjt]; simp [bdOk, c1]; omega⟩
        ·simp [s18, hwj]; omega
     ·skip
      with_reducible refine aR fun K' hK => ?_
      simp [c1]
      refine hK _ _ _ ?_; clear K' hK
      with_reducible refine aU (by simp) ?_
      with_reducible refine aA ?_
      with_reducible refine aR fun K' hK => ?_
      simp
      refine hK _ _ _ ?_; clear K' hK
      with_reducible refine aw_ret ?_
      simp [blockK, loopK, Post, resA, res1, expT, expA, exp1, expM, expL, okT, okA, ok1, rowOf, Tryz.f138]
      exact hjfalse (by simp [bdOk, c1])
    ·skip
     with_reducible refine aw_exit ?_
     refine loopK_exit (blockK_exit ?_)
     with_reducible refine aR fun K' hK => ?_
     simp [s4]
     refine hK _ _ _ ?_; clear K' hK
     rw [List.take_of_length_le (by omega)] at hjt
     with_reducible refine aD fun A B hA hB => ?_
     simp
     refine ⟨fun c8 => hA ?_, fun c8 => hB ?_⟩ <;> clear hA hB A B <;> (try simp at c8) <;> (try with_reducible refine aK ?_)
     ·with_reducible refine aA ?_
      with_reducible refine aR fun K' hK => ?_
      simp
      refine hK _ _ _ ?_; clear K' hK
      with_reducible refine aw_ret ?_
      simp [blockK, loopK, Post, resA, res1, expT, expA, exp1, expM, expL, okT, okA, ok1, rowOf, Tryz.f138]
      exact hfalse (by have c9 : ¬ l.length ≤ 8 := (by omega); simp [altOk, c9])
     ·with_reducible refine aw_skipL ?_
      refine blockK_normal ?_
      with_reducible refine aS fun K' hK => ?_
      simp [s12, hw]
      refine hK _ _ _ ?_; clear K' hK
      refine aw_skipL (loopK_normal ?_ ?_)
      ·exact ⟨by simp [g0], by simp [s1], by simp [s10], by simp [s11], i + 1, by simp [hw], by omega, by rw [hstep, ht]; simp only [altOk, hjt, Bool.true_and, decide_eq_true_eq]; omega⟩
      ·simp [o12, s12, hw]; omega
  ·skip
   with_reducible refine aw_exit ?_
   refine loopK_exit (blockK_exit ?_)
   rw [List.take_of_length_le (by omega)] at ht
   by_cases c1 : 1 ≤ r.length
   ·have c2 : (1 : Int) ≤ (r.length : Int) := by omega
    with_reducible refine aR fun K' hK => ?_
    simp [s1, g0, c2]
    refine hK _ _ _ ?_; clear K' hK
    with_reducible refine aw_retL ?_
    simp [blockK, loopK, Post, resA, res1, expT, expA, exp1, expM, expL, okT, okA, ok1, rowOf, Tryz.f138]
    simp [rgOk, ht, c1]; omega
   ·have c2 : ¬ (1 : Int) ≤ (r.length : Int) := by omega
    with_reducible refine aR fun K' hK => ?_
    simp [s1, g0, c2]
    refine hK _ _ _ ?_; clear K' hK
    with_reducible refine aw_retL ?_
    simp [blockK, loopK, Post, resA, res1, expT, expA, exp1, expM, expL, okT, okA, ok1, rowOf, Tryz.f138]
    simp [rgOk, c1]
def altHolds (v : Ver) (l : Alt) : Bool := l.all (holdB v) && (decide (v.pre = ⟨#[]⟩) || l.any (nearB v))
def rgHolds (v : Ver) (r : Rg) : Bool := verOk v && (rgOk r && r.any (altHolds v))
theorem holds84_ok (r : Rg) (v : Ver) (hr : Rg.sz r) (hv : v.pre.size ≤ 1000000) : CallsOK Tryz.prog 84 [.agg r.cells, .agg v.cells] (bV (rgHolds v r)) [] := by
 refine callsOK mixed Tryz.call84 Tryz.func84 rfl (by rw [Tryz.ntmps84]; simp) ?_ rfl
 rw [Tryz.ntmps84]
 have hl := hr.1
 with_reducible refine aR fun K' hK => ?_
 simp
 refine hK _ _ _ ?_; clear K' hK
 refine aw_scopeL ?_
 with_reducible refine aA ?_
 with_reducible refine aR fun K' hK => ?_
 simp
 refine acall_flat (print51_ok v (by omega)) rfl (by simp) ?_
 simp
 refine hK _ _ _ ?_; clear K' hK
 by_cases c1 : verOk v = true
 ·with_reducible refine aA ?_
  with_reducible refine aR fun K' hK => ?_
  simp [c1]
  refine acall_flat (right138_ok r hr) rfl (by simp [Rg.cells]) ?_
  by_cases c2 : rgOk r = true
  ·simp [c2]
   refine hK _ _ _ ?_; clear K' hK
   with_reducible refine aYk (by simp) ?_
   refine aw_label ?_
   with_reducible refine aA ?_
   with_reducible refine aR fun K' hK => ?_
   simp [Rg.cells]
   refine hK _ _ _ ?_; clear K' hK
   with_reducible refine aw_block ?_
   refine aw_loop (fun s G nx => G 1 = some (.var 23 v.cells) ∧ s 3 = .ptr 1 0 ∧ s 25 = rowT Alt.cells r ∧ s 26 = iV r.length ∧ ∃ i : Nat, s 27 = iV i ∧ i ≤ r.length ∧ (r.take i).any (altHolds v) = false) (fun s _ _ => match s 27 with | .v (.int _ n) => r.length - n.toNat | _ => 0) ?_ ?_
   ·exact ⟨by simp, by simp, by simp [Rg.cells], by simp [Rg.cells], 0, by simp, by omega, by simp⟩
   ·rintro s G nx hf ⟨g1, s3, s25, s26, i, s27, hi, ht⟩
    have o27 := s27
    have n1 : ¬ 1 = nx := by have := fresh_lt hf g1; omega
    have hw : IntKind.i64.wrap (↑i + 1) = ((i + 1 : Nat) : Int) := wrapS (by omega)
    with_reducible refine aR fun K' hK => ?_
    simp [s26, s27]
    refine hK _ _ _ ?_; clear K' hK
    with_reducible refine aC fun A B hA hB => ?_
    simp
    refine ⟨fun hi2 => hA ?_, fun hi2 => hB ?_⟩ <;> clear hA hB A B <;> (try simp at hi2) <;> (try with_reducible refine aK ?_)
    ·have hA := hr.2 _ (nth_mem hi2)
     have htrue : altHolds v (nth r i) = true → r.any (altHolds v) = true := fun h => List.any_eq_true.2 ⟨_, nth_mem hi2, h⟩
     have hfalse : altHolds v (nth r i) = false → (r.take (i + 1)).any (altHolds v) = false := any_take hi2 ht
     generalize hgl : nth r i = l at *
     have hAl := hA.1
     with_reducible refine aw_block ?_
     with_reducible refine aR fun K' hK => ?_
     simp [s25, s27, hi2, hgl]
     refine hK _ _ _ ?_; clear K' hK
     with_reducible refine aR fun K' hK => ?_
     simp [s3, g1]
     refine hK _ _ _ ?_; clear K' hK
     with_reducible refine aA ?_
     with_reducible refine aR fun K' hK => ?_
     simp
     refine hK _ _ _ ?_; clear K' hK
     with_reducible refine aw_block ?_
     refine aw_loop (fun s G nx => G 1 = some (.var 23 v.cells) ∧ s 3 = .ptr 1 0 ∧ s 25 = rowT Alt.cells r ∧ s 26 = iV r.length ∧ s 27 = iV i ∧ s 34 = rowT Bd.cells l ∧ s 35 = iV l.length ∧ ∃ j : Nat, s 36 = iV j ∧ j ≤ l.length ∧ s 9 = bV (decide (v.pre = ⟨#[]⟩) || (l.take j).any (nearB v)) ∧ (l.take j).all (holdB v) = true) (fun s _ _ => match s 36 with | .v (.int _ n) => l.length - n.toNat | _ => 0) ?_ ?_
     ·exact ⟨by simp [g1], by simp [s3], by simp [s25], by simp [s26], by simp [s27], by simp, by simp, 0, by simp, by omega, by simp, by simp⟩
     ·clear s3 s25 s26 s27 g1 hf n1
      rintro s G nx hf ⟨g1, s3, s25, s26, s27, s34, s35, j, s36, hj, s9, hjt⟩
      have n1 : ¬ 1 = nx := by have := fresh_lt hf g1; omega
      have hwj : IntKind.i64.wrap (↑j + 1) = ((j + 1 : Nat) : Int) := wrapS (by omega)
      with_reducible refine aR fun K' hK => ?_
      simp [s35, s36]
      refine hK _ _ _ ?_; clear K' hK
      with_reducible refine aC fun A B hA hB => ?_
      simp
      refine ⟨fun hj2 => hA ?_, fun hj2 => hB ?_⟩ <;> clear hA hB A B <;> (try simp at hj2) <;> (try with_reducible refine aK ?_)
      ·have hjstep := all_take1 (p := holdB v) hj2
       have hnstep := any_take1 (p := nearB v) hj2
       have hjfalse : holdB v (nth l j) = false → altHolds v l = false := fun h => by rw [altHolds, all_false hj2 h]; rfl
       have hbz := hA.2 _ (nth_mem hj2)
       generalize hgb : nth l j = b at *
       with_reducible refine aw_block ?_
       with_reducible refine aR fun K' hK => ?_
       simp [s34, s36, hj2, hgb]
       refine hK _ _ _ ?_; clear K' hK
       with_reducible refine aA ?_
       with_reducible refine aR fun K' hK => ?_
       simp [s3, g1, n1]
       refine acall_flat (holds139_ok b v hbz hv) rfl (by simp) ?_
       simp
       refine hK _ _ _ ?_; clear K' hK
       by_cases c3 : holdB v b = true
       ·skip
        with_reducible refine aYk (by simp [c3]) ?_
        generalize hnb : (decide (v.pre = ⟨#[]⟩) || (l.take j).any (nearB v)) = nb at *
        cases nb with
        | true =>
         with_reducible refine aS fun K' hK => ?_
         simp [s9]
         refine hK _ _ _ ?_; clear K' hK
         with_reducible refine aw_skipL ?_
         refine blockK_normal ?_
         with_reducible refine aS fun K' hK => ?_
         simp [s36, hwj]
         refine hK _ _ _ ?_; clear K' hK
         refine aw_skipL (loopK_normal ?_ ?_)
         ·exact ⟨by simp [n1, g1], by simp [s3], by simp [s25], by simp [s26], by simp [s27], by simp [s34], by simp [s35], j + 1, by simp [hwj], by omega, by rw [hnstep, ← Bool.or_assoc, hnb]; simp, by rw [hjstep, hjt, c3]; rfl⟩
         ·simp [s36, hwj]; omega
        | false =>
         with_reducible refine aS fun K' hK => ?_
         simp [s9, s3, g1, n1]
         refine acall_flat (near140_ok b v) rfl (by simp) ?_
         simp
         refine hK _ _ _ ?_; clear K' hK
         with_reducible refine aw_skipL ?_
         refine blockK_normal ?_
         with_reducible refine aS fun K' hK => ?_
         simp [s36, hwj]
         refine hK _ _ _ ?_; clear K' hK
         refine aw_skipL (loopK_normal ?_ ?_)
         ·exact ⟨by simp [n1, g1], by simp [s3], by simp [s25], by simp [s26], by simp [s27], by simp [s34], by simp [s35], j + 1, by simp [hwj], by omega, by rw [hnstep, ← Bool.or_assoc, hnb]; simp, by rw [hjstep, hjt, c3]; rfl⟩
         ·simp [s36, hwj]; omega
       ·skip
        with_reducible refine aX (by simp [c3]) ?_
        with_reducible refine aw_exit ?_
        repeat first | with_reducible refine blockK_exit ?_ | with_reducible refine blockK_pass (by decide) ?_ | with_reducible refine loopK_exit ?_
        with_reducible refine aS fun K' hK => ?_
        simp [s27, hw]
        refine hK _ _ _ ?_; clear K' hK
        refine aw_skipL (loopK_normal ?_ ?_)
        ·exact ⟨by simp [n1, g1], by simp [s3], by simp [s25], by simp [s26], i + 1, by simp [hw], by omega, hfalse (hjfalse (by simpa using c3))⟩
        ·simp [o27, s27, hw]; omega
      ·skip
       with_reducible refine aw_exit ?_
       refine loopK_exit (blockK_exit ?_)
       rw [List.take_of_length_le (by omega)] at hjt s9
       have hah : altHolds v l = (decide (v.pre = ⟨#[]⟩) || l.any (nearB v)) := by rw [altHolds, hjt]; rfl
       rw [← hah] at s9
       by_cases c4 : altHolds v l = true
       ·skip
        with_reducible refine aR fun K' hK => ?_
        simp [s9, c4]
        refine hK _ _ _ ?_; clear K' hK
        with_reducible refine aU (by simp) ?_
        with_reducible refine aA ?_
        with_reducible refine aR fun K' hK => ?_
        simp
        refine hK _ _ _ ?_; clear K' hK
        with_reducible refine aw_ret ?_
        simp [blockK, loopK, Post, resA, res1, expT, expA, exp1, expM, expL, okT, okA, ok1, rowOf, Tryz.f84, scopeK]
        simp [rgHolds, c1, c2, htrue c4]
       ·skip
        with_reducible refine aR fun K' hK => ?_
        simp [s9, c4]
        refine hK _ _ _ ?_; clear K' hK
        with_reducible refine aVk (by simp) ?_
        with_reducible refine aw_skipL ?_
        refine blockK_normal ?_
        with_reducible refine aS fun K' hK => ?_
        simp [s27, hw]
        refine hK _ _ _ ?_; clear K' hK
        refine aw_skipL (loopK_normal ?_ ?_)
        ·exact ⟨by simp [g1], by simp [s3], by simp [s25], by simp [s26], i + 1, by simp [hw], by omega, hfalse (by simpa using c4)⟩
        ·simp [o27, s27, hw]; omega
    ·skip
     with_reducible refine aw_exit ?_
     refine loopK_exit (blockK_exit ?_)
     rw [List.take_of_length_le (by omega)] at ht
     with_reducible refine aR fun K' hK => ?_
     simp
     refine hK _ _ _ ?_; clear K' hK
     with_reducible refine aw_retL ?_
     simp [blockK, loopK, Post, resA, res1, expT, expA, exp1, expM, expL, okT, okA, ok1, rowOf, Tryz.f84, scopeK]
     simp [rgHolds, ht]
  ·simp [c2]
   refine hK _ _ _ ?_; clear K' hK
   with_reducible refine aX (by simp) ?_
   with_reducible refine aA ?_
   with_reducible refine aR fun K' hK => ?_
   simp
   refine hK _ _ _ ?_; clear K' hK
   with_reducible refine aw_ret ?_
   simp [blockK, loopK, Post, resA, res1, expT, expA, exp1, expM, expL, okT, okA, ok1, rowOf, Tryz.f84, scopeK]
   simp [rgHolds, c2]
 ·with_reducible refine aA ?_
  with_reducible refine aR fun K' hK => ?_
  simp [c1]
  refine hK _ _ _ ?_; clear K' hK
  with_reducible refine aX (by simp) ?_
  with_reducible refine aA ?_
  with_reducible refine aR fun K' hK => ?_
  simp
  refine hK _ _ _ ?_; clear K' hK
  with_reducible refine aw_ret ?_
  simp [blockK, loopK, Post, resA, res1, expT, expA, exp1, expM, expL, okT, okA, ok1, rowOf, Tryz.f84, scopeK]
  simp [rgHolds, c1]
end Go.Proofs.YtgipehooceecpaaGreatDoorAbs
