/- hoggetref04: may, digits, Number, part. -/
import Derived.Test.YtgipehooceecpaaGreatDoorM7
import Derived.Test.YtgipehooceecpaaGreatDoorM4
namespace Go.Proofs.YtgipehooceecpaaGreatDoorAbs
set_option linter.unusedSimpArgs false
set_option linter.unusedVariables false
open Go Go.RowKit Go.Proofs
set_option maxRecDepth 100000
set_option maxHeartbeats 1000000
def namesU (t : List Pl) (l : List Nat) : List Bs := (l.filter fun j => decide (0 < j)).map fun j => (nth t j).name
def pathL (t : List Pl) (i : Nat) : List Bs := (namesU t (upN t i)).reverse
def AccAt (G : Hp) (nx : Nat) (x : AV) (acc : List Bs) : Prop := (x = .v (.slice none 0 0) ∧ acc = []) ∨ ∃ r, x = .row r acc.length ∧ G r = some (.row 9 (flat sC acc)) ∧ 5 ≤ r ∧ r < nx
def pathOf (t : List Pl) (i : Int) : Bs := if holdsF t i then pathS (pathL t i.toNat) else ⟨#[]⟩
end Go.Proofs.YtgipehooceecpaaGreatDoorAbs
namespace Go.Proofs.YtgipehooceecpaaGreatDoorAbs
set_option linter.unusedSimpArgs false
set_option linter.unusedVariables false
open Go Go.RowKit Go.Proofs
set_option maxRecDepth 100000
set_option maxHeartbeats 1000000
def nmL : List UInt8 := [110, 111, 100, 101, 95, 109, 111, 100, 117, 108, 101, 115, 47]
def partS (l : List UInt8) : Bs × List UInt8 × Bool :=
 let c := Lib.cut (Lib.trimPrefix l nmL) [47]
 let c2 := Lib.cut c.2.1 [47]
 let b := Lib.hasPrefix c.1 [64] && c.2.2
 (if Lib.hasPrefix l nmL = false then ⟨#[]⟩ else if b then ofL c.1 ++ (⟨#[47]⟩ ++ ofL c2.1) else ofL c.1, if b then c2.2 else c.2)
def splitGo : Nat → List UInt8 → Option (List Bs)
 | 0, _ => none
 | k + 1, l => if goodF (bsL (partS l).1) then (if (partS l).2.2 then (splitGo k (partS l).2.1).map ((partS l).1 :: ·) else some [(partS l).1]) else none
def splitF (s : Bs) : Option (List Bs) := if s = ⟨#[]⟩ then some [] else splitGo 12 (bsL s)
def splitR (s : Bs) : AV × Js := match splitF s with
 | none => (.tup [.v (.slice none 0 0), bV false], [])
 | some [] => (.tup [.v (.slice none 0 0), bV true], [])
 | some (a :: l) => (.tup [.row 0 (a :: l).length, bV true], [(9, flat sC (a :: l))])
end Go.Proofs.YtgipehooceecpaaGreatDoorAbs
namespace Go.Proofs.YtgipehooceecpaaGreatDoorAbs
set_option linter.unusedSimpArgs false
set_option linter.unusedVariables false
open Go Go.RowKit Go.Proofs
set_option maxRecDepth 100000
set_option maxHeartbeats 1000000
def findGo (t : List Pl) : Int → List Bs → Option Int
 | c, [] => some c
 | c, b :: r => match chF t c b with
  | some k => findGo t k r
  | none => none
def findF (t : List Pl) (s : Bs) : Option Int := match splitF s with
 | none => none
 | some l => if checkN t = 0 then findGo t 0 l else none
end Go.Proofs.YtgipehooceecpaaGreatDoorAbs
namespace Go.Proofs.YtgipehooceecpaaGreatDoorAbs
set_option linter.unusedSimpArgs false
set_option linter.unusedVariables false
open Go Go.RowKit Go.Proofs
set_option maxRecDepth 100000
set_option maxHeartbeats 1000000
def belowK (t : List Pl) (i : Nat) (k : Nat) : List Int := ((List.range k).filter fun j => decide (i ≤ j) && underF t j i).map fun (j : Nat) => (j : Int)
def belowL (t : List Pl) (i : Int) : List Int := if holdsF t i then belowK t i.toNat t.length else []
theorem belowK_succ {t : List Pl} {i k : Nat} (h : i ≤ k) : belowK t i (k + 1) = belowK t i k ++ if underF t k i = true then [(k : Int)] else [] := by
 unfold belowK
 rw [List.range_succ, List.filter_append, List.map_append]
 congr 1
 cases hu : underF t k i <;> simp [hu, h]
theorem belowK_len {t : List Pl} {i k : Nat} : (belowK t i k).length ≤ k := by
 have := List.length_filter_le (fun j => decide (i ≤ j) && underF t j i) (List.range k)
 simpa [belowK] using this
theorem below28_ok (t : List Pl) (ht : OKs t) (i : Int) : CallsOK Tryz.prog 69 [rowT Pl.cells t, iV i] (.row 0 (belowL t i).length) [(3, flat iC (belowL t i))] := by
 refine callsOK mixed Tryz.call69 Tryz.func69 rfl (by rw [Tryz.ntmps69]; simp) ?_ rfl
 rw [Tryz.ntmps69]
 repeat with_reducible refine aw_assoc ?_
 first | with_reducible refine aw_region0 (by decide +kernel) fun K' hK => ?_ | with_reducible refine aw_toS (aw_region0 (by decide +kernel) fun K' hK => ?_)
 simp []
 first | refine hK _ _ _ ?_ | done
 clear K' hK
 repeat with_reducible refine aw_assoc ?_
 first | with_reducible refine aw_region0 (by decide +kernel) fun K' hK => ?_ | with_reducible refine aw_toS (aw_region0 (by decide +kernel) fun K' hK => ?_)
 simp []
 refine acall_flat (holds43_ok t ht i) rfl (by simp) ?_
 cases hh : holdsF t i with
 | false =>
  have e : belowL t i = [] := by rw [belowL, hh]; rfl
  simp
  first | refine hK _ _ _ ?_ | done
  clear K' hK
  repeat with_reducible refine aw_assoc ?_
  first | with_reducible refine aw_condP fun A B hA hB => ?_ | with_reducible refine aw_toS (aw_condP fun A B hA hB => ?_)
  simp []
  refine ⟨fun hc => hA ?_, fun hc => hB ?_⟩ <;> clear hA hB A B <;> (try (simp at hc; done)) <;> (try (exfalso; simp at hc; omega)) <;> clear hc <;> (try with_reducible refine aw_skip ?_)
  repeat with_reducible refine aw_assoc ?_
  first | with_reducible refine aw_region0 (by decide +kernel) fun K' hK => ?_ | with_reducible refine aw_toS (aw_region0 (by decide +kernel) fun K' hK => ?_)
  simp []
  first | refine hK _ _ _ ?_ | done
  clear K' hK
  repeat with_reducible refine aw_assoc ?_
  first | with_reducible refine aw_ret ?_ | with_reducible refine aw_retL ?_ | with_reducible refine aw_skipL ?_
  simp [blockK, loopK, Post, resA, res1, expT, expA, exp1, expM, expL, okT, okA, ok1, rowOf, Tryz.f69]
  rw [e]
  exact ⟨[1], ⟨rfl, rfl⟩, rfl⟩
 | true =>
  obtain ⟨hch, hi0, hi1⟩ := holdsF_inv hh
  obtain ⟨n, rfl⟩ : ∃ n : Nat, i = n := ⟨i.toNat, by omega⟩
  have hn : n < t.length := by omega
  have hd := good_dn hch
  have hl := ht.1
  have e : belowL t n = belowK t n t.length := by rw [belowL, hh]; simp
  have hk0 : belowK t n n = [] := by
   unfold belowK
   rw [show (List.range n).filter (fun j => decide (n ≤ j) && underF t j n) = [] from List.filter_eq_nil_iff.2 (fun j hj => by have := List.mem_range.1 hj; simp; omega)]; rfl
  simp
  first | refine hK _ _ _ ?_ | done
  clear K' hK
  repeat with_reducible refine aw_assoc ?_
  first | with_reducible refine aw_condP fun A B hA hB => ?_ | with_reducible refine aw_toS (aw_condP fun A B hA hB => ?_)
  simp []
  refine ⟨fun hc => hA ?_, fun hc => hB ?_⟩ <;> clear hA hB A B <;> (try (simp at hc; done)) <;> (try (exfalso; simp at hc; omega)) <;> clear hc <;> (try with_reducible refine aw_skip ?_)
  repeat with_reducible refine aw_assoc ?_
  first | with_reducible refine aw_region0 (by decide +kernel) fun K' hK => ?_ | with_reducible refine aw_toS (aw_region0 (by decide +kernel) fun K' hK => ?_)
  simp []
  first | refine hK _ _ _ ?_ | done
  clear K' hK
  repeat with_reducible refine aw_assoc ?_
  first | with_reducible refine aw_region0 (by decide +kernel) fun K' hK => ?_ | with_reducible refine aw_toS (aw_region0 (by decide +kernel) fun K' hK => ?_)
  simp []
  first | refine hK _ _ _ ?_ | done
  clear K' hK
  repeat with_reducible refine aw_assoc ?_
  first | with_reducible refine aw_block ?_ | with_reducible refine aw_toS (aw_block ?_)
  refine aw_loop (fun u G nx => u 0 = rowT Pl.cells t ∧ u 1 = iV n ∧ ∃ k r : Nat, u 6 = iV k ∧ n ≤ k ∧ k ≤ t.length ∧ u 5 = .row r (belowK t n k).length ∧ G r = some (.row 3 (flat iC (belowK t n k))) ∧ r < nx) (fun u _ _ => match u 6 with | .v (.int _ n) => t.length - n.toNat | _ => 0) ?_ ?_
  ·exact ⟨by simp, by simp, n, 1, by simp, by omega, by omega, by simp [hk0], by simp [hk0], by omega⟩
  ·rintro u G nx - ⟨u0, u1, k, r, u6, hnk, hk, u5, gr, hrn⟩
   have hw : IntKind.i64.wrap (↑k + 1) = ((k + 1 : Nat) : Int) := wrapS (by omega)
   have hbs := belowK_succ (t := t) hnk
   have hlen := belowK_len (t := t) (i := n) (k := k)
   repeat with_reducible refine aw_assoc ?_
   first | with_reducible refine aw_region0 (by decide +kernel) fun K' hK => ?_ | with_reducible refine aw_toS (aw_region0 (by decide +kernel) fun K' hK => ?_)
   simp [u0, u6]
   first | refine hK _ _ _ ?_ | done
   clear K' hK
   repeat with_reducible refine aw_assoc ?_
   first | with_reducible refine aw_condP fun A B hA hB => ?_ | with_reducible refine aw_toS (aw_condP fun A B hA hB => ?_)
   simp []
   refine ⟨fun hi2 => hA ?_, fun hi2 => hB ?_⟩ <;> clear hA hB A B <;> (try simp at hi2) <;> (try with_reducible refine aw_skip ?_)
   ·repeat with_reducible refine aw_assoc ?_
    first | with_reducible refine aw_block ?_ | with_reducible refine aw_toS (aw_block ?_)
    repeat with_reducible refine aw_assoc ?_
    first | with_reducible refine aw_region0 (by decide +kernel) fun K' hK => ?_ | with_reducible refine aw_toS (aw_region0 (by decide +kernel) fun K' hK => ?_)
    simp [u0, u1, u6]
    refine acall_flat (under40_ok t hd hl k hi2 n) rfl (by simp) ?_
    simp
    first | refine hK _ _ _ ?_ | done
    clear K' hK
    cases hu : underF t k n with
    | true =>
     rw [hu] at hbs
     have b1 : (belowK t n k).length + 1 ≤ 9223372036854775807 := by omega
     have b2 : ((belowK t n k).length + 1) * 8 ≤ 140737488355328 := by omega
     have n1 : ¬ r = nx := by omega
     repeat with_reducible refine aw_assoc ?_
     first | with_reducible refine aw_condP fun A B hA hB => ?_ | with_reducible refine aw_toS (aw_condP fun A B hA hB => ?_)
     simp []
     refine ⟨fun hc => hA ?_, fun hc => hB ?_⟩ <;> clear hA hB A B <;> (try (simp at hc; done)) <;> (try (exfalso; simp at hc; omega)) <;> clear hc <;> (try with_reducible refine aw_skip ?_)
     repeat with_reducible refine aw_assoc ?_
     first | with_reducible refine aw_region0 (by decide +kernel) fun K' hK => ?_ | with_reducible refine aw_toS (aw_region0 (by decide +kernel) fun K' hK => ?_)
     simp [u5, u6, gr, b1, b2, n1, treeOf_row, srcOf_row]
     first | refine hK _ _ _ ?_ | done
     clear K' hK
     first | with_reducible refine aw_skipL ?_ | skip
     refine blockK_normal ?_
     repeat with_reducible refine aw_assoc ?_
     first | with_reducible refine aw_region0 (by decide +kernel) fun K' hK => ?_ | with_reducible refine aw_toS (aw_region0 (by decide +kernel) fun K' hK => ?_)
     simp [u6, hw]
     first | refine hK _ _ _ ?_ | done
     clear K' hK
     refine aw_skipL (loopK_normal ?_ ?_)
     ·refine ⟨by simp [u0], by simp [u1], k + 1, nx + 1, by simp [hw], by omega, by omega, ?_, ?_, by omega⟩
      ·rw [hbs]; simp
      ·rw [hbs, if_pos rfl, Hp.upd_self, ← flat_app]; rfl
     ·simp [u6, hw]; omega
    | false =>
     rw [hu] at hbs
     have hbs' : belowK t n (k + 1) = belowK t n k := by rw [hbs]; simp
     repeat with_reducible refine aw_assoc ?_
     first | with_reducible refine aw_condP fun A B hA hB => ?_ | with_reducible refine aw_toS (aw_condP fun A B hA hB => ?_)
     simp []
     refine ⟨fun hc => hA ?_, fun hc => hB ?_⟩ <;> clear hA hB A B <;> (try (simp at hc; done)) <;> (try (exfalso; simp at hc; omega)) <;> clear hc <;> (try with_reducible refine aw_skip ?_)
     first | with_reducible refine aw_skipL ?_ | skip
     refine blockK_normal ?_
     repeat with_reducible refine aw_assoc ?_
     first | with_reducible refine aw_region0 (by decide +kernel) fun K' hK => ?_ | with_reducible refine aw_toS (aw_region0 (by decide +kernel) fun K' hK => ?_)
     simp [u6, hw]
     first | refine hK _ _ _ ?_ | done
     clear K' hK
     refine aw_skipL (loopK_normal ?_ ?_)
     ·exact ⟨by simp [u0], by simp [u1], k + 1, r, by simp [hw], by omega, by omega, by rw [hbs']; simp [u5], by rw [hbs']; exact gr, hrn⟩
     ·simp [u6, hw]; omega
   ·repeat with_reducible refine aw_assoc ?_
    first | with_reducible refine aw_exit ?_ | with_reducible refine aw_exitL ?_
    refine loopK_exit (blockK_exit ?_)
    have : k = t.length := by omega
    subst this
    repeat with_reducible refine aw_assoc ?_
    first | with_reducible refine aw_region0 (by decide +kernel) fun K' hK => ?_ | with_reducible refine aw_toS (aw_region0 (by decide +kernel) fun K' hK => ?_)
    simp [u5]
    first | refine hK _ _ _ ?_ | done
    clear K' hK
    repeat with_reducible refine aw_assoc ?_
    first | with_reducible refine aw_ret ?_ | with_reducible refine aw_retL ?_ | with_reducible refine aw_skipL ?_
    simp [blockK, loopK, Post, resA, res1, expT, expA, exp1, expM, expL, okT, okA, ok1, rowOf, Tryz.f69, gr]
    rw [e]
    exact ⟨[r], ⟨rfl, rfl⟩, by simp [rowOf, gr]⟩
end Go.Proofs.YtgipehooceecpaaGreatDoorAbs
namespace Go.Proofs.YtgipehooceecpaaGreatDoorAbs
set_option linter.unusedSimpArgs false
set_option linter.unusedVariables false
open Go Go.RowKit Go.Proofs
set_option maxHeartbeats 400000
theorem nth_setG {α : Type} [Inhabited α] {l : List α} {i k : Nat} {a : α} (hi : i < l.length) : nth (l.set i a) k = if k = i then a else nth l k := by
 unfold nth
 rw [List.getD_eq_getElem?_getD, List.getD_eq_getElem?_getD, List.getElem?_set]
 by_cases h : i = k
 ·subst h; simp [hi]
 ·have h' : ¬ k = i := fun e => h e.symm
  simp [h, h']
structure Good (t : List Pl) : Prop where
 le : t.length ≤ 200
 pos : 0 < t.length
 root : nth t 0 = rootP
 par : ∀ j, 1 ≤ j → j < t.length → 0 ≤ parN t j ∧ parN t j < j
 right : ∀ j, 1 ≤ j → j < t.length → rightF (nth t j).name (nth t j).ver = true
 uniq : ∀ j k, 1 ≤ j → j < k → k < t.length → parN t j = parN t k → (nth t j).name = (nth t k).name → False
 high : ∀ j, 1 ≤ j → j < t.length → (upN t j).length ≤ 13
theorem dn_of {t : List Pl} (h0 : parN t 0 = -1) (hp : ∀ j, 1 ≤ j → j < t.length → 0 ≤ parN t j ∧ parN t j < j) : Dn t := by
 intro i hi
 rcases Nat.eq_zero_or_pos i with rfl | h
 ·rw [h0]; omega
 ·exact (hp i h hi).2
theorem root_par {t : List Pl} (h : nth t 0 = rootP) : parN t 0 = -1 := by rw [parN, h]; rfl
theorem Good.dn {t : List Pl} (g : Good t) : Dn t := dn_of (root_par g.root) g.par
theorem up_zero {t : List Pl} (h0 : parN t 0 = -1) : upN t 0 = [0] := by
 unfold upN
 rw [upF, if_pos (by omega)]
theorem dD_val {t : List Pl} (h0 : parN t 0 = -1) (hp : ∀ j, 1 ≤ j → j < t.length → 0 ≤ parN t j ∧ parN t j < j) : ∀ i, i < t.length → ∀ j, j ≤ i → nth (dD t i) j + 1 = ((upN t j).length : Int)
 | 0, hi, j, hj => by
  have : j = 0 := by omega
  subst this
  rw [up_zero h0, dD, nth_eq (by simpa using hi)]
  simp
 | i + 1, hi, j, hj => by
  have ih := dD_val h0 hp i (by omega)
  rw [dD, nth_setG (by rw [dD_len]; exact hi), nth_tail hi]
  by_cases h : j = i + 1
  ·subst h
   obtain ⟨h1, h2⟩ := hp (i + 1) (by omega) hi
   have hq : (nth t (i + 1)).par = parN t (i + 1) := rfl
   rw [if_pos rfl, hq, ih _ (by omega), up_step (dn_of h0 hp) hi, if_neg (by omega)]
   simp
  ·rw [if_neg h]
   exact ih j (by omega)
theorem mem_keys {t : List Pl} {i : Nat} (h : i < t.length) {k : Key} : k ∈ keysTo t i ↔ ∃ j, 1 ≤ j ∧ j ≤ i ∧ keyP (nth t j) = k := by
 unfold keysTo
 rw [List.mem_map]
 constructor
 ·rintro ⟨p, hp, rfl⟩
  obtain ⟨j, hj, rfl⟩ := List.mem_iff_getElem.1 hp
  rw [List.length_take, List.length_tail] at hj
  refine ⟨j + 1, by omega, by omega, ?_⟩
  rw [List.getElem_take, nth_eq (by omega)]
  simp
 ·rintro ⟨j, h1, h2, rfl⟩
  obtain ⟨j, rfl⟩ : ∃ m, j = m + 1 := ⟨j - 1, by omega⟩
  refine ⟨nth t (j + 1), List.mem_iff_getElem.2 ⟨j, by rw [List.length_take, List.length_tail]; omega, ?_⟩, rfl⟩
  rw [List.getElem_take, nth_eq (by omega)]
  simp
theorem okAt_iff {t : List Pl} {i : Nat} (h : i + 1 < t.length) : okAt t i = true ↔ (0 ≤ parN t (i + 1) ∧ parN t (i + 1) ≤ i) ∧ rightF (nth t (i + 1)).name (nth t (i + 1)).ver = true ∧
  (∀ j, 1 ≤ j → j ≤ i → parN t j = parN t (i + 1) → (nth t j).name = (nth t (i + 1)).name → False) ∧ nth (dD t i) (parN t (i + 1)).toNat + 1 ≤ 12 := by
 have hk : keyP (nth t (i + 1)) ∉ keysTo t i ↔ (∀ j, 1 ≤ j → j ≤ i → parN t j = parN t (i + 1) → (nth t j).name = (nth t (i + 1)).name → False) := by
  rw [mem_keys (by omega)]
  constructor
  ·intro h j h1 h2 h3 h4
   refine h ⟨j, h1, h2, ?_⟩
   unfold keyP
   rw [h4]
   exact congrArg (Key.mk · _) h3
  ·rintro h ⟨j, h1, h2, h3⟩
   unfold keyP at h3
   injection h3 with h3 h4
   exact h j h1 h2 h3 h4
 simp only [okAt, Bool.and_eq_true, decide_eq_true_eq, nth_tail h, hk]
 exact ⟨fun ⟨a, b, c, d, e⟩ => ⟨⟨a, b⟩, c, d, e⟩, fun ⟨⟨a, b⟩, c, d, e⟩ => ⟨a, b, c, d, e⟩⟩
theorem check_iff {t : List Pl} : checkN t = 0 ↔ Good t := by
 constructor
 ·intro h
  obtain ⟨h1, h2, h3, h4⟩ := check_good h
  have h0 := root_par h3
  have hp : ∀ j, 1 ≤ j → j < t.length → 0 ≤ parN t j ∧ parN t j < j := fun j hj hl => by
   obtain ⟨j, rfl⟩ : ∃ m, j = m + 1 := ⟨j - 1, by omega⟩
   have := ((okAt_iff hl).1 (h4 j hl)).1
   omega
  refine ⟨h1, List.length_pos_iff.2 h2, h3, hp, fun j hj hl => ?_, fun j k h1 h2 h3 => ?_, fun j hj hl => ?_⟩
  ·obtain ⟨j, rfl⟩ : ∃ m, j = m + 1 := ⟨j - 1, by omega⟩
   exact ((okAt_iff hl).1 (h4 j hl)).2.1
  ·obtain ⟨k, rfl⟩ : ∃ m, k = m + 1 := ⟨k - 1, by omega⟩
   exact ((okAt_iff h3).1 (h4 k h3)).2.2.1 j h1 (by omega)
  ·obtain ⟨j, rfl⟩ : ∃ m, j = m + 1 := ⟨j - 1, by omega⟩
   have := ((okAt_iff hl).1 (h4 j hl)).2.2.2
   have hq := hp (j + 1) hj hl
   rw [dD_val h0 hp j (by omega) _ (by omega)] at this
   rw [up_step (dn_of h0 hp) hl, if_neg (by omega)]
   simp; omega
 ·intro g
  have h0 := root_par g.root
  unfold checkN
  rw [if_neg (by have := g.le; omega), if_neg (by simp [g.root, List.ne_nil_of_length_pos g.pos]), if_pos]
  unfold treeOk
  rw [List.all_eq_true]
  intro j hj
  have hl : j + 1 < t.length := by
   have := List.mem_range.1 hj
   rw [List.length_tail] at this; omega
  have hq := g.par (j + 1) (by omega) hl
  refine (okAt_iff hl).2 ⟨by omega, g.right _ (by omega) hl, fun k h1 h2 => g.uniq k (j + 1) h1 (by omega) hl, ?_⟩
  rw [dD_val h0 g.par j (by omega) _ (by omega)]
  have := g.high (j + 1) (by omega) hl
  rw [up_step g.dn hl, if_neg (by omega)] at this
  simp at this; omega
theorem holds_iff {t : List Pl} {i : Int} : holdsF t i = true ↔ Good t ∧ 0 ≤ i ∧ i < t.length := by
 simp [holdsF, check_iff]
-- children
theorem chF_some {t : List Pl} {p : Int} {b : Bs} {k : Nat} (h : chF t p b = some k) : k < t.length ∧ parN t k = p ∧ (nth t k).name = b := by
 unfold chF at h
 rw [List.findIdx?_eq_some_iff_getElem] at h
 obtain ⟨h1, h2, _⟩ := h
 rw [← nth_eq h1] at h2
 have := of_decide_eq_true h2
 exact ⟨h1, this⟩
theorem chF_none {t : List Pl} {p : Int} {b : Bs} : chF t p b = none ↔ ∀ k, k < t.length → parN t k = p → (nth t k).name = b → False := by
 unfold chF
 rw [List.findIdx?_eq_none_iff]
 constructor
 ·intro h k hk h1 h2
  have := h _ (nth_mem hk)
  simp only [chP, decide_eq_false_iff_not] at this
  exact this ⟨h1, h2⟩
 ·intro h p hp
  obtain ⟨k, hk, rfl⟩ := List.mem_iff_getElem.1 hp
  rw [← nth_eq hk]
  simp only [chP, decide_eq_false_iff_not]
  exact fun ⟨h1, h2⟩ => h k hk h1 h2
theorem Good.child {t : List Pl} (g : Good t) {p : Int} (hp : 0 ≤ p) {b : Bs} {k : Nat} (hk : k < t.length) (h1 : parN t k = p) (h2 : (nth t k).name = b) : chF t p b = some k := by
 cases h : chF t p b with
 | none => exact (chF_none.1 h k hk h1 h2).elim
 | some j =>
  obtain ⟨a1, a2, a3⟩ := chF_some h
  have h0 := root_par g.root
  have hj : 1 ≤ j := by
   rcases Nat.eq_zero_or_pos j with rfl | h
   ·omega
   ·exact h
  have hk1 : 1 ≤ k := by
   rcases Nat.eq_zero_or_pos k with rfl | h
   ·omega
   ·exact h
  rcases Nat.lt_trichotomy j k with hl | rfl | hl
  ·exact (g.uniq j k hj hl hk (by rw [a2, h1]) (by rw [a3, h2])).elim
  ·rfl
  ·exact (g.uniq k j hk1 hl a1 (by rw [a2, h1]) (by rw [a3, h2])).elim
-- a place is added
section
variable {t : List Pl} {i : Int} {b : Bs} {v : Ver}
theorem res_at {i : Nat} (hh : Good t) (hi : i < t.length) {k : Nat} (hc : chF t i b = some k) : resolveN t i b = k := by
 have h : holdsF t i = true := holds_iff.2 ⟨hh, by omega, by omega⟩
 rw [resolveN, h, if_pos rfl, Int.toNat_natCast, up_step hh.dn hi, resL, hc]
theorem res_root (hh : Good t) {i : Nat} (hi : i < t.length) (hc : chF t i b = none) (hp : parN t i < 0) : resolveN t i b = -1 := by
 have h : holdsF t i = true := holds_iff.2 ⟨hh, by omega, by omega⟩
 rw [resolveN, h, if_pos rfl, Int.toNat_natCast, up_step hh.dn hi, resL, hc, if_pos hp]; rfl
end
end Go.Proofs.YtgipehooceecpaaGreatDoorAbs
namespace Go.Proofs.YtgipehooceecpaaGreatDoorAbs
set_option linter.unusedSimpArgs false
set_option linter.unusedVariables false
open Go Go.RowKit Go.Proofs
set_option maxHeartbeats 400000
def rkN (t : List Pl) (i : Int) (j : Nat) : Nat := (keptN t i j).length
section
variable {t : List Pl} {i : Int}
theorem mem_up (g : Good t) : ∀ (m : Nat) {j x : Nat}, j < m → j < t.length → x ∈ upN t j → x ≤ j
 | 0, j, x, h, _, _ => by omega
 | m + 1, j, x, h, hj, hx => by
  have hd := g.dn j hj
  rw [up_step g.dn hj] at hx
  rcases List.mem_cons.1 hx with rfl | hx
  ·exact Nat.le_refl _
  ·split at hx
   ·cases hx
   ·have := mem_up g m (j := (parN t j).toNat) (by omega) (by omega) hx
    omega
theorem under_ge (g : Good t) {j : Nat} (hj : j < t.length) (h : underF t j i = true) : i ≤ j := by
 unfold underF at h
 obtain ⟨x, hx, h⟩ := List.any_eq_true.1 h
 have := mem_up g _ (Nat.lt_succ_self j) hj hx
 have := of_decide_eq_true h
 omega
theorem under_self (g : Good t) {j : Nat} (hj : j < t.length) : underF t j j = true := by
 rw [under_step g.dn hj]; simp
end
set_option linter.unusedSectionVars false
section
variable {t : List Pl} {i : Int} (g : Good t) (h1 : 1 ≤ i) (h2 : i < t.length)
include g h1 h2
end
-- paths
section
variable {t : List Pl}
end
-- what is added, and cut, is the tree as it was
end Go.Proofs.YtgipehooceecpaaGreatDoorAbs
namespace Go.Proofs.YtgipehooceecpaaGreatDoorAbs
set_option linter.unusedSimpArgs false
set_option linter.unusedVariables false
open Go Go.RowKit Go.Proofs
set_option maxHeartbeats 400000
-- cuts at a byte
theorem ib_in : ∀ {a r : List UInt8} {c : UInt8}, c ∉ a → Lib.indexByte (a ++ c :: r) c = a.length
 | [], r, c, _ => by simp [Lib.indexByte]
 | b :: a, r, c, h => by
  have h1 : (b == c) = false := by
   simpa using fun e => h (by simp [e])
  have h2 := ib_in (a := a) (r := r) (c := c) (fun e => h (List.mem_cons_of_mem _ e))
  rw [List.cons_append, Lib.indexByte, h1, h2]
  have h3 : ((a.length : Int) == -1) = false := by
   rw [beq_eq_false_iff_ne]; omega
  simp [h3]
theorem ib_out : ∀ {a : List UInt8} {c : UInt8}, c ∉ a → Lib.indexByte a c = -1
 | [], c, _ => rfl
 | b :: a, c, h => by
  have h1 : (b == c) = false := by
   simpa using fun e => h (by simp [e])
  rw [Lib.indexByte, h1, ib_out (a := a) (fun e => h (List.mem_cons_of_mem _ e))]
  simp
theorem first_at : ∀ {l : List UInt8} {c : UInt8}, c ∈ l → ∃ a r, c ∉ a ∧ l = a ++ c :: r
 | [], c, h => by cases h
 | b :: l, c, h => by
  by_cases hb : c = b
  ·exact ⟨[], l, by simp, by simp [hb]⟩
  ·obtain ⟨a, r, h1, h2⟩ := first_at (l := l) (c := c) (by simpa [hb] using h)
   exact ⟨b :: a, r, by simp [hb, h1], by simp [h2]⟩
-- names
-- joined
def joinB (l : List Bs) : List UInt8 := Lib.join (l.map fun b => bsL (preB b)) [47]
end Go.Proofs.YtgipehooceecpaaGreatDoorAbs
namespace Go.Proofs.YtgipehooceecpaaGreatDoorAbs
open Go Go.RowKit
section
variable {P : Program} [Gl P] {N : Nat} {K : Exit → KS} {s : Sl} {G : Hp} {nx : Nat}
theorem aw_un {a b c : Code} (h : AW P N (.seq (.seq a b) c) K s G nx) : AW P N (.seq a (.seq b c)) K s G nx := by
 have e : AW P N (.seq (.seq a b) c) K = AW P N (.seq a (.seq b c)) K := by
  show AW P N a _ = AW P N a _
  congr 1
  funext e
  cases e <;> rfl
 rw [← e]; exact h
theorem aops_app {ops : Array Oper} {d : Bool} {K : KS} : ∀ (a b : List Oper), AOps P N ops d (a ++ b) K = AOps P N ops d a (AOps P N ops d b K)
 | [], b => rfl
 | o :: a, b => by
  show AStep P N ops d o (AOps P N ops d (a ++ b) K) = AStep P N ops d o (AOps P N ops d a (AOps P N ops d b K))
  rw [aops_app a b]
theorem aops_part {ops : Array Oper} {d : Bool} {K : KS} {os : List Oper} (j : Nat) (h : ∀ K2 : KS, (∀ s G nx, AOps P N ops d (os.drop j) K s G nx → K2 s G nx) → AOps P N ops d (os.take j) K2 s G nx) : AOps P N ops d os K s G nx := by
 have := h _ fun _ _ _ h => h
 rw [← aops_app, List.take_append_drop] at this
 exact this
end
end Go.Proofs.YtgipehooceecpaaGreatDoorAbs
namespace Go.Proofs.YtgipehooceecpaaGreatDoorAbs
set_option linter.unusedSimpArgs false
set_option linter.unusedVariables false
open Go Go.RowKit Go.Proofs
set_option maxRecDepth 100000
set_option maxHeartbeats 1000000
theorem c34 : Tryz.prog.cellsOf 58 = 6 := by kernel_rfl
theorem frz_new {G : Hp} {r n : Nat} {t : List Pl} (hG : G r = some (.row 58 (flat Pl.cells t))) (hne : t ≠ []) : frzOf G (.row r n) = G.upd r (.frz 58 (flat Pl.cells t)) := by
 cases t with
 | nil => exact absurd rfl hne
 | cons p t => rw [frzOf_row, hG]; rfl
theorem frz_old {G : Hp} {r n : Nat} {e : Nat} {cs : List AV} (hG : G r = some (.frz e cs)) : frzOf G (.row r n) = G := by
 rw [frzOf_row, hG]
end Go.Proofs.YtgipehooceecpaaGreatDoorAbs
namespace Go.Proofs.YtgipehooceecpaaGreatDoorAbs
set_option linter.unusedSimpArgs false
set_option linter.unusedVariables false
open Go Go.RowKit Go.Proofs
set_option maxRecDepth 100000
set_option maxHeartbeats 1000000
end Go.Proofs.YtgipehooceecpaaGreatDoorAbs
namespace Go.Proofs.YtgipehooceecpaaGreatDoorAbs
set_option linter.unusedSimpArgs false
set_option linter.unusedVariables false
open Go Go.RowKit Go.Proofs
set_option maxRecDepth 100000
set_option maxHeartbeats 1000000
def digB (c : UInt8) : Bool := decide ((48 : Int) ≤ (c.toNat : Int)) && decide ((c.toNat : Int) ≤ 57)
def numV (l : List UInt8) : Int := l.foldl (fun n c => 10 * n + ((c.toNat : Int) - 48)) 0
def numR (l : List UInt8) : Int := if numOk l then numV l else -1
end Go.Proofs.YtgipehooceecpaaGreatDoorAbs
