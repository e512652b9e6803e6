/- The order of texts; what the names of edges are. -/
import Derived.Test.YtomidniaekeafaaFun10
import Derived.Test.YtomidniaekeafaaR1
import Derived.Sort.Walk0
import Derived.Sort.KeysCollected
namespace Go.Proofs.YtomidniaekeafaaAbs
set_option linter.unusedSimpArgs false
set_option linter.unusedVariables false
open Go Go.RowKit Go.Proofs
def ltB (a b : Bs) : Bool := decide (bsL a < bsL b)
theorem bsL_inj {a b : Bs} (h : bsL a = bsL b) : a = b := WideShapes.bytes_inj h
theorem toL_bsL (a : Bs) : a.toList = bsL a := ByteArray.toList_eq a
@[simp] theorem str_lss (P : Program) (t : TypeId) (a b : Bs) : evBin P .lss t (.string a) (.string b) = some (.bool (ltB a b)) := by
  simp only [evBin, bytesLess_eq, toL_bsL, ltB]
@[simp] theorem str_geq (P : Program) (t : TypeId) (a b : Bs) : evBin P .geq t (.string a) (.string b) = some (.bool (!ltB a b)) := by
  simp only [evBin, bytesLess_eq, toL_bsL, ltB]
def leB' (a b : Bs) : Prop := bsL a ≤ bsL b
theorem leB'_trans {a b c : Bs} (h1 : leB' a b) (h2 : leB' b c) : leB' a c := List.le_trans h1 h2
theorem leB'_anti {a b : Bs} (h1 : leB' a b) (h2 : leB' b a) : a = b := bsL_inj (List.le_antisymm h1 h2)
theorem ltB_of {a b : Bs} (h : leB' a b) (hne : a ≠ b) : ltB a b = true := by
  simp only [ltB, decide_eq_true_eq]
  rcases Classical.em (bsL a < bsL b) with h1 | h1
  · exact h1
  · exact absurd (leB'_anti h (show bsL b ≤ bsL a from List.not_lt.1 h1)) hne
theorem leB'_of_lt {a b : Bs} (h : ltB a b = true) : leB' a b := by
  simp only [ltB, decide_eq_true_eq] at h
  exact List.le_of_lt h
theorem sortN_sorted (l : List Bs) : (sortN l).Pairwise leB' := by
  have tr : ∀ a b c : List UInt8, decide (a ≤ b) = true → decide (b ≤ c) = true → decide (a ≤ c) = true := fun a b c h1 h2 => by simp only [decide_eq_true_eq] at *; exact List.le_trans h1 h2
  have to : ∀ a b : List UInt8, (decide (a ≤ b) || decide (b ≤ a)) = true := fun a b => by simp only [Bool.or_eq_true, decide_eq_true_eq]; exact List.le_total a b
  unfold sortN sortK
  refine List.pairwise_map.2 ((List.pairwise_mergeSort tr to (l.map bsL)).imp fun h => ?_)
  simpa [leB', bsL] using h
theorem sortN_eq {l l' : List Bs} (hp : l'.Perm l) (hs : l'.Pairwise leB') : sortN l = l' :=
  List.Perm.eq_of_pairwise (le := leB') (fun a b _ _ h1 h2 => leB'_anti h1 h2) (sortN_sorted l) hs ((sortN_perm l).trans hp.symm)
theorem sortN_self {l : List Bs} (hs : l.Pairwise leB') : sortN l = l := sortN_eq (List.Perm.refl _) hs
theorem sortN_lt {l : List Bs} (hnd : l.Nodup) : (sortN l).Pairwise (fun a b => ltB a b = true) := by
  have h1 := sortN_sorted l
  have h2 : (sortN l).Nodup := (sortN_perm l).nodup_iff.2 hnd
  exact (h1.and h2).imp fun h => ltB_of h.1 h.2
end Go.Proofs.YtomidniaekeafaaAbs
