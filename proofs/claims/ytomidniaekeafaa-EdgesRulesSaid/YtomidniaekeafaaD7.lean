/- More on rows of the call's own. -/
import Derived.Test.YtomidniaekeafaaD6
namespace Go.Proofs.YtomidniaekeafaaAbs
open Go Go.RowKit

section
variable {P : Program} {s : Sl} {G : Hp} {nx : Nat} {α : Type} {c : α → List AV} {w : Nat} {l : List α}
theorem treeOf_congr {G G' : Hp} {id n : Nat} (h : G' id = G id) : treeOf P G' (.row id n) = treeOf P G (.row id n) := by
  rw [treeOf_row, treeOf_row, h]
@[simp] theorem treeOf_updne {j id n : Nat} {o : AObj} (h : ¬ id = j) : treeOf P (G.upd j o) (.row id n) = treeOf P G (.row id n) := treeOf_congr (Hp.upd_ne _ _ h)
@[simp] theorem treeOf_frz {id n n' : Nat} : treeOf P (frzOf G (.row id n')) (.row id n) = treeOf P G (.row id n) := by
  rw [treeOf_row, treeOf_row, frzOf_row]
  cases hG : G id with
  | none => simp [hG]
  | some o =>
    cases o with
    | row e cs => cases cs <;> simp [hG]
    | _ => simp [hG]
@[simp] theorem treeOf_frzne {j id n n' : Nat} (h : ¬ id = j) : treeOf P (frzOf G (.row j n')) (.row id n) = treeOf P G (.row id n) := treeOf_congr (frzOf_ne h)
@[simp] theorem getC_zz (cs : List AV) : getC cs 0 0 = some [] := by simp [getC]
@[simp] theorem getC_cons0 (a : AV) (cs : List AV) (k : Nat) : getC (a :: cs) 0 (k + 1) = (getC cs 0 k).map (a :: ·) := by
  simp only [getC, List.length_cons, Nat.zero_add, List.drop_zero, List.take_succ_cons]
  by_cases h : k ≤ cs.length
  · rw [if_pos (by omega), if_pos h]; rfl
  · rw [if_neg (by omega), if_neg h]; rfl
@[simp] theorem getC_cons (a : AV) (cs : List AV) (n k : Nat) : getC (a :: cs) (n + 1) k = getC cs n k := by
  simp only [getC, List.length_cons, List.drop_succ_cons]
  by_cases h : n + k ≤ cs.length
  · rw [if_pos (by omega), if_pos h]
  · rw [if_neg (by omega), if_neg h]
def ltO (cs : List AV) (w i f : Nat) : Bool := decide (i * w + f < cs.length)
@[simp] theorem ltO_flat [Wid c w] {i f : Nat} (h : i < l.length) (hf : f < w) : ltO (flat c l) w i f = true := by
  have hlt : i * w + w ≤ l.length * w := by rw [← Nat.succ_mul]; exact Nat.mul_le_mul_right _ h
  simp only [ltO, flat_len (c := c) (w := w), decide_eq_true_eq]; omega
theorem drop_isSome (cs : List AV) (k : Nat) : (match cs.drop k with | _ :: _ => true | _ => false) = decide (k < cs.length) := by
  by_cases h : k < cs.length
  · have : (cs.drop k).length ≠ 0 := by rw [List.length_drop]; omega
    cases hd : cs.drop k with
    | nil => rw [hd] at this; simp at this
    | cons a r => simp [h]
  · rw [List.drop_eq_nil_of_le (by omega)]; simp [h]
@[simp] theorem adr_row (id n i f : Nat) : adr G (eaO id n w i f) = match G id with
    | some (.row _ cs) => ltO cs w i f
    | some (.frz _ cs) => ltO cs w i f
    | _ => false := by
  unfold adr eaO ltO
  simp only [rdAt]
  cases G id with
  | none => rfl
  | some o =>
    cases o <;> try rfl
    all_goals
      rename_i cs
      simp only
      rw [← drop_isSome]
      cases cs.drop (i * w + f) <;> rfl
attribute [-simp] adr_eaO
theorem treeOf_of [Wid c w] {id n : Nat} {e : TypeId} (hG : G id = some (.row e (flat c l))) (he : P.cellsOf e = w) (hn : n = l.length) : treeOf P G (.row id n) = some (rowT c l) := by
  subst hn; exact treeOf_own (.inl hG) he
theorem treeOf_of' [Wid c w] {id n : Nat} {e : TypeId} (hG : G id = some (.frz e (flat c l))) (he : P.cellsOf e = w) (hn : n = l.length) : treeOf P G (.row id n) = some (rowT c l) := by
  subst hn; exact treeOf_own (.inr hG) he
theorem frz_same [Wid c w] {id n : Nat} {e : TypeId} (hG : G id = some (.row e (flat c l))) : frzOf G (.row id n) id = some (.frz e (flat c l)) ∨ (frzOf G (.row id n) id = some (.row e (flat c l)) ∧ l = []) := by
  rw [frzOf_row, hG]
  cases hf : flat c l with
  | nil =>
    refine .inr ⟨by simp [hG, hf], ?_⟩
    have h1 := flat_len (c := c) (w := w) (l := l)
    rw [hf] at h1
    have h2 := Wid.pos (c := c)
    cases l with
    | nil => rfl
    | cons a r => simp only [List.length_nil, List.length_cons, Nat.add_mul] at h1; omega
  | cons a r => exact .inl (by simp)
end
end Go.Proofs.YtomidniaekeafaaAbs
