/- More on rows of the call's own. -/
import Derived.Test.YtomidniaekeafaaD6
namespace Go.Proofs.YtomidniaekeafaaAbs
open Go Go.RowKit

section
variable {P : Program} {s : Sl} {G : Hp} {nx : Nat} {α : Type} {c : α → List AV} {w : Nat} {l : List α}
theorem treeOf_congr {G G' : Hp} {id n : Nat} (h : G' id = G id) : treeOf P G' (.row id n) = treeOf P G (.row id n) := by
  rw [treeOf_row, treeOf_row, h]
@[simp] theorem treeOf_updne {j id n : Nat} {o : AObj} (h : ¬ id = j) : treeOf P (G.upd j o) (.row id n) = treeOf P G (.row id n) := treeOf_congr (Hp.upd_ne _ _ h)
@[simp] theorem treeOf_frz {id n n' : Nat} : treeOf P (frzOf G (.row id n')) (.row id n) = treeOf P G (.row id n) := by
  rw [treeOf_row, treeOf_row, frzOf_row]
  cases hG : G id with
  | none => simp [hG]
  | some o =>
    cases o with
    | row e cs => cases cs <;> simp [hG]
    | _ => simp [hG]
@[simp] theorem treeOf_frzne {j id n n' : Nat} (h : ¬ id = j) : treeOf P (frzOf G (.row j n')) (.row id n) = treeOf P G (.row id n) := treeOf_congr (frzOf_ne h)
theorem treeOf_of [Wid c w] {id n : Nat} {e : TypeId} (hG : G id = some (.row e (flat c l))) (he : P.cellsOf e = w) (hn : n = l.length) : treeOf P G (.row id n) = some (rowT c l) := by
  subst hn; exact treeOf_own (.inl hG) he
theorem treeOf_of' [Wid c w] {id n : Nat} {e : TypeId} (hG : G id = some (.frz e (flat c l))) (he : P.cellsOf e = w) (hn : n = l.length) : treeOf P G (.row id n) = some (rowT c l) := by
  subst hn; exact treeOf_own (.inr hG) he
theorem frz_same [Wid c w] {id n : Nat} {e : TypeId} (hG : G id = some (.row e (flat c l))) : frzOf G (.row id n) id = some (.frz e (flat c l)) ∨ (frzOf G (.row id n) id = some (.row e (flat c l)) ∧ l = []) := by
  rw [frzOf_row, hG]
  cases hf : flat c l with
  | nil =>
    refine .inr ⟨by simp [hG, hf], ?_⟩
    have h1 := flat_len (c := c) (w := w) (l := l)
    rw [hf] at h1
    have h2 := Wid.pos (c := c)
    cases l with
    | nil => rfl
    | cons a r => simp only [List.length_nil, List.length_cons, Nat.add_mul] at h1; omega
  | cons a r => exact .inl (by simp)
end
end Go.Proofs.YtomidniaekeafaaAbs
