/- Rows of the call's own: elements read, written, appended. -/
import Derived.Test.YtomidniaekeafaaD4
namespace Go.Proofs.YtomidniaekeafaaAbs
open Go Go.RowKit

def getO (cs : List AV) (w i f k : Nat) : Option (List AV) := getC cs (i * w + f) k
def putO (cs : List AV) (w i f : Nat) (ts : List AV) : List AV := splice cs (i * w + f) ts
def fitO (cs : List AV) (w i f k : Nat) : Bool := decide (i * w + f + k ≤ cs.length)
section
variable {P : Program} {s : Sl} {G : Hp} {nx : Nat} {α : Type} {c : α → List AV} {w : Nat} {l : List α}
@[simp] theorem getO_flat [Inhabited α] [Wid c w] {i f k : Nat} (h : i < l.length) (hk : f + k ≤ w) : getO (flat c l) w i f k = getC (c (nth l i)) f k := getC_flat h hk
@[simp] theorem fitO_flat [Wid c w] {i f k : Nat} (h : i < l.length) (hk : f + k ≤ w) : fitO (flat c l) w i f k = true := by
  have hlt : i * w + w ≤ l.length * w := by rw [← Nat.succ_mul]; exact Nat.mul_le_mul_right _ h
  simp only [fitO, flat_len (c := c) (w := w), decide_eq_true_eq]; omega
theorem putO_flat [Wid c w] {i : Nat} (h : i < l.length) (a : α) : putO (flat c l) w i 0 (c a) = flat c (l.set i a) := by
  unfold putO splice flat
  have hw : (c a).length = w := Wid.len a
  rw [hw, Nat.add_zero]
  induction l generalizing i with
  | nil => simp at h
  | cons b l ih =>
    have hb : (c b).length = w := Wid.len b
    cases i with
    | zero => simp [hb]
    | succ i =>
      have ih := ih (i := i) (by simpa using h)
      rw [List.flatMap_cons, List.set_cons_succ, List.flatMap_cons, ← ih]
      have e1 : (i + 1) * w = w + i * w := by rw [Nat.add_mul]; omega
      rw [e1, List.take_append, List.drop_append, hb]
      rw [List.take_of_length_le (by omega), List.drop_eq_nil_of_le (by omega)]
      have e2 : w + i * w - w = i * w := by omega
      have e3 : w + i * w + w - w = i * w + w := by omega
      rw [e2, e3]; simp
theorem putO_same [Inhabited α] [Wid c w] {i : Nat} (h : i < l.length) : putO (flat c l) w i 0 (c (nth l i)) = flat c l := by
  rw [putO_flat h]
  congr 1
  rw [nth_eq h]; simp
@[simp] theorem evIndexAddr_row (t : TypeId) (k : IntKind) {id m : Nat} {n : Int} (h0 : 0 ≤ n) (h1 : n < m) : evIndexAddr P G t (.row id m) (.v (.int k n)) = match elI P t, G id with
    | some (_, w, _, _), some o => if o.alive = true then some (eaO id m w n.toNat 0) else none
    | _, _ => none := by
  unfold evIndexAddr
  cases elI P t with
  | none => rfl
  | some q =>
    obtain ⟨e, w, b, z⟩ := q
    cases hG : G id with
    | none => simp [hG]
    | some o => cases h : o.alive <;> simp [hG, h, h0, h1, eaO]
@[simp] theorem evLoad_eaO (t : TypeId) (id n w i f : Nat) : evLoad P G t (eaO id n w i f) = match tyI P t, G id with
    | some (b, k), some (.row _ cs) => (getO cs w i f k).map (AV.mk b)
    | some (b, k), some (.frz _ cs) => (getO cs w i f k).map (AV.mk b)
    | _, _ => none := evLoad_row ..
@[simp] theorem evStore_eaO (t : TypeId) (id n w i f : Nat) (v : AV) : evStore P G t (eaO id n w i f) v = match tyI P t with
    | none => none
    | some (_, k) => if v.cells.length = k ∧ v.cells.all AV.one = true then
        match treesOf P G v.cells with
        | some (ts, G') => match G' id with
          | some (.row e cs) => if fitO cs w i f k = true then some (G'.upd id (.row e (putO cs w i f ts))) else none
          | _ => none
        | none => none
      else none := by
  unfold evStore eaO fitO putO
  cases tyI P t with
  | none => rfl
  | some q =>
    simp only [decide_eq_true_eq]
    rfl
@[simp] theorem adr_eaO [Wid c w] {id n i f : Nat} {e : TypeId} (hG : G id = some (.row e (flat c l))) (h : i < l.length) (hf : f < w) : adr G (eaO id n w i f) = true := by
  have hlt : i * w + w ≤ l.length * w := by rw [← Nat.succ_mul]; exact Nat.mul_le_mul_right _ h
  unfold adr eaO
  simp only [rdAt, hG]
  have hl : ((flat c l).drop (i * w + f)).length ≠ 0 := by rw [List.length_drop, flat_len (w := w)]; omega
  cases hd : (flat c l).drop (i * w + f) with
  | nil => rw [hd] at hl; simp at hl
  | cons a r => rfl
@[simp] theorem srcOf_rowT : srcOf P G (rowT c l) = some (l.length, flat c l) := rfl
@[simp] theorem srcOf_nil : srcOf P G (.v (.slice none 0 0)) = some (0, []) := rfl
theorem srcOf_row (id n : Nat) : srcOf P G (.row id n) = match treeOf P G (.row id n) with
    | some (.sl m ms) => some (m, ms)
    | _ => none := rfl
@[simp] theorem flat_nil : flat c ([] : List α) = [] := rfl
theorem flat_snoc (a : α) : flat c l ++ c a = flat c (l ++ [a]) := by simp [flat]
theorem flat_app (l' : List α) : flat c l ++ flat c l' = flat c (l ++ l') := by simp [flat]
@[simp] theorem flat_take [Wid c w] {n : Nat} (hn : n = l.length) : (flat c l).take (n * w) = flat c l := by
  subst hn; rw [List.take_of_length_le (by rw [flat_len (w := w)]; omega)]
theorem rowT_eq : rowT c l = .sl l.length (flat c l) := rfl
@[simp] theorem flat_len' [Wid c w] : (flat c l).length = l.length * w := flat_len
theorem flat_one (a : α) : c a = flat c [a] := by simp [flat]
@[simp] theorem nilCmp_rowT [Wid c w] (op : BinOp) (t : TypeId) : nilCmp P op t (rowT c l) (.v (.slice none 0 0)) = match elI P t, op with
    | some _, .eql => some (if l = [] then .bl else .v (.bool false))
    | some _, .neq => some (if l = [] then .bl else .v (.bool true))
    | _, _ => none := by
  have : ((flat c l).isEmpty = true) ↔ l = [] := by
    rw [List.isEmpty_iff]
    constructor
    · intro h
      have h1 := flat_len (c := c) (w := w) (l := l)
      rw [h] at h1
      have h2 := Wid.pos (c := c)
      cases l with
      | nil => rfl
      | cons a r => simp only [List.length_nil, List.length_cons, Nat.add_mul] at h1; omega
    · rintro rfl; rfl
  unfold nilCmp rowT
  simp only [this]
  cases elI P t <;> cases op <;> rfl
/-- A row of the call's own as a tree. -/
theorem treeOf_own [Wid c w] {id : Nat} {e : TypeId} (hG : G id = some (.row e (flat c l)) ∨ G id = some (.frz e (flat c l))) (he : P.cellsOf e = w) : treeOf P G (.row id l.length) = some (rowT c l) := by
  rw [treeOf_row]
  rcases hG with hG | hG <;> rw [hG] <;> simp only [he, flat_len (c := c) (w := w), Nat.le_refl, if_true] <;> rw [List.take_of_length_le (by rw [flat_len (w := w)]; omega)] <;> rfl
@[simp] theorem flat_take1 [Wid c 1] : (flat c l).take l.length = flat c l := List.take_of_length_le (by rw [flat_len (w := 1)]; omega)
@[simp] theorem sl_flat : AV.sl l.length (flat c l) = rowT c l := rfl
@[simp] theorem treeOf_upd [Wid c w] {id n : Nat} {e : TypeId} (he : P.cellsOf e = w) (hn : n = l.length) : treeOf P (G.upd id (.row e (flat c l))) (.row id n) = some (rowT c l) := by
  subst hn; exact treeOf_own (.inl (Hp.upd_self _ _ _)) he
@[simp] theorem frzOf_ne {j id n : Nat} (h : ¬ j = id) : frzOf G (.row id n) j = G j := by
  rw [frzOf_row]
  split
  · exact Hp.upd_ne _ _ h
  · rfl
theorem fresh_frz {a : AV} (h : FreshFrom G nx) : FreshFrom (frzOf G a) nx := fun i hi => frzOf_none (h i hi)
end
attribute [simp] evAppend baseOf killId
end Go.Proofs.YtomidniaekeafaaAbs
