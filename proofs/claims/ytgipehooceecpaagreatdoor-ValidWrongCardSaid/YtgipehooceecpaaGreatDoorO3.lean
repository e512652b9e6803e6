/- From the data of a statement's arguments to trees. -/
import Derived.Test.YtgipehooceecpaaGreatDoorO2
import Derived.ChangeShapes
import Derived.ChangeArms
import Derived.WideShapes
import Derived.ShutString
import Derived.Carry
import Derived.ProofKit
import Derived.OpenShut
import Derived.SizedLaws
import Derived.ChangeOld
namespace Go.Proofs.YtgipehooceecpaaGreatDoorAbs
set_option linter.unusedSectionVars false
set_option linter.unusedVariables false
set_option linter.unusedSimpArgs false
open Go Go.RowKit
def getO (cs : List AV) (w i f k : Nat) : Option (List AV) := getC cs (i * w + f) k
def putO (cs : List AV) (w i f : Nat) (ts : List AV) : List AV := splice cs (i * w + f) ts
def fitO (cs : List AV) (w i f k : Nat) : Bool := decide (i * w + f + k ≤ cs.length)
section
variable {P : Program} [Gl P] {s : Sl} {G : Hp} {nx : Nat} {α : Type} {c : α → List AV} {w : Nat} {l : List α}
@[simp] theorem getO_flat [Inhabited α] [Wid c w] {i f k : Nat} (h : i < l.length) (hk : f + k ≤ w) : getO (flat c l) w i f k = getC (c (nth l i)) f k := getC_flat h hk
@[simp] theorem fitO_flat [Wid c w] {i f k : Nat} (h : i < l.length) (hk : f + k ≤ w) : fitO (flat c l) w i f k = true := by
  have hlt : i * w + w ≤ l.length * w := by rw [← Nat.succ_mul]; exact Nat.mul_le_mul_right _ h
  simp only [fitO, flat_len (c := c) (w := w), decide_eq_true_eq]; omega
theorem putO_flat [Wid c w] {i : Nat} (h : i < l.length) (a : α) : putO (flat c l) w i 0 (c a) = flat c (l.set i a) := by
  unfold putO splice flat
  have hw : (c a).length = w := Wid.len a
  rw [hw, Nat.add_zero]
  induction l generalizing i with
  | nil => simp at h
  | cons b l ih =>
    have hb : (c b).length = w := Wid.len b
    cases i with
    | zero => simp [hb]
    | succ i =>
      have ih := ih (i := i) (by simpa using h)
      rw [List.flatMap_cons, List.set_cons_succ, List.flatMap_cons, ← ih]
      have e1 : (i + 1) * w = w + i * w := by rw [Nat.add_mul]; omega
      rw [e1, List.take_append, List.drop_append, hb]
      rw [List.take_of_length_le (by omega), List.drop_eq_nil_of_le (by omega)]
      have e2 : w + i * w - w = i * w := by omega
      have e3 : w + i * w + w - w = i * w + w := by omega
      rw [e2, e3]; simp
theorem putO_same [Inhabited α] [Wid c w] {i : Nat} (h : i < l.length) : putO (flat c l) w i 0 (c (nth l i)) = flat c l := by
  rw [putO_flat h]
  congr 1
  rw [nth_eq h]; simp
@[simp] theorem evIndexAddr_row (t : TypeId) (k : IntKind) {id m : Nat} {n : Int} (h0 : 0 ≤ n) (h1 : n < m) : evIndexAddr P G t (.row id m) (.v (.int k n)) = match elI P t, G id with
    | some (_, w, _, _), some o => if o.alive = true then some (eaO id m w n.toNat 0) else none
    | _, _ => none := by
  unfold evIndexAddr
  cases elI P t with
  | none => rfl
  | some q =>
    obtain ⟨e, w, b, z⟩ := q
    cases hG : G id with
    | none => simp [hG]
    | some o => cases h : o.alive <;> simp [hG, h, h0, h1, eaO]
@[simp] theorem evLoad_eaO (t : TypeId) (id n w i f : Nat) : evLoad P G t (eaO id n w i f) = match tyI P t, G id with
    | some (b, k), some (.row _ cs) => (getO cs w i f k).map (AV.mk b)
    | some (b, k), some (.frz _ cs) => (getO cs w i f k).map (AV.mk b)
    | some (b, k), some (.var _ cs) => (getO cs w i f k).map (AV.mk b)
    | _, _ => none := evLoad_row ..
@[simp] theorem evStore_eaO (t : TypeId) (id n w i f : Nat) (v : AV) : evStore P G t (eaO id n w i f) v = match tyI P t with
    | none => none
    | some (_, k) => if v.cells.length = k ∧ v.cells.all AV.one = true then
        match treesOf P G v.cells with
        | some (ts, G') => match G' id with
          | some (.row e cs) => if fitO cs w i f k = true then some (G'.upd id (.row e (putO cs w i f ts))) else none
          | _ => none
        | none => none
      else none := by
  unfold evStore eaO fitO putO
  cases tyI P t with
  | none => rfl
  | some q =>
    simp only [decide_eq_true_eq]
    rfl
@[simp] theorem adr_eaO [Wid c w] {id n i f : Nat} {e : TypeId} (hG : G id = some (.row e (flat c l))) (h : i < l.length) (hf : f < w) : adr G (eaO id n w i f) = true := by
  have hlt : i * w + w ≤ l.length * w := by rw [← Nat.succ_mul]; exact Nat.mul_le_mul_right _ h
  unfold adr eaO
  simp only [rdAt, hG]
  have hl : ((flat c l).drop (i * w + f)).length ≠ 0 := by rw [List.length_drop, flat_len (w := w)]; omega
  cases hd : (flat c l).drop (i * w + f) with
  | nil => rw [hd] at hl; simp at hl
  | cons a r => rfl
@[simp] theorem srcOf_rowT : srcOf P G (rowT c l) = some (l.length, flat c l) := rfl
@[simp] theorem srcOf_nil : srcOf P G (.v (.slice none 0 0)) = some (0, []) := rfl
theorem srcOf_row (id n : Nat) : srcOf P G (.row id n) = match treeOf P G (.row id n) with
    | some (.sl m ms) => some (m, ms)
    | _ => none := rfl
@[simp] theorem flat_nil : flat c ([] : List α) = [] := rfl
theorem flat_snoc (a : α) : flat c l ++ c a = flat c (l ++ [a]) := by simp [flat]
theorem flat_app (l' : List α) : flat c l ++ flat c l' = flat c (l ++ l') := by simp [flat]
@[simp] theorem flat_take [Wid c w] {n : Nat} (hn : n = l.length) : (flat c l).take (n * w) = flat c l := by
  subst hn; rw [List.take_of_length_le (by rw [flat_len (w := w)]; omega)]
@[simp] theorem flat_len' [Wid c w] : (flat c l).length = l.length * w := flat_len
theorem flat_one (a : α) : c a = flat c [a] := by simp [flat]
@[simp] theorem nilCmp_rowT [Wid c w] (op : BinOp) (t : TypeId) : nilCmp P op t (rowT c l) (.v (.slice none 0 0)) = match elI P t, op with
    | some _, .eql => some (if l = [] then .bl else .v (.bool false))
    | some _, .neq => some (if l = [] then .bl else .v (.bool true))
    | _, _ => none := by
  have : ((flat c l).isEmpty = true) ↔ l = [] := by
    rw [List.isEmpty_iff]
    constructor
    · intro h
      have h1 := flat_len (c := c) (w := w) (l := l)
      rw [h] at h1
      have h2 := Wid.pos (c := c)
      cases l with
      | nil => rfl
      | cons a r => simp only [List.length_nil, List.length_cons, Nat.add_mul] at h1; omega
    · rintro rfl; rfl
  unfold nilCmp rowT
  simp only [this]
  cases elI P t <;> cases op <;> rfl
theorem treeOf_own [Wid c w] {id : Nat} {e : TypeId} (hG : G id = some (.row e (flat c l)) ∨ G id = some (.frz e (flat c l))) (he : P.cellsOf e = w) : treeOf P G (.row id l.length) = some (rowT c l) := by
  rw [treeOf_row]
  rcases hG with hG | hG <;> rw [hG] <;> simp only [he, flat_len (c := c) (w := w), Nat.le_refl, if_true] <;> rw [List.take_of_length_le (by rw [flat_len (w := w)]; omega)] <;> rfl
@[simp] theorem flat_take1 [Wid c 1] : (flat c l).take l.length = flat c l := List.take_of_length_le (by rw [flat_len (w := 1)]; omega)
@[simp] theorem sl_flat : AV.sl l.length (flat c l) = rowT c l := rfl
@[simp] theorem treeOf_upd [Wid c w] {id n : Nat} {e : TypeId} (he : P.cellsOf e = w) (hn : n = l.length) : treeOf P (G.upd id (.row e (flat c l))) (.row id n) = some (rowT c l) := by
  subst hn; exact treeOf_own (.inl (Hp.upd_self _ _ _)) he
@[simp] theorem frzOf_ne {j id n : Nat} (h : ¬ j = id) : frzOf G (.row id n) j = G j := by
  rw [frzOf_row]
  split
  · exact Hp.upd_ne _ _ h
  · rfl
end
attribute [simp] evAppend baseOf killId
def Wk (P : Program) (a b : AV) : Prop := ∀ (F : Nat → Prop) (w : World) (u : Value), VR P (En.zero F) w a u → VR P (En.zero F) w b u
inductive WkL (P : Program) : List AV → List AV → Prop
  | nil : WkL P [] []
  | cons {a b : AV} {as bs : List AV} (h : Wk P a b) (hs : WkL P as bs) : WkL P (a :: as) (b :: bs)
section
variable {P : Program} [Gl P]
theorem Wk.refl (a : AV) : Wk P a a := fun _ _ _ h => h
theorem WkL.refl : ∀ (l : List AV), WkL P l l
  | [] => .nil
  | a :: l => .cons (.refl a) (WkL.refl l)
theorem Wk.nil : Wk P (.v (.slice none 0 0)) (.sl 0 []) := fun F w u h => by
  obtain ⟨rfl, _⟩ := h.v_inv
  exact .tree (.nil none (Nat.le_refl 0))
theorem Wk.nilRow {α : Type} {c : α → List AV} : Wk P (.v (.slice none 0 0)) (rowT c []) := Wk.nil
theorem WkL.all2 {F : Nat → Prop} {w : World} {as bs : List AV} (h : WkL P as bs) : ∀ {us : List Value}, All2 (VR P (En.zero F) w) as us → All2 (VR P (En.zero F) w) bs us := by
  induction h with
  | nil => exact fun h => h
  | cons h hs ih =>
    intro us hx
    obtain ⟨u, us, rfl, h1, h2⟩ := hx.uncons
    exact .cons (h _ _ _ h1) (ih h2)
theorem Wk.agg {cs ds : List AV} (h : WkL P cs ds) : Wk P (.agg cs) (.agg ds) := fun F w u hx => by
  obtain ⟨us, rfl, hl, hv, hone⟩ := hx.agg_inv
  have := h.all2 (⟨hl, hv⟩ : All2 _ cs us)
  exact .agg this.1 this.2 hone
theorem CallsOK.weak {f : FuncId} {as bs : List AV} {r : AV} {J : Js} (h : CallsOK P f bs r J) (hw : WkL P as bs) : CallsOK P f as r J :=
  ⟨h.1, h.2.1, fun w us F hF hΓ hx => h.2.2 w us F hF hΓ (hw.all2 hx)⟩
def WkT (a b : AV) : Prop := ∀ (M : Nat → Prop) (w : World) (u : Value), TR M w a u → TR M w b u
inductive WkTL : List AV → List AV → Prop
  | nil : WkTL [] []
  | cons {a b : AV} {as bs : List AV} (h : WkT a b) (hs : WkTL as bs) : WkTL (a :: as) (b :: bs)
theorem WkT.refl (a : AV) : WkT a a := fun _ _ _ h => h
theorem WkTL.refl : ∀ (l : List AV), WkTL l l
  | [] => .nil
  | a :: l => .cons (.refl a) (WkTL.refl l)
theorem WkT.nil : WkT (.v (.slice none 0 0)) (.sl 0 []) := fun M w u h => by
  cases h with
  | v h => exact .nil none (Nat.le_refl 0)
theorem WkTL.at {as bs : List AV} (h : WkTL as bs) : as.length = bs.length ∧ ∀ (i : Nat) a b, as[i]? = some a → bs[i]? = some b → WkT a b := by
  induction h with
  | nil => exact ⟨rfl, fun i a b h => by simp at h⟩
  | cons h hs ih =>
    refine ⟨by simp [ih.1], fun i a b ha hb => ?_⟩
    cases i with
    | zero => simp at ha hb; subst ha; subst hb; exact h
    | succ i => simp at ha hb; exact ih.2 i a b ha hb
theorem WkT.sl {n : Nat} {cs ds : List AV} (h : WkTL cs ds) : WkT (.sl n cs) (.sl n ds) := fun M w u hx => by
  obtain ⟨hl, hat⟩ := h.at
  cases hx with
  | nil A hn =>
    cases ds with
    | nil => exact .nil A hn
    | cons _ _ => simp at hl
  | sl hn h0 hb hlen hc hr =>
    refine .sl hn (by omega) hb (by omega) hc fun i b u hbi hu => ?_
    have hi : i < cs.length := by rw [hl]; exact (List.getElem?_eq_some_iff.1 hbi).1
    exact hat i _ b (List.getElem?_eq_getElem hi) hbi _ _ _ (hr i _ u (List.getElem?_eq_getElem hi) hu)
theorem ofJ1 {e : TypeId} {cs : List AV} {i : Nat} {o : AObj} : ofJ [(e, cs)] i = some o ↔ i = 0 ∧ o = .row e cs := by
  cases i with
  | zero => simp [ofJ, eq_comm]
  | succ i => simp [ofJ]
theorem CallsOK.weakJ {f : FuncId} {as : List AV} {r : AV} {e : TypeId} {cs ds : List AV} (h : CallsOK P f as r [(e, cs)]) (hw : WkTL cs ds) : CallsOK P f as r [(e, ds)] := by
  obtain ⟨hl, hat⟩ := hw.at
  refine ⟨h.1, h.2.1, fun w us F hF hΓ hx => (h.2.2 w us F hF hΓ hx).mono fun en w' hh => ?_⟩
  obtain ⟨u, E', rfl, hv, hR, hEF, hb, hge⟩ := hh
  refine ⟨u, E', rfl, hv, ⟨hR.inj, fun i b hi => ?_, hR.lt, fun i o hi ha => ?_, fun i => ?_, fun b => ?_, hR.nF, hR.Flt, hR.good⟩, hEF, hb, hge⟩
  · obtain ⟨o, h1, h2⟩ := hR.dom i b hi
    obtain ⟨rfl, rfl⟩ := ofJ1.1 h1
    exact ⟨_, ofJ1.2 ⟨rfl, rfl⟩, rfl⟩
  · obtain ⟨rfl, rfl⟩ := ofJ1.1 hi
    rcases hR.obj 0 _ (ofJ1.2 ⟨rfl, rfl⟩) rfl with ⟨b, hb, us', q1, q2, q3⟩ | ⟨hN, e', he⟩
    · refine .inl ⟨b, hb, us', q1, by omega, fun i c x hc hx => ?_⟩
      have hi : i < cs.length := by rw [hl]; exact (List.getElem?_eq_some_iff.1 hc).1
      exact hat i _ c (List.getElem?_eq_getElem hi) hc _ _ _ (q3 i _ x (List.getElem?_eq_getElem hi) hx)
    · injection he with he1 he2
      subst he2
      cases ds with
      | nil => exact .inr ⟨hN, e, rfl⟩
      | cons _ _ => simp at hl
  · rw [hR.K i]
    exact ⟨fun ⟨o, h⟩ => by obtain ⟨rfl, rfl⟩ := ofJ1.1 h; exact ⟨_, ofJ1.2 ⟨rfl, rfl⟩⟩, fun ⟨o, h⟩ => by obtain ⟨rfl, rfl⟩ := ofJ1.1 h; exact ⟨_, ofJ1.2 ⟨rfl, rfl⟩⟩⟩
  · rw [hR.W b]
    exact ⟨fun ⟨i, o, h1, h2, h3⟩ => by obtain ⟨rfl, rfl⟩ := ofJ1.1 h2; exact ⟨0, _, h1, ofJ1.2 ⟨rfl, rfl⟩, rfl⟩, fun ⟨i, o, h1, h2, h3⟩ => by obtain ⟨rfl, rfl⟩ := ofJ1.1 h2; exact ⟨0, _, h1, ofJ1.2 ⟨rfl, rfl⟩, rfl⟩⟩
end
section
variable {P : Program} [Gl P] {s : Sl} {G : Hp} {nx : Nat} {α : Type} {c : α → List AV} {w : Nat} {l : List α}
theorem treeOf_congr {G G' : Hp} {id n : Nat} (h : G' id = G id) : treeOf P G' (.row id n) = treeOf P G (.row id n) := by
  rw [treeOf_row, treeOf_row, h]
@[simp] theorem treeOf_updne {j id n : Nat} {o : AObj} (h : ¬ id = j) : treeOf P (G.upd j o) (.row id n) = treeOf P G (.row id n) := treeOf_congr (Hp.upd_ne _ _ h)
@[simp] theorem treeOf_frz {id n n' : Nat} : treeOf P (frzOf G (.row id n')) (.row id n) = treeOf P G (.row id n) := by
  rw [treeOf_row, treeOf_row, frzOf_row]
  cases hG : G id with
  | none => simp [hG]
  | some o =>
    cases o with
    | row e cs => cases cs <;> simp [hG]
    | _ => simp [hG]
@[simp] theorem treeOf_frzne {j id n n' : Nat} (h : ¬ id = j) : treeOf P (frzOf G (.row j n')) (.row id n) = treeOf P G (.row id n) := treeOf_congr (frzOf_ne h)
@[simp] theorem getC_zz (cs : List AV) : getC cs 0 0 = some [] := by simp [getC]
@[simp] theorem getC_cons0 (a : AV) (cs : List AV) (k : Nat) : getC (a :: cs) 0 (k + 1) = (getC cs 0 k).map (a :: ·) := by
  simp only [getC, List.length_cons, Nat.zero_add, List.drop_zero, List.take_succ_cons]
  by_cases h : k ≤ cs.length
  · rw [if_pos (by omega), if_pos h]; rfl
  · rw [if_neg (by omega), if_neg h]; rfl
@[simp] theorem getC_cons (a : AV) (cs : List AV) (n k : Nat) : getC (a :: cs) (n + 1) k = getC cs n k := by
  simp only [getC, List.length_cons, List.drop_succ_cons]
  by_cases h : n + k ≤ cs.length
  · rw [if_pos (by omega), if_pos h]
  · rw [if_neg (by omega), if_neg h]
def ltO (cs : List AV) (w i f : Nat) : Bool := decide (i * w + f < cs.length)
@[simp] theorem ltO_flat [Wid c w] {i f : Nat} (h : i < l.length) (hf : f < w) : ltO (flat c l) w i f = true := by
  have hlt : i * w + w ≤ l.length * w := by rw [← Nat.succ_mul]; exact Nat.mul_le_mul_right _ h
  simp only [ltO, flat_len (c := c) (w := w), decide_eq_true_eq]; omega
theorem drop_isSome (cs : List AV) (k : Nat) : (match cs.drop k with | _ :: _ => true | _ => false) = decide (k < cs.length) := by
  by_cases h : k < cs.length
  · have : (cs.drop k).length ≠ 0 := by rw [List.length_drop]; omega
    cases hd : cs.drop k with
    | nil => rw [hd] at this; simp at this
    | cons a r => simp [h]
  · rw [List.drop_eq_nil_of_le (by omega)]; simp [h]
@[simp] theorem adr_row (id n i f : Nat) : adr G (eaO id n w i f) = match G id with
    | some (.row _ cs) => ltO cs w i f
    | some (.frz _ cs) => ltO cs w i f
    | some (.var _ cs) => ltO cs w i f
    | _ => false := by
  unfold adr eaO ltO
  simp only [rdAt]
  cases G id with
  | none => rfl
  | some o =>
    cases o <;> try rfl
    all_goals
      rename_i cs
      simp only
      rw [← drop_isSome]
      cases cs.drop (i * w + f) <;> rfl
attribute [-simp] adr_eaO
theorem treeOf_of [Wid c w] {id n : Nat} {e : TypeId} (hG : G id = some (.row e (flat c l))) (he : P.cellsOf e = w) (hn : n = l.length) : treeOf P G (.row id n) = some (rowT c l) := by
  subst hn; exact treeOf_own (.inl hG) he
theorem treeOf_of' [Wid c w] {id n : Nat} {e : TypeId} (hG : G id = some (.frz e (flat c l))) (he : P.cellsOf e = w) (hn : n = l.length) : treeOf P G (.row id n) = some (rowT c l) := by
  subst hn; exact treeOf_own (.inr hG) he
end
def M0 : Nat → Prop := fun _ => False
structure Opens (P : Program) {α : Type} (Q : α → Prop) (c : α → List AV) (t : TypeId) : Prop where
  op : ∀ (H : Type) (enc : TypeId × Value → H) (w : World) (base : Nat) (spare : Nat → Bool) (held : Bool) (fuel : Nat) (cs : List Value) (x : DataW H × List MemPlace),
    DataW.trod enc P w base spare held fuel t cs = some x → ∃ a : α, Q a ∧ All2 (TR M0 w) (c a) cs
structure OpensF (P : Program) {α : Type} (Q : α → Prop) (n off : Nat) (c : α → List AV) (fs : List (TypeId × Nat)) : Prop where
  op : ∀ (H : Type) (enc : TypeId × Value → H) (w : World) (base : Nat) (spare : Nat → Bool) (held : Bool) (fuel : Nat) (cs : List Value), cs.length = n →
    (∀ p ∈ fs, ∃ x, DataW.trod enc P w base spare held fuel p.1 ((cs.drop p.2).take (P.cellsOf p.1)) = some x) → ∃ a : α, Q a ∧ All2 (TR M0 w) (c a) (cs.drop off)
def fldsOf (P : Program) (t : TypeId) : Option (List (TypeId × Nat)) := match P.underlying t with
  | some (.struct fs) => some (fs.toList.map fun f => (f.type, f.offset))
  | _ => none
section
variable {P : Program} [Gl P] {α β : Type} {Q : α → Prop} {Q' : β → Prop}
theorem All2.one {α β : Type} {R : α → β → Prop} {x : α} {y : β} (h : R x y) : All2 R [x] [y] := .cons h .nil
theorem Opens.map {c : α → List AV} {c' : β → List AV} {t : TypeId} (h : Opens P Q c t) (f : α → β) (hQ : ∀ a, Q a → Q' (f a)) (hf : ∀ a, c' (f a) = c a) : Opens P Q' c' t := by
  constructor
  intro H enc w base spare held fuel cs x hx
  obtain ⟨a, hq, ha⟩ := h.op _ enc w base spare held fuel cs x hx
  exact ⟨f a, hQ a hq, by rw [hf]; exact ha⟩
theorem opens_int {t : TypeId} {k : IntKind} (ht : P.underlying t = some (.int k)) : Opens P (fun n => (Lit.int k n).wf = true) (fun n : Int => [.v (.int k n)]) t := by
  constructor
  intro H enc w base spare held fuel cs x hx
  obtain ⟨b, rfl, _, hw⟩ := DataW.trod_int ht hx
  exact ⟨b, hw, .one (.v rfl)⟩
theorem opens_string {t : TypeId} (ht : P.underlying t = some .string) : Opens P (fun s => s.size ≤ maxLen) (fun s : ByteArray => [.v (.string s)]) t := by
  constructor
  intro H enc w base spare held fuel cs x hx
  obtain ⟨b, rfl, _, hw⟩ := DataW.trod_string ht hx
  exact ⟨b, hw, .one (.v rfl)⟩
theorem opens_slice {c : α → List AV} {k : Nat} [Wid c k] {t e : TypeId} (h : Opens P Q c e) (ht : P.underlying t = some (.slice e)) (hk : P.cellsOf e = k) : Opens P (fun l => l.length ≤ maxLen ∧ ∀ a ∈ l, Q a) (fun l : List α => [rowT c l]) t := by
  constructor
  intro H enc w base spare held fuel cs x hx
  rcases DataW.trod_slice ht hx with ⟨rfl, _⟩ | ⟨a, len, cap, elems, rest, n, rfl, rfl, _, hb, hl, hc, hel, hat, _⟩
  · exact ⟨[], ⟨by simp, by simp⟩, .one (.nil none (Nat.le_refl 0))⟩
  have key : ∀ m, m ≤ len → ∃ (l : List α) (us : List Value), l.length = m ∧ (∀ a ∈ l, Q a) ∧ (∀ j u, us[j]? = some u → w.cell? (a.add j) = some u) ∧ All2 (TR M0 w) (flat c l) us := by
    intro m
    induction m with
    | zero => exact fun _ => ⟨[], [], rfl, by simp, by simp, .nil⟩
    | succ m ih =>
      intro hm
      obtain ⟨l, us, h1, h2, h3, h4⟩ := ih (by omega)
      have := hat m (by omega)
      rw [List.getElem?_eq_getElem (by omega)] at this
      obtain ⟨vs, hv1, hv2⟩ := Option.bind_eq_some_iff.1 this
      obtain ⟨b, hq, hb2⟩ := h.op _ enc w base spare held n vs _ hv2
      obtain ⟨_, hvl, hvc⟩ := World.cells?_some hv1
      have hul : us.length = m * k := by have := h4.1; rw [this, flat_len (w := k), h1]
      refine ⟨l ++ [b], us ++ vs, by simp [h1], fun x hx => ?_, fun j u hj => ?_, ?_⟩
      · rcases List.mem_append.1 hx with hx | hx
        · exact h2 x hx
        · simp at hx; subst hx; exact hq
      · rw [List.getElem?_append] at hj
        split at hj
        · exact h3 j u hj
        · rename_i hlt
          have hj2 : j - us.length < vs.length := (List.getElem?_eq_some_iff.1 hj).1
          have := hvc (j - us.length) (by omega)
          rw [add_add, hk, ← hul, show us.length + (j - us.length) = j by omega] at this
          rw [this]; exact hj
      · rw [← flat_app]
        have e : flat c [b] = c b := (flat_one b).symm
        rw [e]
        exact h4.app hb2
  obtain ⟨l, us, h1, h2, h3, h4⟩ := key len (Nat.le_refl _)
  refine ⟨l, ⟨by omega, h2⟩, .one ?_⟩
  subst h1
  show TR M0 w (.sl l.length (flat c l)) _
  by_cases h0 : l = []
  · subst h0; exact .nil _ (Nat.zero_le _)
  · have hpos : 0 < (flat c l).length := by
      rw [flat_len (w := k)]
      exact Nat.mul_pos (List.length_pos_iff.2 h0) (Wid.pos (c := c))
    exact .sl hl hpos (fun h => h) h4.1 h3 h4.2
theorem opensF_nil {n : Nat} : OpensF P (fun _ => True) n n (fun _ : Unit => []) [] := by
  constructor
  intro H enc w base spare held fuel cs hn _
  refine ⟨(), trivial, ?_⟩
  rw [List.drop_eq_nil_of_le (by omega)]; exact .nil
theorem opensF_cons (k : Nat) {c : α → List AV} {c' : β → List AV} {t : TypeId} {n off : Nat} {fs : List (TypeId × Nat)} (h : Opens P Q c t) (hs : OpensF P Q' n (off + k) c' fs) (hk : P.cellsOf t = k) :
    OpensF P (fun x : α × β => Q x.1 ∧ Q' x.2) n off (fun x : α × β => c x.1 ++ c' x.2) ((t, off) :: fs) := by
  constructor
  intro H enc w base spare held fuel cs hn hall
  obtain ⟨x, hx⟩ := hall (t, off) (by simp)
  obtain ⟨a, hq, ha⟩ := h.op _ enc w base spare held fuel _ x hx
  obtain ⟨b, hq', hb⟩ := hs.op _ enc w base spare held fuel cs hn fun p hp => hall p (by simp [hp])
  refine ⟨(a, b), ⟨hq, hq'⟩, ?_⟩
  have e : cs.drop off = (cs.drop off).take k ++ cs.drop (off + k) := by
    rw [← List.drop_drop]; exact (List.take_append_drop k _).symm
  rw [e]
  simp only at ha
  rw [hk] at ha
  exact ha.app hb
theorem opens_struct {c : α → List AV} {t : TypeId} {n : Nat} {fs : List (TypeId × Nat)} (h : OpensF P Q n 0 c fs) (ht : fldsOf P t = some fs) (hn : P.cellsOf t = n) : Opens P Q c t := by
  constructor
  intro H enc w base spare held fuel cs x hx
  unfold fldsOf at ht
  split at ht
  · rename_i fa hfa
    injection ht with ht
    obtain ⟨xs, m, rfl, _, hl, hxl, hat⟩ := DataW.trod_struct hfa hx
    obtain ⟨a, hq, ha⟩ := h.op _ enc w base spare held m cs (by rw [hl, hn]) fun p hp => by
      rw [← ht] at hp
      obtain ⟨f, hf, rfl⟩ := List.mem_map.1 hp
      obtain ⟨i, hi, he⟩ := List.mem_iff_getElem.1 hf
      have hi' : i < fa.size := by simpa using hi
      have := hat i f (by rw [← he]; simp [hi'])
      rw [List.getElem?_eq_getElem (by omega)] at this
      exact ⟨_, this⟩
    exact ⟨a, hq, by simpa using ha⟩
  · cases ht
theorem vr_one {w : World} {a : AV} {u : Value} (h : TR M0 w a u) : VR P (En.zero M0) w a u := VR.zero h
theorem open_arg {H : Type} {enc : TypeId × Value → H} {w : World} {base b0 : Nat} {spare : Nat → Bool} {held : Bool} {r : Reach} {c : α → List AV} {t : TypeId} {v : Value} {d : DataW H} {ps : List MemPlace} (h : Opens P Q c t)
    (hd : DataW.Trod enc P w base spare held t v d ps) (ht : (fldsOf P t).isSome = true) (hv : Value.okWide P w r b0 t v) : ∃ a, Q a ∧ VR P (En.zero M0) w (.agg (c a)) v := by
  unfold fldsOf at ht
  split at ht
  · rename_i fa hfa
    obtain ⟨cs, rfl, _⟩ := WideShapes.okWide_struct hfa hv
    obtain ⟨fuel, hf⟩ := hd
    obtain ⟨a, hq, ha⟩ := h.op _ enc w base spare held fuel _ _ hf
    refine ⟨a, hq, ?_⟩
    have := agg_zero (P := P) ha
    simpa [Value.cells] using this
  · cases ht
theorem open_one {H : Type} {enc : TypeId × Value → H} {w : World} {base : Nat} {spare : Nat → Bool} {held : Bool} {c : α → AV} {t : TypeId} {v : Value} {d : DataW H} {ps : List MemPlace} (h : Opens P Q (fun a => [c a]) t)
    (hd : DataW.Trod enc P w base spare held t v d ps) (hv : v.cells = #[v]) : ∃ a, Q a ∧ VR P (En.zero M0) w (c a) v := by
  obtain ⟨fuel, hf⟩ := hd
  obtain ⟨a, hq, ha⟩ := h.op _ enc w base spare held fuel _ _ hf
  rw [hv] at ha
  exact ⟨a, hq, vr_one (ha.2 0 _ _ rfl rfl)⟩
theorem row_calls {f : FuncId} {as : List AV} {us : List Value} {w : World} {b : Bool} (h : CallsOK P f as (.v (.bool b)) []) (hΓ : ∀ w', ExtC (fun _ => False) w w' → Gl.ok P w') (ha : All2 (VR P (En.zero M0) w) as us) :
    Calls P f us.toArray w fun e w' => e = .returned (.bool b) ∧ Below w.heap.size w w' := by
  refine (h.2.2 w us M0 (fun _ h => h.elim) hΓ ha).mono ?_
  rintro e w' ⟨u, E', rfl, hv, _, _, hb, _⟩
  obtain ⟨rfl, _⟩ := hv.v_inv
  exact ⟨rfl, hb⟩
end
end Go.Proofs.YtgipehooceecpaaGreatDoorAbs
