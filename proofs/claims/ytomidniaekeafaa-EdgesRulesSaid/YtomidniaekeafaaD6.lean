/- A contract for a weaker view of its arguments. -/
import Derived.Test.YtomidniaekeafaaD5
namespace Go.Proofs.YtomidniaekeafaaAbs
open Go Go.RowKit

/-- What is seen as the first may be seen as the second. -/
def Wk (P : Program) (a b : AV) : Prop := ∀ (F : Nat → Prop) (w : World) (u : Value), VR P (En.zero F) w a u → VR P (En.zero F) w b u
inductive WkL (P : Program) : List AV → List AV → Prop
  | nil : WkL P [] []
  | cons {a b : AV} {as bs : List AV} (h : Wk P a b) (hs : WkL P as bs) : WkL P (a :: as) (b :: bs)
section
variable {P : Program}
theorem Wk.refl (a : AV) : Wk P a a := fun _ _ _ h => h
theorem WkL.refl : ∀ (l : List AV), WkL P l l
  | [] => .nil
  | a :: l => .cons (.refl a) (WkL.refl l)
theorem Wk.nil : Wk P (.v (.slice none 0 0)) (.sl 0 []) := fun F w u h => by
  obtain ⟨rfl, _⟩ := h.v_inv
  exact .tree (.nil none (Nat.le_refl 0))
theorem Wk.nilRow {α : Type} {c : α → List AV} : Wk P (.v (.slice none 0 0)) (rowT c []) := Wk.nil
theorem WkL.all2 {F : Nat → Prop} {w : World} {as bs : List AV} (h : WkL P as bs) : ∀ {us : List Value}, All2 (VR P (En.zero F) w) as us → All2 (VR P (En.zero F) w) bs us := by
  induction h with
  | nil => exact fun h => h
  | cons h hs ih =>
    intro us hx
    obtain ⟨u, us, rfl, h1, h2⟩ := hx.uncons
    exact .cons (h _ _ _ h1) (ih h2)
theorem Wk.agg {cs ds : List AV} (h : WkL P cs ds) : Wk P (.agg cs) (.agg ds) := fun F w u hx => by
  obtain ⟨us, rfl, hl, hv, hone⟩ := hx.agg_inv
  have := h.all2 (⟨hl, hv⟩ : All2 _ cs us)
  exact .agg this.1 this.2 hone
theorem CallsOK.weak {f : FuncId} {as bs : List AV} {r : AV} {J : Js} (h : CallsOK P f bs r J) (hw : WkL P as bs) : CallsOK P f as r J :=
  ⟨h.1, h.2.1, fun w us F hF hx => h.2.2 w us F hF (hw.all2 hx)⟩
/-- The same of trees. -/
def WkT (a b : AV) : Prop := ∀ (M : Nat → Prop) (w : World) (u : Value), TR M w a u → TR M w b u
inductive WkTL : List AV → List AV → Prop
  | nil : WkTL [] []
  | cons {a b : AV} {as bs : List AV} (h : WkT a b) (hs : WkTL as bs) : WkTL (a :: as) (b :: bs)
theorem WkT.refl (a : AV) : WkT a a := fun _ _ _ h => h
theorem WkTL.refl : ∀ (l : List AV), WkTL l l
  | [] => .nil
  | a :: l => .cons (.refl a) (WkTL.refl l)
theorem WkT.nil : WkT (.v (.slice none 0 0)) (.sl 0 []) := fun M w u h => by
  cases h with
  | v h => exact .nil none (Nat.le_refl 0)
theorem WkTL.at {as bs : List AV} (h : WkTL as bs) : as.length = bs.length ∧ ∀ (i : Nat) a b, as[i]? = some a → bs[i]? = some b → WkT a b := by
  induction h with
  | nil => exact ⟨rfl, fun i a b h => by simp at h⟩
  | cons h hs ih =>
    refine ⟨by simp [ih.1], fun i a b ha hb => ?_⟩
    cases i with
    | zero => simp at ha hb; subst ha; subst hb; exact h
    | succ i => simp at ha hb; exact ih.2 i a b ha hb
theorem WkT.sl {n : Nat} {cs ds : List AV} (h : WkTL cs ds) : WkT (.sl n cs) (.sl n ds) := fun M w u hx => by
  obtain ⟨hl, hat⟩ := h.at
  cases hx with
  | nil A hn =>
    cases ds with
    | nil => exact .nil A hn
    | cons _ _ => simp at hl
  | sl hn h0 hb hlen hc hr =>
    refine .sl hn (by omega) hb (by omega) hc fun i b u hbi hu => ?_
    have hi : i < cs.length := by rw [hl]; exact (List.getElem?_eq_some_iff.1 hbi).1
    exact hat i _ b (List.getElem?_eq_getElem hi) hbi _ _ _ (hr i _ u (List.getElem?_eq_getElem hi) hu)
theorem WkT.wk {a b : AV} (h : WkT a b) (ha : match a with | .v _ | .sl _ _ => True | _ => False) : Wk P a b := fun F w u hx => by
  cases a <;> try exact ha.elim
  · obtain ⟨rfl, h1⟩ := hx.v_inv; exact .tree (h _ _ _ (.v h1))
  · exact .tree (h _ _ _ hx.sl_inv)
theorem ofJ1 {e : TypeId} {cs : List AV} {i : Nat} {o : AObj} : ofJ [(e, cs)] i = some o ↔ i = 0 ∧ o = .row e cs := by
  cases i with
  | zero => simp [ofJ, eq_comm]
  | succ i => simp [ofJ]
theorem CallsOK.weakJ {f : FuncId} {as : List AV} {r : AV} {e : TypeId} {cs ds : List AV} (h : CallsOK P f as r [(e, cs)]) (hw : WkTL cs ds) : CallsOK P f as r [(e, ds)] := by
  obtain ⟨hl, hat⟩ := hw.at
  refine ⟨h.1, h.2.1, fun w us F hF hx => (h.2.2 w us F hF hx).mono fun en w' hh => ?_⟩
  obtain ⟨u, E', rfl, hv, hR, hEF, hb, hge⟩ := hh
  refine ⟨u, E', rfl, hv, ⟨hR.inj, fun i b hi => ?_, hR.lt, fun i o hi ha => ?_, fun i => ?_, fun b => ?_, hR.nF, hR.Flt⟩, hEF, hb, hge⟩
  · obtain ⟨o, h1, h2⟩ := hR.dom i b hi
    obtain ⟨rfl, rfl⟩ := ofJ1.1 h1
    exact ⟨_, ofJ1.2 ⟨rfl, rfl⟩, rfl⟩
  · obtain ⟨rfl, rfl⟩ := ofJ1.1 hi
    rcases hR.obj 0 _ (ofJ1.2 ⟨rfl, rfl⟩) rfl with ⟨b, hb, us', q1, q2, q3⟩ | ⟨hN, e', he⟩
    · refine .inl ⟨b, hb, us', q1, by omega, fun i c x hc hx => ?_⟩
      have hi : i < cs.length := by rw [hl]; exact (List.getElem?_eq_some_iff.1 hc).1
      exact hat i _ c (List.getElem?_eq_getElem hi) hc _ _ _ (q3 i _ x (List.getElem?_eq_getElem hi) hx)
    · injection he with he1 he2
      subst he2
      cases ds with
      | nil => exact .inr ⟨hN, e, rfl⟩
      | cons _ _ => simp at hl
  · rw [hR.K i]
    exact ⟨fun ⟨o, h⟩ => by obtain ⟨rfl, rfl⟩ := ofJ1.1 h; exact ⟨_, ofJ1.2 ⟨rfl, rfl⟩⟩, fun ⟨o, h⟩ => by obtain ⟨rfl, rfl⟩ := ofJ1.1 h; exact ⟨_, ofJ1.2 ⟨rfl, rfl⟩⟩⟩
  · rw [hR.W b]
    exact ⟨fun ⟨i, o, h1, h2, h3⟩ => by obtain ⟨rfl, rfl⟩ := ofJ1.1 h2; exact ⟨0, _, h1, ofJ1.2 ⟨rfl, rfl⟩, rfl⟩, fun ⟨i, o, h1, h2, h3⟩ => by obtain ⟨rfl, rfl⟩ := ofJ1.1 h2; exact ⟨0, _, h1, ofJ1.2 ⟨rfl, rfl⟩, rfl⟩⟩
end
end Go.Proofs.YtomidniaekeafaaAbs
