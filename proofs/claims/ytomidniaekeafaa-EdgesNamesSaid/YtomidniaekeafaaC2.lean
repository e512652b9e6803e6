/- One operation of a region, and a whole list of them. -/
import Derived.Test.YtomidniaekeafaaC1
namespace Go.Proofs.YtomidniaekeafaaAbs
open Go Go.RowKit

/-- A call's arguments, as its contract has them. -/
def argsOf (P : Program) : Hp → List AV → Option (List AV × Hp)
  | G, [] => some ([], G)
  | G, a :: r => match a with
    | .agg cs => match treesOf P G cs with
      | some (ts, G1) => match argsOf P G1 r with
        | some (rs, G2) => some (.agg ts :: rs, G2)
        | none => none
      | none => none
    | a => match treeOf P G a, argsOf P (frzOf G a) r with
      | some t, some (rs, G2) => some (t :: rs, G2)
      | _, _ => none
section
variable {P : Program} {E : En} {w : World} {G : Hp} {nx : Nat}
theorem VR.zero {F : Nat → Prop} {a : AV} {u : Value} (h : TR F w a u) : VR P (En.zero F) w a u := .tree (h.M_iff fun b hb => by
  rcases hb with hb | hb
  · exact hb
  · exact hb.elim)
theorem agg_zero {F : Nat → Prop} {cs : List AV} {us : List Value} (h : All2 (TR F w) cs us) : VR P (En.zero F) w (.agg cs) (.agg us.toArray) :=
  .agg h.1 (fun i a u ha hu => .zero (h.2 i a u ha hu)) (fun u hu => by
    obtain ⟨i, hi, rfl⟩ := List.mem_iff_getElem.1 hu
    exact (h.2 i _ _ (List.getElem?_eq_getElem (by have := h.1; omega)) (List.getElem?_eq_getElem hi)).one)
theorem VR.zero_mono {F F' : Nat → Prop} {a : AV} {u : Value} (hF : ∀ b, F' b → F b) (h : VR P (En.zero F) w a u) : VR P (En.zero F') w a u := by
  induction h with
  | any u => exact .any u
  | und => exact .und
  | tree h => exact .tree (h.M_iff fun b hb => by
      rcases hb with hb | hb
      · exact .inl (hF b hb)
      · exact hb.elim)
  | agg hl h h1 ih => exact .agg hl ih h1
  | tup hl h ih => exact .tup hl ih
  | ptr hK h1 h => exact hK.elim
  | row hK h1 h hN => exact hK.elim
  | ea h0 h1 h ih => exact .ea ih h1 h
  | mp hK h1 h => exact hK.elim
  | fn hl h ih => exact .fn hl ih
  | bl b => exact .bl b
  | @cp cs us ad off hb hl h0 hc hr =>
    have hM : ∀ b, (En.zero F').M b → (En.zero F).M b := fun b hb => by
      rcases hb with hb | hb
      · exact .inl (hF b hb)
      · exact hb.elim
    exact .cp (fun hm => hb (hM _ hm)) hl h0 hc (fun i a u ha hu => (hr i a u ha hu).M_iff hM)
theorem args_sound : ∀ {as ts : List AV} {us : List Value} {E : En} {G G' : Hp}, Rel P E w G → All2 (VR P E w) as us → argsOf P G as = some (ts, G') →
    ∃ E', Rel P E' w G' ∧ E'.φ = E.φ ∧ E'.K = E.K ∧ E'.F = E.F ∧ E'.N = E.N ∧ (∀ b, E'.W b → E.W b) ∧ All2 (VR P (En.zero E'.M) w) ts us
  | [], ts, us, E, G, G', hR, h, ht => by
    simp [argsOf] at ht
    obtain ⟨rfl, rfl⟩ := ht
    have : us = [] := List.eq_nil_of_length_eq_zero (by simpa using h.1)
    subst this
    exact ⟨E, hR, rfl, rfl, rfl, rfl, fun _ h => h, .nil⟩
  | a :: as, ts, us, E, G, G', hR, h, ht => by
    obtain ⟨u, us, rfl, h1, h2⟩ := h.uncons
    have fin : ∀ {E1 : En} {G1 : Hp} {t : AV} {rs : List AV}, Rel P E1 w G1 → E1.φ = E.φ → E1.K = E.K → E1.F = E.F → E1.N = E.N → (∀ b, E1.W b → E.W b) → VR P (En.zero E1.M) w t u → argsOf P G1 as = some (rs, G') → ts = t :: rs →
        ∃ E', Rel P E' w G' ∧ E'.φ = E.φ ∧ E'.K = E.K ∧ E'.F = E.F ∧ E'.N = E.N ∧ (∀ b, E'.W b → E.W b) ∧ All2 (VR P (En.zero E'.M) w) ts (u :: us) := by
      intro E1 G1 t rs hR1 p1 p2 pF pN p3 p4 hr hts
      have hle := En.le_of w p1 p2 pF pN p3
      obtain ⟨E2, hR2, q1, q2, qF, qN, q3, q4⟩ := args_sound hR1 (h2.imp fun a b hab => hab.ext (Ext.refl _ _) hle) hr
      subst hts
      refine ⟨E2, hR2, q1.trans p1, q2.trans p2, qF.trans pF, qN.trans pN, fun b hb => p3 b (q3 b hb), .cons (p4.zero_mono fun b hb => ?_) q4⟩
      rcases hb with hb | hb
      · exact .inl (by rw [← qF]; exact hb)
      · exact .inr (q3 b hb)
    cases a with
    | agg cs =>
      simp only [argsOf] at ht
      cases h3 : treesOf P G cs with
      | none => simp [h3] at ht
      | some r =>
        obtain ⟨ts', G1⟩ := r
        cases h4 : argsOf P G1 as with
        | none => simp [h3, h4] at ht
        | some r2 =>
          obtain ⟨rs, G2⟩ := r2
          simp [h3, h4] at ht
          obtain ⟨rfl, rfl⟩ := ht
          obtain ⟨xs, rfl, hl, hv, _⟩ := h1.agg_inv
          obtain ⟨E1, hR1, p1, p2, pF, pN, p3, p4, _⟩ := trees_sound hR ⟨hl, hv⟩ h3
          exact fin hR1 p1 p2 pF pN p3 (agg_zero p4) h4 rfl
    | v _ | sl _ _ | row _ _ | any | und | tup _ | ptr _ _ | ea _ _ | mp _ | fn _ _ | bl | cp _ _ =>
      simp only [argsOf] at ht
      split at ht
      · rename_i t rs G2 h3 h4
        simp only [Option.some.injEq, Prod.mk.injEq] at ht
        obtain ⟨rfl, rfl⟩ := ht
        obtain ⟨E1, hR1, p1, p2, pF, pN, p3, p4⟩ := tree_sound hR h1 h3
        exact fin hR1 p1 p2 pF pN p3 (.zero p4) h4 rfl
      · simp at ht
/-- What a call that leaves the heap as it is may look at. -/
def lookA (P : Program) (G : Hp) : AV → Option AV
  | .v x => some (.v x)
  | .sl n cs => some (.sl n cs)
  | .row id n => treeOf P G (.row id n)
  | .cp cs off => some (.cp cs off)
  | .ptr id off => match G id with
    | some (.var _ cs) => match cs.mapM (fun a => match a with
        | .v x => some (.v x)
        | .sl n cs => some (.sl n cs)
        | _ => none) with
      | some ts => if 0 < ts.length then some (.cp ts off) else none
      | none => none
    | _ => none
  | _ => none
def looksA (P : Program) (G : Hp) : List AV → Option (List AV)
  | [] => some []
  | a :: r => match lookA P G a, looksA P G r with
    | some t, some ts => some (t :: ts)
    | _, _ => none
def seeA (P : Program) (G : Hp) : AV → Option AV
  | .agg cs => (looksA P G cs).map .agg
  | .fn f caps => (looksA P G caps).map (.fn f)
  | a => lookA P G a
def seesA (P : Program) (G : Hp) : List AV → Option (List AV)
  | [] => some []
  | a :: r => match seeA P G a, seesA P G r with
    | some t, some ts => some (t :: ts)
    | _, _ => none
theorem All2.mapM_tree {f : AV → Option AV} {as ts : List AV} {us : List Value} {R R' : AV → Value → Prop} (h : All2 R as us) (hm : as.mapM f = some ts) (hf : ∀ a t u, f a = some t → R a u → R' t u) : All2 R' ts us := by
  induction as generalizing ts us with
  | nil =>
    simp at hm; subst hm
    have : us = [] := List.eq_nil_of_length_eq_zero (by simpa using h.1)
    subst this; exact .nil
  | cons a as ih =>
    obtain ⟨u, us, rfl, h1, h2⟩ := h.uncons
    rw [List.mapM_cons] at hm
    cases h3 : f a with
    | none => simp [h3] at hm
    | some t =>
      cases h4 : as.mapM f with
      | none => simp [h3, h4] at hm
      | some ts' =>
        simp [h3, h4] at hm
        subst hm
        exact .cons (hf a t u h3 h1) (ih h2 h4)
theorem look_sound (hR : Rel P E w G) {a t : AV} {u : Value} (h : VR P E w a u) (ht : lookA P G a = some t) : VR P (En.zero fun _ => False) w t u := by
  have nil : ∀ {a u}, TR E.M w a u → VR P (En.zero fun _ => False) w a u := fun h => .zero (h.M_iff fun _ h => h.elim)
  cases a with
  | v x => simp [lookA] at ht; subst ht; obtain ⟨rfl, h1⟩ := h.v_inv; exact .tree (.v h1)
  | sl n cs => simp [lookA] at ht; subst ht; exact nil h.sl_inv
  | row id n =>
    obtain ⟨E', _, _, _, _, _, _, p4⟩ := tree_sound hR h ht
    exact .zero (p4.M_iff fun _ h => h.elim)
  | cp cs off =>
    simp [lookA] at ht; subst ht
    cases h with
    | tree h => cases h
    | cp hb hl h0 hc hr => exact .cp (fun hm => by rcases hm with hm | hm <;> exact hm) hl h0 hc (fun i a u ha hu => (hr i a u ha hu).M_iff fun b hm => by rcases hm with hm | hm <;> exact hm.elim)
  | ptr id off =>
    simp only [lookA] at ht
    split at ht
    · rename_i t0 cs hG
      split at ht
      · rename_i ts hm
        split at ht
        · rename_i h0
          injection ht with ht
          subst ht
          obtain ⟨b, hb, us, h1, h2, h3, h4⟩ := hR.obj' hG rfl (fun e he => by cases he)
          have hu := h.ptr_inv hb
          have hts : All2 (TR (fun _ => False) w) ts us := All2.mapM_tree (R := VR P E w) ⟨h2, h4⟩ hm fun a t u hf hv => by
            cases a <;> simp at hf
            · subst hf; obtain ⟨rfl, h1⟩ := hv.v_inv; exact .v h1
            · subst hf; exact hv.sl_inv.M_iff fun _ h => h.elim
          have hfin : VR P (En.zero fun _ => False) w (.cp ts off) (.pointer (some ((⟨b, 0, none⟩ : Addr).add off))) := .cp (us := us) (fun hm => by rcases hm with hm | hm <;> exact hm) hts.1 h0 (fun i x hx => by rw [add_lit, cell_of_cells h1]; simpa using hx) (fun i a x ha hx => (hts.2 i a x ha hx).M_iff fun b hm => by rcases hm with hm | hm <;> exact hm)
          rw [hu]
          rw [add_lit] at hfin
          simpa using hfin
        · cases ht
      · cases ht
    · cases ht
  | _ => simp [lookA] at ht
theorem looks_sound (hR : Rel P E w G) : ∀ {as ts : List AV} {us : List Value}, All2 (VR P E w) as us → looksA P G as = some ts → All2 (VR P (En.zero fun _ => False) w) ts us
  | [], ts, us, h, ht => by
    simp [looksA] at ht; subst ht
    have : us = [] := List.eq_nil_of_length_eq_zero (by simpa using h.1)
    subst this; exact .nil
  | a :: as, ts, us, h, ht => by
    obtain ⟨u, us, rfl, h1, h2⟩ := h.uncons
    simp only [looksA] at ht
    split at ht
    · rename_i t ts' h3 h4
      injection ht with ht; subst ht
      exact .cons (look_sound hR h1 h3) (looks_sound hR h2 h4)
    · cases ht
theorem see_sound (hR : Rel P E w G) {a t : AV} {u : Value} (h : VR P E w a u) (ht : seeA P G a = some t) : VR P (En.zero fun _ => False) w t u := by
  cases a with
  | agg cs =>
    simp only [seeA, Option.map_eq_some_iff] at ht
    obtain ⟨ts, h1, rfl⟩ := ht
    obtain ⟨us, rfl, hl, hv, hone⟩ := h.agg_inv
    have := looks_sound hR ⟨hl, hv⟩ h1
    exact .agg this.1 this.2 hone
  | fn f caps =>
    simp only [seeA, Option.map_eq_some_iff] at ht
    obtain ⟨ts, h1, rfl⟩ := ht
    obtain ⟨us, rfl, hl, hv⟩ := h.fn_inv
    have := looks_sound hR ⟨hl, hv⟩ h1
    exact .fn this.1 this.2
  | _ => exact look_sound hR h (by simpa only [seeA] using ht)
theorem sees_sound (hR : Rel P E w G) : ∀ {as ts : List AV} {us : List Value}, All2 (VR P E w) as us → seesA P G as = some ts → All2 (VR P (En.zero fun _ => False) w) ts us
  | [], ts, us, h, ht => by
    simp [seesA] at ht; subst ht
    have : us = [] := List.eq_nil_of_length_eq_zero (by simpa using h.1)
    subst this; exact .nil
  | a :: as, ts, us, h, ht => by
    obtain ⟨u, us, rfl, h1, h2⟩ := h.uncons
    simp only [seesA] at ht
    split at ht
    · rename_i t ts' h3 h4
      injection ht with ht; subst ht
      exact .cons (see_sound hR h1 h3) (sees_sound hR h2 h4)
    · cases ht
end
end Go.Proofs.YtomidniaekeafaaAbs
