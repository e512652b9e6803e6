/- A step of ours, and the machine's. -/
import Derived.Test.YtomidniaekeafaaC4
namespace Go.Proofs.YtomidniaekeafaaAbs
open Go Go.RowKit

section
variable {P : Program} {N : Nat} {E1 : En} {w1 : World} {s s' : Sl} {G G' : Hp} {a : Act} {w w' : World} {E E' : En} {ops : Array Oper}
theorem Rel.below (hR : Rel P E w G) (hb : Below w.heap.size w w') : Rel P E w' G ∧ Ext E.W w w' :=
  have he : Ext E.W w w' := Ext.of_below _ hb
  ⟨⟨hR.inj, hR.dom, fun i b h => Nat.lt_of_lt_of_le (hR.lt i b h) he.size, fun i o hG ha => by
      rcases hR.obj i o hG ha with ⟨b, hφ, hO⟩ | h
      · exact .inl ⟨b, hφ, hO.ext he (En.Le.refl _ _) (hb.block b (hR.lt i b hφ))⟩
      · exact .inr h, hR.K, hR.W, hR.nF, fun b h => Nat.lt_of_lt_of_le (hR.Flt b h) he.size⟩, he⟩
theorem ofJ_lt {J : Js} {i : Nat} {o : AObj} (h : ofJ J i = some o) : i < J.length := by
  simp only [ofJ] at h
  rcases Nat.lt_or_ge i J.length with h1 | h1
  · exact h1
  · rw [List.getElem?_eq_none h1] at h; cases h
theorem call_sound {f : FuncId} {as ts : List AV} {us : List Value} {r : AV} {J : Js} {nx : Nat} (hR : Rel P E w G) (hx : All2 (VR P E w) as us) (ha : argsOf P G as = some (ts, G'))
    (hn : ∀ j, nx ≤ j ∧ j - nx < J.length → G j = none) (hk : CallsOK P f ts r J) :
    Calls P f us.toArray w fun e w' => ∃ u E', e = .returned u ∧ VR P E' w' (shiftT nx r) u ∧ Rel P E' w' (addJ G' nx J) ∧ Ext E.W w w' ∧ En.Le w E E' := by
  obtain ⟨E1, hR1, p1, p2, pF, pN, p3, p4⟩ := args_sound hR hx ha
  obtain ⟨ho, _, hk⟩ := hk
  have hM : ∀ b, E1.M b → b < w.heap.size := fun b hb => by
    rcases hb with hb | hb
    · exact hR1.Flt b hb
    · obtain ⟨i, o, h1, _⟩ := (hR1.W b).1 hb; exact hR1.lt i b h1
  refine (hk w us E1.M hM p4).mono fun e w' h => ?_
  obtain ⟨u, E2, rfl, hv, hR2, hF2, hb, hge⟩ := h
  have hK : ∀ j, G j = none → G' j = none := fun j hj => by
    cases h : G' j with
    | none => rfl
    | some o =>
      have h1 := (hR1.K j).2 ⟨o, h⟩
      rw [p2] at h1
      obtain ⟨o', h2⟩ := (hR.K j).1 h1
      rw [hj] at h2; cases h2
  obtain ⟨hR3, he, hle⟩ := hR1.imp (J := J) (fun j hj => hK j (hn j hj)) hR2 hF2 hb hge
  have hle1 := En.le_of w p1 p2 pF pN p3
  exact ⟨u, _, rfl, imp_tup hR2 hF2 ho hv, hR3, he.mono fun b _ h => p3 b h, hle1.trans hle (Nat.le_refl _)⟩
theorem flat_sound {r : AV} {u : Value} (hf : flatT r = true) (h : VR P E' w' r u) : VR P E w r u := by
  have one : ∀ {r : AV} {u : Value}, flatV r = true → VR P E' w' r u → VR P E w r u := by
    intro r u hf h
    cases r with
    | v x => obtain ⟨rfl, h1⟩ := h.v_inv; exact .tree (.v h1)
    | _ => simp [flatV] at hf
  cases r with
  | tup vs =>
    obtain ⟨us, rfl, hl, hv⟩ := h.tup_inv
    simp only [flatT, List.all_eq_true] at hf
    exact .tup hl fun i c x hc hx => one (hf c (List.mem_of_getElem? hc)) (hv i c x hc hx)
  | _ => exact one (by simpa only [flatT] using hf) h
theorem keep_sound {f : FuncId} {as ts : List AV} {us : List Value} {r : AV} (hR : Rel P E w G) (hx : All2 (VR P E w) as us) (ha : seesA P G as = some ts)
    (hk : CallsOK P f ts r []) (hf : flatT r = true) :
    Calls P f us.toArray w fun e w' => ∃ u, e = .returned u ∧ VR P E w' r u ∧ Rel P E w' G ∧ Ext E.W w w' ∧ En.Le w E E := by
  obtain ⟨ho, _, hk⟩ := hk
  refine (hk w us (fun _ => False) (fun b hb => hb.elim) (sees_sound hR hx ha)).mono fun e w' h => ?_
  obtain ⟨u, E2, rfl, hv, hR2, hF2, hb, hge⟩ := h
  obtain ⟨hR3, he⟩ := hR.below hb
  exact ⟨u, rfl, flat_sound hf hv, hR3, he, En.Le.refl _ _⟩
theorem evXs {xs : List Operand} (h : ∀ t, VR P E w (s t) (a.tmps.getD t undef)) : All2 (VR P E w) (xs.map (evX s)) (xs.map a.eval) :=
  ⟨by simp, fun i c u hc hu => by
    rw [List.getElem?_map] at hc hu
    cases hx : xs[i]? with
    | none => simp [hx] at hc
    | some x =>
      simp [hx] at hc hu
      subst hc; subst hu
      exact evX_sound h x⟩
theorem All2.append {α β : Type} {R : α → β → Prop} {xs xs' : List α} {ys ys' : List β} (h : All2 R xs ys) (h' : All2 R xs' ys') : All2 R (xs ++ xs') (ys ++ ys') := by
  have hl := h.1
  refine ⟨by simp [h.1, h'.1], fun i a b ha hb => ?_⟩
  rcases Nat.lt_or_ge i xs.length with h1 | h1
  · rw [List.getElem?_append_left h1] at ha
    rw [List.getElem?_append_left (by omega)] at hb
    exact h.2 i a b ha hb
  · rw [List.getElem?_append_right h1] at ha
    rw [List.getElem?_append_right (by omega)] at hb
    rw [hl] at hb
    exact h'.2 _ a b ha hb
theorem callA_run {o : Oper} {f : FuncId} {as : List AV} (hx : ∀ t, VR P E w (s t) (a.tmps.getD t undef)) (h : callA s o = some (f, as)) :
    ∃ us : List Value, All2 (VR P E w) as us ∧ ((∀ args w, (callFunc f args).run P w = .ok (.enter f args) w) → (execOp a.eval o).run P w = .ok (.enter f us.toArray) w) := by
  unfold callA at h
  split at h
  · rename_i c hop
    have e : (c.args.map a.eval) = (c.args.toList.map a.eval).toArray := by simp [← Array.toList_inj]
    split at h
    · rename_i f' hc
      simp only [Option.some.injEq, Prod.mk.injEq] at h
      obtain ⟨rfl, rfl⟩ := h
      refine ⟨c.args.toList.map a.eval, evXs hx, fun he => ?_⟩
      simp [execOp, hop, resolve, hc, Act.eval, Deferred.ofValue, invoke, he]
      exact e
    · rename_i t hc
      split at h
      · rename_i f' caps ht
        simp only [Option.some.injEq, Prod.mk.injEq] at h
        obtain ⟨rfl, rfl⟩ := h
        have h1 := hx t
        rw [ht] at h1
        obtain ⟨us, hu, hl, hv⟩ := h1.fn_inv
        refine ⟨c.args.toList.map a.eval ++ us, (evXs hx).append ⟨hl, hv⟩, fun he => ?_⟩
        simp [execOp, hop, resolve, hc, Act.eval, hu, Deferred.ofValue, invoke, he]
      · cases h
    · simp at h
  · simp at h
theorem step_wp {Q : Exit → Act → World → Prop} {i : Nat} (hs : Step P N ops i s G s' G') (h : RelAt P N E1 w1 s G a w E) {K : Act → World → Prop} (hK : ∀ a' w' E', RelAt P N E1 w1 s' G' a' w' E' → K a' w') :
    wpOp P ops Q i K a w := by
  cases hs with
  | none hi => unfold wpOp; rw [hi]; exact hK _ _ _ h
  | @off o hi hd hw =>
    unfold wpOp
    rw [hi]
    simp only [want_sound h hw, Bool.false_eq_true, if_false]
    exact hK _ _ _ (h.put hd .und h.rel (Ext.refl _ _) (En.Le.refl _ _))
  | @op _ o val nx nx' hi hd hw hn he =>
    unfold wpOp
    rw [hi]
    simp only [want_sound h hw, if_true]
    refine .inl ?_
    obtain ⟨w1, E1, u, hr, hv, hR1, he1, hle1⟩ := oper_sound h.rel (evX_sound h.slots) hn he
    have hfin := hK _ _ _ (h.put hd hv hR1 he1 hle1)
    unfold Oper.wp
    rcases hr with hr | ⟨hr, rfl⟩
    · rw [hr]; exact hfin
    · rw [hr]; exact hfin
  | @call G1 o f as ts r J nx hi hd hw hc ha hn hk =>
    unfold wpOp
    rw [hi]
    simp only [want_sound h hw, if_true]
    refine .inl ?_
    unfold Oper.wp
    obtain ⟨us, hus, hrun⟩ := callA_run h.slots hc
    rw [hrun hk.2.1]
    refine (call_sound h.rel hus ha hn hk).mono fun e w1 h1 => ?_
    obtain ⟨u, E1, rfl, hv, hR1, he1, hle1⟩ := h1
    exact hK _ _ _ (h.put hd hv hR1 he1 hle1)
  | @keep o f as ts r hi hd hw hc ha hk hkeep =>
    unfold wpOp
    rw [hi]
    simp only [want_sound h hw, if_true]
    refine .inl ?_
    unfold Oper.wp
    obtain ⟨us, hus, hrun⟩ := callA_run h.slots hc
    rw [hrun hk.2.1]
    refine (keep_sound h.rel hus ha hk hkeep).mono fun e w1 h1 => ?_
    obtain ⟨u, rfl, hv, hR1, he1, hle1⟩ := h1
    exact hK _ _ _ (h.put hd hv hR1 he1 hle1)
  | @inl _ o f as v hi hd hw hc hk hg hfin =>
    unfold wpOp
    rw [hi]
    simp only [want_sound h hw, if_true]
    refine .inl ?_
    unfold Oper.wp
    obtain ⟨us, hus, hrun⟩ := callA_run h.slots hc
    rw [hrun hk.1]
    refine (hk.2 E w us h.rel hus).mono fun e w1 h1 => ?_
    obtain ⟨u, E1, rfl, hv, hR1, he1, hle1⟩ := h1
    exact hK _ _ _ (h.put hd hv hR1 he1 hle1)
/-- A list of operations, done one by one. -/
inductive Runs (P : Program) (N : Nat) (ops : Array Oper) : List Nat → Sl → Hp → Sl → Hp → Prop
  | nil {s : Sl} {G : Hp} : Runs P N ops [] s G s G
  | cons {i : Nat} {l : List Nat} {s s1 s' : Sl} {G G1 G' : Hp} (h : Step P N ops i s G s1 G1) (hr : Runs P N ops l s1 G1 s' G') : Runs P N ops (i :: l) s G s' G'
theorem runs_wp {Q : Exit → Act → World → Prop} {l : List Nat} (hr : Runs P N ops l s G s' G') (h : RelAt P N E1 w1 s G a w E) (hQ : ∀ a' w' E', RelAt P N E1 w1 s' G' a' w' E' → Q .normal a' w') : wpOps P ops Q l a w := by
  induction hr generalizing a w E with
  | nil => exact hQ _ _ _ h
  | cons hs hr ih =>
    rw [wpOps_cons]
    exact step_wp hs h fun a' w' E' h' => ih h' hQ
theorem region_wp {Q : Exit → Act → World → Prop} {id : Nat} (hr : Runs P N ops (List.range ops.size) s G s' G') (h : RelAt P N E1 w1 s G a w E) (hQ : ∀ a' w' E', RelAt P N E1 w1 s' G' a' w' E' → Q .normal a' w') : (Code.region id ops false).wp P Q a w :=
  wp_region (runs_wp hr h hQ)
end
end Go.Proofs.YtomidniaekeafaaAbs
