/- append, sound. -/
import Derived.Test.YtomidniaekeafaaB1
namespace Go.Proofs.YtomidniaekeafaaAbs
open Go Go.RowKit

def En.app (E : En) (nx : Nat) (id : Option Nat) (b : Option Nat) : En :=
  { φ := fun i => if i = nx then b else if some i = id then none else E.φ i, K := fun i => i = nx ∨ E.K i,
    W := fun x => some x = b ∨ (E.W x ∧ ∀ j, id = some j → E.φ j ≠ some x), F := E.F, N := fun i => (i = nx ∧ b = none) ∨ (i ≠ nx ∧ E.N i) }
section
variable {P : Program} {E : En} {w w' : World} {G : Hp} {s : Sl} {a : Act} {nx : Nat}
theorem Rel.app (hR : Rel P E w G) (hn : G nx = none) {id b : Option Nat} {e : TypeId} {all : List AV} (hid : ∀ j, id = some j → ∃ e0 cs0, G j = some (.row e0 cs0))
    (hb : ∀ x, b = some x → w.heap.size ≤ x ∨ ∃ j, id = some j ∧ E.φ j = some x) (he : Ext E.W w w') (hoth : ∀ x, x < w.heap.size → some x ≠ b → w'.heap[x]? = w.heap[x]?) (hlt : ∀ x, b = some x → x < w'.heap.size)
    (hO : ∀ x, b = some x → ∃ us : List Value, w'.heap[x]? = some (.cells us.toArray e (0, 0)) ∧ all.length ≤ us.length ∧ ∀ (i : Nat) a u, all[i]? = some a → us[i]? = some u → TR E.M w a u) (hnil : b = none → all = []) :
    Rel P (E.app nx id b) w' ((killId G id).upd nx (.row e all)) ∧ En.Le w E (E.app nx id b) := by
  have hidlt : ∀ j, id = some j → j ≠ nx := fun j hj e => by obtain ⟨e0, cs0, h⟩ := hid j hj; rw [e, hn] at h; cases h
  have hle : En.Le w E (E.app nx id b) := by
    refine ⟨fun i h => .inr h, fun i x hK h => ?_, fun x hx h => ?_, rfl, fun i hK h => ?_⟩
    · have hne : i ≠ nx := fun e => hR.noK hn (e ▸ hK)
      simp only [En.app, if_neg hne] at h
      split at h
      · cases h
      · exact h
    · rcases h with h | h
      · rcases hb x h.symm with h1 | ⟨j, h1, h2⟩
        · omega
        · obtain ⟨e0, cs0, hG⟩ := hid j h1
          exact (hR.W x).2 ⟨j, _, h2, hG, rfl⟩
      · exact h.1
    · rcases h with h | h
      · exact absurd hK (fun hK => hR.noK hn (h.1 ▸ hK))
      · exact h.2
  refine ⟨?_, hle⟩
  have hkill : ∀ i, (killId G id) i = if some i = id then some .dead else G i := by
    intro i
    cases id with
    | none => simp [killId]
    | some j =>
      by_cases h : i = j
      · subst h; simp [killId, Hp.upd_self]
      · simp [killId, Hp.upd_ne _ _ h, h]
  have hφ : ∀ i x, i ≠ nx → (E.app nx id b).φ i = some x → some i ≠ id ∧ E.φ i = some x := by
    intro i x hne h
    simp only [En.app, if_neg hne] at h
    split at h
    · cases h
    · rename_i h'; exact ⟨h', h⟩
  have hnew : ∀ i x, i ≠ nx → (E.app nx id b).φ i = some x → some x ≠ b := by
    intro i x hne h hxb
    obtain ⟨h1, h2⟩ := hφ i x hne h
    rcases hb x hxb.symm with h3 | ⟨j, h3, h4⟩
    · have := hR.lt i x h2; omega
    · exact h1 (by rw [h3, hR.inj i j x h2 h4])
  refine ⟨fun i j x hi hj => ?_, fun i x hi => ?_, fun i x hi => ?_, fun i o hi ha => ?_, fun i => ?_, fun x => ?_, fun i x hi hF => ?_, fun x hF => Nat.lt_of_lt_of_le (hR.Flt x hF) he.size⟩
  · by_cases h1 : i = nx <;> by_cases h2 : j = nx
    · rw [h1, h2]
    · have h3 := hnew j x h2 hj
      rw [h1] at hi
      simp only [En.app, if_true] at hi
      exact absurd hi.symm h3
    · have h3 := hnew i x h1 hi
      rw [h2] at hj
      simp only [En.app, if_true] at hj
      exact absurd hj.symm h3
    · exact hR.inj i j x (hφ i x h1 hi).2 (hφ j x h2 hj).2
  · by_cases h1 : i = nx
    · exact ⟨_, by rw [h1, Hp.upd_self], rfl⟩
    · obtain ⟨h2, h3⟩ := hφ i x h1 hi
      obtain ⟨o, h4, h5⟩ := hR.dom i x h3
      exact ⟨o, by rw [Hp.upd_ne _ _ h1, hkill, if_neg h2]; exact h4, h5⟩
  · by_cases h1 : i = nx
    · rw [h1] at hi
      simp only [En.app, if_true] at hi
      exact hlt x hi
    · exact Nat.lt_of_lt_of_le (hR.lt i x (hφ i x h1 hi).2) he.size
  · by_cases h1 : i = nx
    · rw [h1, Hp.upd_self] at hi
      injection hi with hi
      subst hi
      cases hbb : b with
      | none => exact .inr ⟨.inl ⟨h1, rfl⟩, e, by rw [hnil hbb]⟩
      | some x =>
        obtain ⟨us, q1, q2, q3⟩ := hO x hbb
        refine .inl ⟨x, by rw [h1]; simp [En.app], us, q1, q2, fun i a u ha hu => (q3 i a u ha hu).ext he.toM ?_⟩
        intro y hy hm
        exact (hbb ▸ hle).M y hy hm
    · rw [Hp.upd_ne _ _ h1, hkill] at hi
      split at hi
      · injection hi with hi; subst hi; simp [AObj.alive] at ha
      · rename_i h2
        rcases hR.obj i o hi ha with ⟨x, hx, ho⟩ | ⟨hN, he'⟩
        · have hx' : (E.app nx id b).φ i = some x := by simp only [En.app, if_neg h1, if_neg h2]; exact hx
          exact .inl ⟨x, hx', ho.ext he hle (hoth x (hR.lt i x hx) (hnew i x h1 hx'))⟩
        · exact .inr ⟨.inr ⟨h1, hN⟩, he'⟩
  · simp only [En.app]
    by_cases h1 : i = nx
    · subst h1; exact ⟨fun _ => ⟨_, Hp.upd_self _ _ _⟩, fun _ => .inl rfl⟩
    · rw [Hp.upd_ne _ _ h1, hkill]
      simp only [h1, false_or, hR.K i]
      split
      · rename_i h2
        obtain ⟨e0, cs0, hG⟩ := hid i h2.symm
        exact ⟨fun _ => ⟨_, rfl⟩, fun _ => ⟨_, hG⟩⟩
      · exact Iff.rfl
  · constructor
    · rintro (h | ⟨h, h'⟩)
      · exact ⟨nx, _, by simp [En.app, h], Hp.upd_self _ _ _, rfl⟩
      · obtain ⟨i, o, h1, h2, h3⟩ := (hR.W x).1 h
        have hne : i ≠ nx := fun e => by rw [e, hn] at h2; cases h2
        have hni : some i ≠ id := fun e => h' i e.symm h1
        exact ⟨i, o, by simp only [En.app, if_neg hne, if_neg hni]; exact h1, by rw [Hp.upd_ne _ _ hne, hkill, if_neg hni]; exact h2, h3⟩
    · rintro ⟨i, o, h1, h2, h3⟩
      by_cases h : i = nx
      · rw [h] at h1
        simp only [En.app, if_true] at h1
        exact .inl h1.symm
      · obtain ⟨h4, h5⟩ := hφ i x h h1
        rw [Hp.upd_ne _ _ h, hkill, if_neg h4] at h2
        exact .inr ⟨(hR.W x).2 ⟨i, o, h5, h2, h3⟩, fun j hj e => h4 (by rw [hj, hR.inj i j x h5 e])⟩
  · by_cases h1 : i = nx
    · rw [h1] at hi
      simp only [En.app, if_true] at hi
      rcases hb x hi with h2 | ⟨j, h2, h3⟩
      · have := hR.Flt x hF; omega
      · exact hR.nF j x h3 hF
    · exact hR.nF i x (hφ i x h1 hi).2 hF
theorem src_sound (hR : Rel P E w G) {x : AV} {u : Value} {m : Nat} {ms : List AV} (hx : VR P E w x u) (h : srcOf P G x = some (m, ms)) {k : Nat} (hk : 0 < k) (hl : ms.length = m * k) :
    ∃ A c, u = .slice A m c ∧ ∃ news : List Value, news.length = m * k ∧ (m = 0 ∨ ∃ ad, A = some ad ∧ ∀ j y, news[j]? = some y → w.cell? (ad.add j) = some y) ∧ (∀ y ∈ news, y.oneCell' = true) ∧ All2 (TR E.M w) ms news := by
  have all1 : ∀ {cs : List AV} {us : List Value}, All2 (TR E.M w) cs us → ∀ y ∈ us, y.oneCell' = true := by
    intro cs us h y hy
    obtain ⟨i, hi, rfl⟩ := List.mem_iff_getElem.1 hy
    exact (h.2 i _ _ (List.getElem?_eq_getElem (by have := h.1; omega)) (List.getElem?_eq_getElem hi)).one
  have mt : ∀ (A : Option Addr) (c : Nat), m = 0 → ms = [] → u = .slice A m c → ∃ A c, u = .slice A m c ∧ ∃ news : List Value, news.length = m * k ∧ (m = 0 ∨ ∃ ad, A = some ad ∧ ∀ j y, news[j]? = some y → w.cell? (ad.add j) = some y) ∧ (∀ y ∈ news, y.oneCell' = true) ∧ All2 (TR E.M w) ms news := by
    rintro A c rfl rfl rfl
    exact ⟨A, c, rfl, [], by simp, .inl rfl, fun y hy => by simp at hy, .nil⟩
  have m0 : ms = [] → m = 0 := by
    intro h0
    rw [h0, List.length_nil] at hl
    rcases Nat.mul_eq_zero.1 hl.symm with h | h
    · exact h
    · omega
  cases x with
  | v y =>
    cases y <;> try (simp [srcOf, treeOf] at h; done)
    rename_i A n c
    cases A with
    | some ad => simp [srcOf, treeOf] at h
    | none =>
      cases n with
      | succ n => simp [srcOf, treeOf] at h
      | zero =>
        cases c with
        | succ c => simp [srcOf, treeOf] at h
        | zero =>
          simp [srcOf] at h
          exact mt none 0 h.1.symm h.2 (by rw [hx.v_inv.1, ← h.1])
  | sl n cs =>
    simp [srcOf, treeOf] at h
    obtain ⟨rfl, rfl⟩ := h
    cases hx.sl_inv with
    | nil A hn => exact mt A _ (m0 rfl) rfl rfl
    | @sl _ _ ad cap us hn h0 hb hl' hc hr =>
      exact ⟨some ad, cap, rfl, us, by rw [hl', hl], .inr ⟨ad, rfl, hc⟩, all1 ⟨hl', hr⟩, ⟨hl', hr⟩⟩
  | row id n =>
    have key : ∃ e cs, (G id = some (.row e cs) ∨ G id = some (.frz e cs)) ∧ n * P.cellsOf e ≤ cs.length ∧ m = n ∧ ms = cs.take (n * P.cellsOf e) := by
      simp only [srcOf, treeOf] at h
      cases hG : G id with
      | none => simp [hG] at h
      | some o =>
        cases o <;> simp [hG] at h
        · rename_i e cs
          by_cases hle : n * P.cellsOf e ≤ cs.length
          · simp [hle] at h
            exact ⟨e, cs, .inl rfl, hle, h.1.symm, h.2.symm⟩
          · simp [hle] at h
        · rename_i e cs
          by_cases hle : n * P.cellsOf e ≤ cs.length
          · simp [hle] at h
            exact ⟨e, cs, .inr rfl, hle, h.1.symm, h.2.symm⟩
          · simp [hle] at h
    obtain ⟨e, cs, hG, hle, rfl, rfl⟩ := key
    have hO : (∃ b, E.φ id = some b ∧ ∃ us : List Value, w.heap[b]? = some (.cells us.toArray e (0, 0)) ∧ cs.length ≤ us.length ∧ ∀ (i : Nat) a u, cs[i]? = some a → us[i]? = some u → TR E.M w a u) ∨ (E.N id ∧ cs = []) := by
      rcases hG with hG | hG
      · rcases hR.obj id _ hG rfl with h | ⟨hN, e', he⟩
        · exact .inl h
        · injection he with _ he; exact .inr ⟨hN, he⟩
      · rcases hR.obj id _ hG rfl with h | ⟨hN, e', he⟩
        · exact .inl h
        · cases he
    rcases hO with ⟨b, hφ, us, h3, h4, h5⟩ | ⟨hN, rfl⟩
    · obtain ⟨cap, e', rfl, hn, hm, hs⟩ := hx.row_inv hφ
      have hall : All2 (TR E.M w) (cs.take (m * P.cellsOf e)) (us.take (m * P.cellsOf e)) := ⟨by rw [List.length_take, List.length_take]; omega, fun i c y hc hy => by
        rw [List.getElem?_take] at hc hy
        split at hc
        · rename_i hi; rw [if_pos hi] at hy; exact h5 i c y hc hy
        · simp at hc⟩
      refine ⟨_, cap, rfl, us.take (m * P.cellsOf e), by rw [hall.1, hl], .inr ⟨_, rfl, fun j y hy => ?_⟩, all1 hall, hall⟩
      rw [List.getElem?_take] at hy
      split at hy
      · rw [add_lit, cell_of_cells h3]; simpa using hy
      · simp at hy
    · have := hx.row_nil hN
      exact mt none 0 this.2 (by simp) (by rw [this.1, this.2])
  | _ => simp [srcOf, treeOf] at h
theorem base_sound (hR : Rel P E w G) {e k : Nat} {x : AV} {v : Value} {n : Nat} {cs : List AV} {id : Option Nat} (hx : VR P E w x v) (h : baseOf P G e k x = some (n, cs, id)) (hk : P.cellsOf e = k) (hk0 : 0 < k) :
    (∀ j, id = some j → ∃ e0 cs0, G j = some (.row e0 cs0)) ∧ cs.length = n * k ∧
    ((v = .slice none 0 0 ∧ n = 0 ∧ cs = []) ∨ ∃ j b cap us, id = some j ∧ E.φ j = some b ∧ v = .slice (some ⟨b, 0, none⟩) n cap ∧ w.heap[b]? = some (.cells (List.toArray us) e (0, 0)) ∧ n ≤ cap ∧ cap ≤ maxLen ∧ us.length = cap * k ∧ All2 (TR E.M w) cs (us.take (n * k))) := by
  cases x with
  | v y =>
    cases y <;> try (simp [baseOf] at h; done)
    rename_i A n c
    cases A with
    | some ad => simp [baseOf] at h
    | none =>
      cases n with
      | succ n => simp [baseOf] at h
      | zero =>
        cases c with
        | succ c => simp [baseOf] at h
        | zero =>
          simp [baseOf] at h
          obtain ⟨rfl, rfl, rfl⟩ := h
          exact ⟨fun j hj => (by cases hj), by simp, .inl ⟨hx.v_inv.1, rfl, rfl⟩⟩
  | row j n =>
    simp only [baseOf] at h
    cases hG : G j with
    | none => simp [hG] at h
    | some o =>
      cases o <;> simp [hG] at h
      rename_i e' cs'
      obtain ⟨⟨rfl, hl⟩, rfl, rfl, rfl⟩ := h
      refine ⟨fun j' hj => by injection hj with hj; subst hj; exact ⟨_, _, hG⟩, hl, ?_⟩
      rcases hR.obj j _ hG rfl with ⟨b, hφ, us, h3, h4, h5⟩ | ⟨hN, e'', he⟩
      · obtain ⟨cap, e'', rfl, hn, hm, hs⟩ := hx.row_inv hφ
        simp only [World.shape?] at hs
        rw [h3] at hs
        simp at hs
        obtain ⟨rfl, hs⟩ := hs
        rw [hk] at hs
        refine .inr ⟨j, b, cap, us, rfl, hφ, rfl, h3, hn, hm, hs, ?_, fun i c y hc hy => ?_⟩
        · rw [List.length_take]; omega
        · rw [List.getElem?_take] at hy
          split at hy
          · exact h5 i c y hc hy
          · simp at hy
      · injection he with _ he
        have := hx.row_nil hN
        exact .inl ⟨this.1, this.2, he⟩
  | _ => simp [baseOf] at h
theorem append_sound (hR : Rel P E w G) (hn : G nx = none) {t ty : TypeId} {x y val : AV} {ux uy : Value} {G' : Hp} {nx' : Nat} (hx : VR P E w x ux) (hy : VR P E w y uy) (h : evAppend P G nx t x y = some (val, G', nx')) :
    ∃ v' w' E', (Builtin.append_ #[t, t] ty #[ux, uy]).run P w = .ok v' w' ∧ VR P E' w' val v' ∧ Rel P E' w' G' ∧ Ext E.W w w' ∧ En.Le w E E' := by
  unfold evAppend at h
  split at h
  · simp at h
  · rename_i e k by' z hel
    obtain ⟨hu, ti, zv, hi1, hi2, hi3, hi4, hi5, hi6, hi7, hi8, hi9, hi10, hi11⟩ := elI_spec hel
    split at h
    · rename_i n cs id m ms hb hs
      split at h
      · rename_i hc
        obtain ⟨hml, h63, hby⟩ := hc
        simp only [Option.some.injEq, Prod.mk.injEq] at h
        obtain ⟨rfl, rfl, rfl⟩ := h
        obtain ⟨b1, b2, b3⟩ := base_sound hR hx hb hi11 hi6
        obtain ⟨A, c, rfl, news, s1, s2, s3, s4⟩ := src_sound hR hy hs hi6 hml
        have nilcase : ∀ (v' : Value), v' = .slice none 0 0 → n + m = 0 → cs ++ ms = [] →
            ∃ E', VR P E' w (.row nx (n + m)) v' ∧ Rel P E' w ((killId G id).upd nx (.row e (cs ++ ms))) ∧ Ext E.W w w ∧ En.Le w E E' := by
          rintro v' rfl hnm hcs
          obtain ⟨r1, r2⟩ := hR.app (b := none) (e := e) hn b1 (fun x hx => by cases hx) (Ext.refl E.W w) (fun _ _ _ => rfl) (fun x hx => by cases hx) (all := cs ++ ms) (fun x hx => by cases hx) (fun _ => hcs)
          refine ⟨_, .row (show (E.app nx id none).K nx from .inl rfl) rfl (fun b hb => ?_) (fun _ => ⟨rfl, hnm⟩), r1, Ext.refl _ _, r2⟩
          simp [En.app] at hb
        have rowcase : ∀ (v' : Value) (w' : World) (b cap : Nat) (us' : List Value), v' = .slice (some ⟨b, 0, none⟩) (n + m) cap → n + m ≤ cap → cap ≤ maxLen → us'.length = cap * k → w'.heap[b]? = some (.cells us'.toArray e (0, 0)) →
            All2 (TR E.M w) (cs ++ ms) (us'.take ((n + m) * k)) → (w.heap.size ≤ b ∨ ∃ j, id = some j ∧ E.φ j = some b) → Ext E.W w w' → (∀ x, x < w.heap.size → x ≠ b → w'.heap[x]? = w.heap[x]?) →
            ∃ E', VR P E' w' (.row nx (n + m)) v' ∧ Rel P E' w' ((killId G id).upd nx (.row e (cs ++ ms))) ∧ Ext E.W w w' ∧ En.Le w E E' := by
          rintro v' w' b cap us' rfl hnc hcm hul hh hall hbb he hoth
          have hlt : b < w'.heap.size := (Array.getElem?_eq_some_iff.1 hh).1
          obtain ⟨r1, r2⟩ := hR.app (b := some b) (e := e) hn b1 (fun x hx => by injection hx with hx; subst hx; exact hbb) he (fun x hx hne => hoth x hx (fun e => hne (by rw [e]))) (fun x hx => by injection hx with hx; subst hx; exact hlt) (all := cs ++ ms) (fun x hx => by
            injection hx with hx
            subst hx
            refine ⟨us', hh, ?_, fun i a u ha hu => hall.2 i a u ha ?_⟩
            · rw [List.length_append, b2, hml, ← Nat.add_mul, hul]; exact Nat.mul_le_mul_right _ hnc
            · have hi : i < (cs ++ ms).length := (List.getElem?_eq_some_iff.1 ha).1
              rw [List.length_append, b2, hml, ← Nat.add_mul] at hi
              rw [List.getElem?_take, if_pos hi]; exact hu) (fun hx => by cases hx)
          refine ⟨_, .row (show (E.app nx id (some b)).K nx from .inl rfl) rfl (fun x hx => ?_) (fun hN => ?_), r1, he, r2⟩
          · simp [En.app] at hx
            subst hx
            refine ⟨cap, e, rfl, hnc, hcm, ?_⟩
            simp only [World.shape?]
            rw [hh]
            simp [hul, hi11]
          · rcases hN with ⟨_, h⟩ | ⟨h, _⟩
            · cases h
            · exact absurd rfl h
        have hm63 : n + m ≤ maxLen := by unfold maxLen; omega
        rcases b3 with ⟨rfl, rfl, rfl⟩ | ⟨j, b, cap, us, rfl, hφ, rfl, hh, hnc, hcm, hul, hall⟩
        · obtain ⟨v', w', hrun, happ⟩ := app_run (ty := ty) (A := A) (c := c) hel (.inl ⟨rfl, rfl, rfl⟩) s1 s2 s3 hm63 hby
          cases happ with
          | same hm hv hw =>
            subst hm
            have hms : ms = [] := List.eq_nil_of_length_eq_zero (by simpa using hml)
            obtain ⟨E', q⟩ := nilcase v' hv rfl (by simp [hms])
            rw [hw] at hrun
            exact ⟨v', w, E', hrun, q⟩
          | room b cap us us' hv => cases hv
          | new cap us hv hw hl hnc hcm ht =>
            have hnew : w'.heap[w.heap.size]? = some (.cells us.toArray e (0, 0)) := by rw [hw]; exact heap_alloc_new w.drew _
            have hold : ∀ x, x < w.heap.size → w'.heap[x]? = w.heap[x]? := fun x hx => by rw [hw]; exact _root_.Go.heap_alloc_old w.drew _ hx
            have he : Ext E.W w w' := ⟨by rw [hw]; rfl, by rw [hw]; rfl, by rw [hw]; rfl, by rw [hw]; simp, fun x hx _ => hold x hx, fun x hx => shape_of_heap (hold x hx)⟩
            obtain ⟨E', q⟩ := rowcase v' w' _ cap us hv hnc hcm hl hnew (by rw [ht]; simpa using s4) (.inl (Nat.le_refl _)) he (fun x hx _ => hold x hx)
            exact ⟨v', w', E', hrun, q⟩
        · obtain ⟨v', w', hrun, happ⟩ := app_run (ty := ty) (A := A) (c := c) hel (.inr ⟨b, cap, us, rfl, hh, hnc, hcm, hul, rfl⟩) s1 s2 s3 hm63 hby
          have hWb : E.W b := by
            obtain ⟨e0, cs0, hG⟩ := b1 j rfl
            exact (hR.W b).2 ⟨j, _, hφ, hG, rfl⟩
          cases happ with
          | same hm hv hw =>
            subst hm
            have hms : ms = [] := List.eq_nil_of_length_eq_zero (by simpa using hml)
            subst hms
            rw [hw] at hrun
            obtain ⟨E', q⟩ := rowcase v' w b cap us (by rw [hv]; rfl) (by simpa using hnc) hcm hul hh (by simpa using hall) (.inr ⟨j, rfl, hφ⟩) (Ext.refl _ _) (fun _ _ _ => rfl)
            exact ⟨v', w, E', hrun, q⟩
          | room b' cap' us0 us' hv hv' hh0 hh' hl ht hnm ho h1 h2 h3 h4 =>
            injection hv with hv hv2 hv3
            injection hv with hv
            injection hv with hv
            subst hv
            subst hv3
            rw [hh] at hh0
            have hus : us0 = us := by injection hh0 with hh0; injection hh0 with hh0; exact (congrArg Array.toList hh0).symm
            subst hus
            have he : Ext E.W w w' := ⟨h1, h2, h3, Nat.le_of_eq h4.symm, fun x hx hm => ho x (fun e => hm (e ▸ hWb)), fun x hx => by
              by_cases hxb : x = b
              · subst hxb; exact shape_of_cells hh hh' (by simpa using hl)
              · exact shape_of_heap (ho x hxb)⟩
            obtain ⟨E', q⟩ := rowcase v' w' b cap us' hv' hnm hcm (hl.trans hul) hh' (by rw [ht]; exact hall.app s4) (.inr ⟨j, rfl, hφ⟩) he (fun x _ hx => ho x hx)
            exact ⟨v', w', E', hrun, q⟩
          | new cap' us' hv hw hl hnm hcm' ht =>
            have hnew : w'.heap[w.heap.size]? = some (.cells us'.toArray e (0, 0)) := by rw [hw]; exact heap_alloc_new w.drew _
            have hold : ∀ x, x < w.heap.size → w'.heap[x]? = w.heap[x]? := fun x hx => by rw [hw]; exact _root_.Go.heap_alloc_old w.drew _ hx
            have he : Ext E.W w w' := ⟨by rw [hw]; rfl, by rw [hw]; rfl, by rw [hw]; rfl, by rw [hw]; simp, fun x hx _ => hold x hx, fun x hx => shape_of_heap (hold x hx)⟩
            obtain ⟨E', q⟩ := rowcase v' w' _ cap' us' hv hnm hcm' hl hnew (by rw [ht]; exact hall.app s4) (.inl (Nat.le_refl _)) he (fun x hx _ => hold x hx)
            exact ⟨v', w', E', hrun, q⟩
      · simp at h
    · simp at h
end
end Go.Proofs.YtomidniaekeafaaAbs
