/- Relations kept by a new block and by a store. -/
import Derived.Test.YtomidniaekeafaaA2
namespace Go.Proofs.YtomidniaekeafaaAbs
open Go Go.RowKit

section
variable {P : Program} {E : En} {w w' : World} {G : Hp} {nx id b : Nat}

def En.add (E : En) (nx b : Nat) : En := { φ := fun i => if i = nx then some b else E.φ i, K := fun i => i = nx ∨ E.K i, W := fun x => x = b ∨ E.W x, F := E.F, N := fun i => i ≠ nx ∧ E.N i }
theorem Rel.noK (hR : Rel P E w G) (hn : G nx = none) : ¬ E.K nx := fun h => by obtain ⟨o, ho⟩ := (hR.K nx).1 h; rw [hn] at ho; cases ho
theorem Rel.noφ (hR : Rel P E w G) (hn : G nx = none) : E.φ nx = none := by
  cases h : E.φ nx with
  | none => rfl
  | some b => obtain ⟨o, ho, _⟩ := hR.dom nx b h; rw [hn] at ho; cases ho
theorem En.le_add (hR : Rel P E w G) (hn : G nx = none) : En.Le w E (E.add nx w.heap.size) :=
  ⟨fun i h => .inr h, fun i b hK h => by
    have hne : i ≠ nx := fun e => hR.noK hn (e ▸ hK)
    simpa [En.add, hne] using h, fun x hx h => by
    rcases h with h | h
    · omega
    · exact h, rfl, fun _ _ h => h.2⟩
/-- A new block for a new mutable object. -/
theorem Rel.new (hR : Rel P E w G) (hn : G nx = none) (o : AObj) (hm : o.mut = true) (ob : Obj) (hO : OR P (E.add nx w.heap.size) (w.alloc ob) w.heap.size o) :
    Rel P (E.add nx w.heap.size) (w.alloc ob) (G.upd nx o) := by
  have hext := Ext.alloc E.W w ob
  have hle := En.le_add hR hn
  have hal : o.alive = true := by cases o <;> simp [AObj.mut] at hm <;> rfl
  refine ⟨fun i j x hi hj => ?_, fun i x hi => ?_, fun i x hi => ?_, fun i o' hi ha => ?_, fun i => ?_, fun x => ?_, fun i x hi hF => ?_, fun x hF => Nat.lt_of_lt_of_le (hR.Flt x hF) hext.size⟩
  · simp only [En.add] at hi hj
    split at hi <;> split at hj
    · simp_all
    · rename_i h1 h2
      have := hR.lt j x hj
      simp at hi
      omega
    · rename_i h1 h2
      have := hR.lt i x hi
      simp at hj
      omega
    · exact hR.inj i j x hi hj
  · simp only [En.add] at hi
    by_cases h : i = nx
    · exact ⟨o, by rw [h, Hp.upd_self], hal⟩
    · rw [if_neg h] at hi
      obtain ⟨o', h1, h2⟩ := hR.dom i x hi
      exact ⟨o', by rw [Hp.upd_ne _ _ h]; exact h1, h2⟩
  · simp only [En.add] at hi
    rw [World.size_alloc]
    split at hi
    · simp at hi; omega
    · have := hR.lt i x hi; omega
  · by_cases h : i = nx
    · subst h
      rw [Hp.upd_self] at hi
      injection hi with hi
      subst hi
      exact .inl ⟨w.heap.size, by simp [En.add], hO⟩
    · rw [Hp.upd_ne _ _ h] at hi
      rcases hR.obj i o' hi ha with ⟨x, hx, ho⟩ | ⟨hN, he⟩
      · exact .inl ⟨x, by simp [En.add, h, hx], ho.ext hext hle (_root_.Go.heap_alloc_old w ob (hR.lt i x hx))⟩
      · exact .inr ⟨⟨h, hN⟩, he⟩
  · simp only [En.add]
    by_cases h : i = nx
    · subst h; exact ⟨fun _ => ⟨o, Hp.upd_self _ _ _⟩, fun _ => .inl rfl⟩
    · rw [Hp.upd_ne _ _ h]; simp [h, hR.K i]
  · simp only [En.add]
    constructor
    · rintro (rfl | h)
      · exact ⟨nx, o, by simp, Hp.upd_self _ _ _, hm⟩
      · obtain ⟨i, o', h1, h2, h3⟩ := (hR.W x).1 h
        have hne : i ≠ nx := fun e => by rw [e, hn] at h2; cases h2
        exact ⟨i, o', by simp [hne, h1], by rw [Hp.upd_ne _ _ hne]; exact h2, h3⟩
    · rintro ⟨i, o', h1, h2, h3⟩
      by_cases h : i = nx
      · simp [h] at h1; exact .inl h1.symm
      · rw [if_neg h] at h1
        rw [Hp.upd_ne _ _ h] at h2
        exact .inr ((hR.W x).2 ⟨i, o', h1, h2, h3⟩)
  · simp only [En.add] at hi
    split at hi
    · simp at hi
      have := hR.Flt x hF
      omega
    · exact hR.nF i x hi hF
/-- A store into a mutable object's block. -/
theorem Rel.put (hR : Rel P E w G) {o o' : AObj} (hφ : E.φ id = some b) (hG : G id = some o) (hm : o.mut = true) (hm' : o'.mut = true) (he : Ext E.W w w') (hoth : ∀ k, k ≠ b → w'.heap[k]? = w.heap[k]?) (hO : OR P E w' b o') :
    Rel P E w' (G.upd id o') := by
  have hal' : o'.alive = true := by cases o' <;> simp [AObj.mut] at hm' <;> rfl
  refine ⟨hR.inj, fun i x hi => ?_, fun i x hi => Nat.lt_of_lt_of_le (hR.lt i x hi) he.size, fun i o'' hi ha => ?_, fun i => ?_, fun x => ?_, hR.nF, fun x hF => Nat.lt_of_lt_of_le (hR.Flt x hF) he.size⟩
  · obtain ⟨o'', h1, h2⟩ := hR.dom i x hi
    by_cases h : i = id
    · exact ⟨o', by rw [h, Hp.upd_self], hal'⟩
    · exact ⟨o'', by rw [Hp.upd_ne _ _ h]; exact h1, h2⟩
  · by_cases h : i = id
    · subst h
      rw [Hp.upd_self] at hi
      injection hi with hi
      subst hi
      exact .inl ⟨b, hφ, hO⟩
    · rw [Hp.upd_ne _ _ h] at hi
      rcases hR.obj i o'' hi ha with ⟨x, hx, ho⟩ | hN
      · have hne : x ≠ b := fun e => h (hR.inj i id x hx (by rw [e]; exact hφ))
        exact .inl ⟨x, hx, ho.ext he (En.Le.refl w E) (hoth x hne)⟩
      · exact .inr hN
  · by_cases h : i = id
    · subst h; exact ⟨fun _ => ⟨o', Hp.upd_self _ _ _⟩, fun _ => (hR.K i).2 ⟨o, hG⟩⟩
    · rw [Hp.upd_ne _ _ h]; exact hR.K i
  · rw [hR.W x]
    constructor
    · rintro ⟨i, o'', h1, h2, h3⟩
      by_cases h : i = id
      · exact ⟨i, o', h1, by rw [h, Hp.upd_self], hm'⟩
      · exact ⟨i, o'', h1, by rw [Hp.upd_ne _ _ h]; exact h2, h3⟩
    · rintro ⟨i, o'', h1, h2, h3⟩
      by_cases h : i = id
      · subst h; exact ⟨i, o, h1, hG, hm⟩
      · exact ⟨i, o'', h1, by rw [Hp.upd_ne _ _ h] at h2; exact h2, h3⟩
def En.less (E : En) (b : Nat) : En := { E with W := fun x => x ≠ b ∧ E.W x }
theorem En.le_less (w : World) (E : En) (b : Nat) : En.Le w E (E.less b) := ⟨fun _ h => h, fun _ _ _ h => h, fun _ _ h => h.2, rfl, fun _ _ h => h⟩
/-- A row is only read from now on. -/
theorem Rel.freeze (hR : Rel P E w G) {e : TypeId} {cs : List AV} (hφ : E.φ id = some b) (hG : G id = some (.row e cs)) (hc : cs ≠ []) : Rel P (E.less b) w (G.upd id (.frz e cs)) := by
  have he := Ext.refl E.W w
  have hle := En.le_less w E b
  refine ⟨hR.inj, fun i x hi => ?_, hR.lt, fun i o'' hi ha => ?_, fun i => ?_, fun x => ?_, hR.nF, hR.Flt⟩
  · obtain ⟨o'', h1, h2⟩ := hR.dom i x hi
    by_cases h : i = id
    · exact ⟨_, by rw [h, Hp.upd_self], rfl⟩
    · exact ⟨o'', by rw [Hp.upd_ne _ _ h]; exact h1, h2⟩
  · by_cases h : i = id
    · subst h
      rw [Hp.upd_self] at hi
      injection hi with hi
      subst hi
      obtain ⟨x, hx, ho⟩ := hR.obj' hG rfl (fun e' he => by injection he with _ he; exact hc he)
      rw [hφ] at hx
      injection hx with hx
      subst hx
      exact .inl ⟨b, hφ, OR.ext (o := .row e cs) he hle rfl ho⟩
    · rw [Hp.upd_ne _ _ h] at hi
      rcases hR.obj i o'' hi ha with ⟨x, hx, ho⟩ | hN
      · exact .inl ⟨x, hx, ho.ext he hle rfl⟩
      · exact .inr hN
  · show E.K i ↔ _
    by_cases h : i = id
    · subst h; exact ⟨fun _ => ⟨_, Hp.upd_self _ _ _⟩, fun _ => (hR.K i).2 ⟨_, hG⟩⟩
    · rw [Hp.upd_ne _ _ h]; exact hR.K i
  · simp only [En.less, hR.W x]
    constructor
    · rintro ⟨hne, i, o'', h1, h2, h3⟩
      have h : i ≠ id := fun e => hne (by rw [e, hφ] at h1; injection h1 with h1; exact h1.symm)
      exact ⟨i, o'', h1, by rw [Hp.upd_ne _ _ h]; exact h2, h3⟩
    · rintro ⟨i, o'', h1, h2, h3⟩
      by_cases h : i = id
      · subst h; rw [Hp.upd_self] at h2; injection h2 with h2; subst h2; simp [AObj.mut] at h3
      · rw [Hp.upd_ne _ _ h] at h2
        exact ⟨fun e => h (hR.inj i id x h1 (by rw [e]; exact hφ)), i, o'', h1, h2, h3⟩
/-- Cells stored one behind the other. -/
theorem run_storeCells_at (g o : Nat) (t : TypeId) : ∀ (vs : List Value) (i : Nat) (cur : List Value) (w : World), w.heap[g]? = some (.cells cur.toArray t (0, 0)) → o + i + vs.length ≤ cur.length → (∀ v ∈ vs, v.oneCell' = true) →
    ∃ w', (storeCells ⟨g, o, none⟩ vs i).run P w = .ok () w' ∧ w'.heap[g]? = some (.cells (cur.take (o + i) ++ vs ++ cur.drop (o + i + vs.length)).toArray t (0, 0)) ∧ (∀ k, k ≠ g → w'.heap[k]? = w.heap[k]?) ∧ w'.os = w.os ∧ w'.tape = w.tape ∧ w'.output = w.output ∧ w'.heap.size = w.heap.size
  | [], i, cur, w, hg, hl, _ => by
    refine ⟨w, rfl, ?_, fun _ _ => rfl, rfl, rfl, rfl, rfl⟩
    rw [hg]; simp
  | v :: rest, i, cur, w, hg, hl, h1 => by
    simp only [List.length_cons] at hl
    have hi : o + i < cur.length := by omega
    have hcell : w.cell? ⟨g, o + i, none⟩ = some cur[o + i] := by rw [cell_of_cells hg]; simp [hi]
    have hfro : w.frozen? ⟨g, o + i, none⟩ = false := by simp [World.frozen?, hg]
    have hst : (store ((⟨g, o, none⟩ : Addr).add i) v).run P w = .ok () (w.setRow g (cur.set (o + i) v).toArray) := by
      rw [add_lit, run_store P w _ v _ (h1 v (by simp)), hcell]
      simp [hfro, setCell_eq_setRow w g (o + i) cur.toArray t (0, 0) v hg]
    obtain ⟨w', h2, h3, h4, h5, h6, h7, h8⟩ := run_storeCells_at g o t rest (i + 1) (cur.set (o + i) v) (w.setRow g (cur.set (o + i) v).toArray) (setRow_heap w g _ _ t _ hg) (by simp; omega) (fun x hx => h1 x (by simp [hx]))
    refine ⟨w', ?_, ?_, fun k hk => (h4 k hk).trans (setRow_other w g k _ hk), h5, h6, h7, h8.trans (by simp)⟩
    · simp only [storeCells, Sem.run_bind, hst, Result.andThen_ok, h2]
    · rw [h3]
      congr 3
      have e1 : o + (i + 1) = o + i + 1 := by omega
      have e2 : o + i + 1 + rest.length = o + i + (v :: rest).length := by simp; omega
      rw [e1, e2, List.drop_set_of_lt (by simp), List.take_add_one, List.take_set_of_le (by omega), List.getElem?_set_self hi]
      simp
end

def treeOf (P : Program) (G : Hp) : AV → Option AV
  | .v x => some (.v x)
  | .sl n cs => some (.sl n cs)
  | .row id n => match G id with
    | some (.row e cs) => if n * P.cellsOf e ≤ cs.length then some (.sl n (cs.take (n * P.cellsOf e))) else none
    | some (.frz e cs) => if n * P.cellsOf e ≤ cs.length then some (.sl n (cs.take (n * P.cellsOf e))) else none
    | _ => none
  | _ => none
def frzOf (G : Hp) : AV → Hp
  | .row id _ => match G id with
    | some (.row e (c :: cs)) => G.upd id (.frz e (c :: cs))
    | _ => G
  | _ => G
/-- Rows among cells that are put into a row become trees. -/
def treesOf (P : Program) : Hp → List AV → Option (List AV × Hp)
  | G, [] => some ([], G)
  | G, a :: r => match treeOf P G a, treesOf P (frzOf G a) r with
    | some t, some (ts, G') => some (t :: ts, G')
    | _, _ => none
def evStore (P : Program) (G : Hp) (t : TypeId) (a v : AV) : Option Hp :=
  match tyI P t with
  | none => none
  | some (_, k) => if v.cells.length = k ∧ v.cells.all AV.one = true then
      match a with
      | .ptr id off => match G id with
        | some (.var t0 cs) => if off + k ≤ cs.length then some (G.upd id (.var t0 (splice cs off v.cells))) else none
        | _ => none
      | .ea (.row id _) off => match treesOf P G v.cells with
        | some (ts, G') => match G' id with
          | some (.row e cs) => if off + k ≤ cs.length then some (G'.upd id (.row e (splice cs off ts))) else none
          | _ => none
        | none => none
      | _ => none
    else none

section
variable {P : Program} {E : En} {w : World} {G : Hp}
theorem VR.row_tree (hR : Rel P E w G) {id n : Nat} {u : Value} (h : VR P E w (.row id n) u) {e : TypeId} {cs : List AV} (hG : G id = some (.row e cs) ∨ G id = some (.frz e cs)) (hlen : n * P.cellsOf e ≤ cs.length) (M : Nat → Prop) (hM : ∀ b, M b → E.M b) (hb : ∀ b, E.φ id = some b → ¬ M b) : TR M w (.sl n (cs.take (n * P.cellsOf e))) u := by
  have hO : (∃ b, E.φ id = some b ∧ ∃ us : List Value, w.heap[b]? = some (.cells us.toArray e (0, 0)) ∧ cs.length ≤ us.length ∧ ∀ (i : Nat) a u, cs[i]? = some a → us[i]? = some u → TR E.M w a u) ∨ (E.N id ∧ cs = []) := by
    rcases hG with hG | hG
    · rcases hR.obj id _ hG rfl with h | ⟨hN, e', he⟩
      · exact .inl h
      · injection he with _ he; exact .inr ⟨hN, he⟩
    · rcases hR.obj id _ hG rfl with h | ⟨hN, e', he⟩
      · exact .inl h
      · cases he
  rcases hO with hO | ⟨hN, rfl⟩
  · obtain ⟨b, hφ, us, h3, h4, h5⟩ := hO
    obtain ⟨cap, e', rfl, hn, hm, hs⟩ := h.row_inv hφ
    by_cases h0 : 0 < (cs.take (n * P.cellsOf e)).length
    · refine .sl (us := us.take (n * P.cellsOf e)) hn h0 (hb b hφ) (by rw [List.length_take, List.length_take]; omega) (fun i x hx => ?_) (fun i c x hc hx => ?_)
      · rw [List.getElem?_take] at hx
        split at hx
        · rw [add_lit, cell_of_cells h3]; simpa using hx
        · simp at hx
      · rw [List.getElem?_take] at hc hx
        split at hc
        · rename_i hi
          rw [if_pos hi] at hx
          exact (h5 i c x hc hx).ext (Ext.refl _ _) (fun b _ h => hM b h)
        · simp at hc
    · rw [List.eq_nil_of_length_eq_zero (Nat.le_zero.1 (Nat.not_lt.1 h0))]
      exact .nil _ hn
  · obtain ⟨rfl, rfl⟩ := h.row_nil hN
    simp only [List.take_nil]
    exact .nil _ (Nat.le_refl _)
end
end Go.Proofs.YtomidniaekeafaaAbs
