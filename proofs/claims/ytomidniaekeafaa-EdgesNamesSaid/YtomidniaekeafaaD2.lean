/- From the abstract weakest precondition to a contract. -/
import Derived.Test.YtomidniaekeafaaD1
namespace Go.Proofs.YtomidniaekeafaaAbs
open Go Go.RowKit

def exp1 (P : Program) (G : Hp) (ids : List Nat) : AV → Option (AV × List Nat)
  | .v x => some (.v x, ids)
  | .sl n cs => some (.sl n cs, ids)
  | .row id n => match G id with
    | some (.row _ _) => if ids.contains id = true then none else some (.row ids.length n, ids ++ [id])
    | some (.frz e cs) => if n * P.cellsOf e ≤ cs.length then some (.sl n (cs.take (n * P.cellsOf e)), ids) else none
    | _ => none
  | _ => none
def expL (P : Program) (G : Hp) : List Nat → List AV → Option (List AV × List Nat)
  | ids, [] => some ([], ids)
  | ids, a :: r => match exp1 P G ids a with
    | some (b, ids1) => match expL P G ids1 r with
      | some (bs, ids2) => some (b :: bs, ids2)
      | none => none
    | none => none
def expA (P : Program) (G : Hp) (ids : List Nat) : AV → Option (AV × List Nat)
  | .agg cs => (expL P G ids cs).map fun r => (.agg r.1, r.2)
  | a => exp1 P G ids a
def expM (P : Program) (G : Hp) : List Nat → List AV → Option (List AV × List Nat)
  | ids, [] => some ([], ids)
  | ids, a :: r => match expA P G ids a with
    | some (b, ids1) => match expM P G ids1 r with
      | some (bs, ids2) => some (b :: bs, ids2)
      | none => none
    | none => none
def expT (P : Program) (G : Hp) : AV → Option (AV × List Nat)
  | .tup vs => (expM P G [] vs).map fun r => (.tup r.1, r.2)
  | a => expA P G [] a
def rowOf (G : Hp) (id : Nat) : TypeId × List AV := match G id with
  | some (.row e cs) => (e, cs)
  | _ => (0, [])
def res1 (P : Program) (s : Sl) (G : Hp) : ResultVar → Option AV
  | .tmp t => some (s t)
  | .cell a t => evLoad P G t (s a)
def resA (P : Program) (fn : Func) (s : Sl) (G : Hp) : Option AV :=
  match fn.results.toList.mapM (res1 P s G) with
  | some [v] => some v
  | some vs => some (.tup vs)
  | none => none
/-- What a function's end says. -/
def Post (P : Program) (fn : Func) (r : AV) (J : Js) (e : Exit) : KS := fun s G _ =>
  (e = .normal ∨ e = .ret) ∧ ∃ v ids, resA P fn s G = some v ∧ expT P G v = some (r, ids) ∧ okT r = true ∧ J = ids.map (rowOf G)
def expE (E : En) (ids : List Nat) : En :=
  { φ := fun k => (ids[k]?).bind E.φ, K := fun k => k < ids.length, W := fun b => ∃ (k id : Nat), ids[k]? = some id ∧ E.φ id = some b, F := E.F, N := fun k => ∃ (id : Nat), ids[k]? = some id ∧ E.N id }
def IdsOK (G : Hp) (ids : List Nat) : Prop := ids.Nodup ∧ ∀ id ∈ ids, ∃ e cs, G id = some (.row e cs)
section
variable {P : Program} {N : Nat} {ops : Array Oper} {s s' : Sl} {G G' : Hp} {nx : Nat} {E1 : En} {w1 w : World} {a : Act} {E : En}
theorem expE_W (hR : Rel P E w G) {ids : List Nat} (hI : IdsOK G ids) : ∀ b, (expE E ids).W b → E.W b := by
  rintro b ⟨k, id, h1, h2⟩
  obtain ⟨e, cs, hG⟩ := hI.2 id (List.mem_of_getElem? h1)
  exact (hR.W b).2 ⟨id, _, h2, hG, rfl⟩
theorem expE_M (hR : Rel P E w G) {ids : List Nat} (hI : IdsOK G ids) : ∀ b, (expE E ids).M b → E.M b := fun b hb => by
  rcases hb with hb | hb
  · exact .inl hb
  · exact .inr (expE_W hR hI b hb)
theorem exp1_ok {ids ids' : List Nat} {x r : AV} (h : exp1 P G ids x = some (r, ids')) (hI : IdsOK G ids) : IdsOK G ids' ∧ ∃ ext, ids' = ids ++ ext := by
  cases x with
  | v x => simp [exp1] at h; obtain ⟨_, rfl⟩ := h; exact ⟨hI, [], by simp⟩
  | sl n cs => simp [exp1] at h; obtain ⟨_, rfl⟩ := h; exact ⟨hI, [], by simp⟩
  | row id n =>
    simp only [exp1] at h
    split at h
    · rename_i e cs hG
      split at h
      · cases h
      · rename_i hc
        simp only [Option.some.injEq, Prod.mk.injEq] at h
        obtain ⟨_, rfl⟩ := h
        refine ⟨⟨?_, fun i hi => ?_⟩, [id], rfl⟩
        · rw [List.nodup_append]
          exact ⟨hI.1, by simp, fun a ha b hb => by simp at hb; subst hb; intro e; subst e; exact hc (by simpa using ha)⟩
        · rcases List.mem_append.1 hi with hi | hi
          · exact hI.2 i hi
          · simp at hi; subst hi; exact ⟨_, _, hG⟩
    · split at h
      · simp only [Option.some.injEq, Prod.mk.injEq] at h; obtain ⟨_, rfl⟩ := h; exact ⟨hI, [], by simp⟩
      · cases h
    · cases h
  | _ => simp [exp1] at h
theorem exp1_sound (hR : Rel P E w G) {ids ids' fin : List Nat} {x r : AV} {u : Value} (h : exp1 P G ids x = some (r, ids')) (hx : VR P E w x u) (hI : IdsOK G fin) (hp : ∃ ext, fin = ids' ++ ext) : VR P (expE E fin) w r u := by
  have hM := expE_M hR hI
  cases x with
  | v x => simp [exp1] at h; obtain ⟨rfl, rfl⟩ := h; obtain ⟨rfl, h1⟩ := hx.v_inv; exact .tree (.v h1)
  | sl n cs => simp [exp1] at h; obtain ⟨rfl, rfl⟩ := h; exact .tree (hx.sl_inv.M_iff hM)
  | row id n =>
    simp only [exp1] at h
    split at h
    · rename_i e cs hG
      split at h
      · cases h
      · simp only [Option.some.injEq, Prod.mk.injEq] at h
        obtain ⟨rfl, rfl⟩ := h
        obtain ⟨ext, rfl⟩ := hp
        have hk : (ids ++ [id] ++ ext)[ids.length]? = some id := by simp
        cases hx with
        | tree h => cases h
        | row hK h1 h2 h3 =>
          refine .row (by show ids.length < (ids ++ [id] ++ ext).length; simp) h1 (fun b hb => h2 b ?_) (fun hN => h3 ?_)
          · have hb' : ((ids ++ [id] ++ ext)[ids.length]?).bind E.φ = some b := hb
            rw [hk] at hb'; exact hb'
          · obtain ⟨id', h4, h5⟩ := hN
            rw [hk] at h4; injection h4 with h4; subst h4; exact h5
    · rename_i e cs hG
      split at h
      · rename_i hl
        simp only [Option.some.injEq, Prod.mk.injEq] at h
        obtain ⟨rfl, rfl⟩ := h
        refine .tree (hx.row_tree hR (.inr hG) hl _ hM fun b hb hm => ?_)
        rcases hm with hm | ⟨k, id', h1, h2⟩
        · exact hR.nF id b hb hm
        · have := hR.inj _ _ _ hb h2
          subst this
          obtain ⟨e', cs', hG'⟩ := hI.2 _ (List.mem_of_getElem? h1)
          rw [hG] at hG'; cases hG'
      · cases h
    · cases h
  | _ => simp [exp1] at h
theorem expL_ok : ∀ {xs rs : List AV} {ids ids' : List Nat}, expL P G ids xs = some (rs, ids') → IdsOK G ids → IdsOK G ids' ∧ (∃ ext, ids' = ids ++ ext) ∧ rs.length = xs.length
  | [], rs, ids, ids', h, hI => by simp [expL] at h; obtain ⟨rfl, rfl⟩ := h; exact ⟨hI, ⟨[], by simp⟩, rfl⟩
  | x :: xs, rs, ids, ids', h, hI => by
    simp only [expL] at h
    split at h
    · rename_i b ids1 h1
      split at h
      · rename_i bs ids2 h2
        simp only [Option.some.injEq, Prod.mk.injEq] at h
        obtain ⟨rfl, rfl⟩ := h
        obtain ⟨i1, e1, rfl⟩ := exp1_ok h1 hI
        obtain ⟨i2, ⟨e2, rfl⟩, l2⟩ := expL_ok h2 i1
        exact ⟨i2, ⟨e1 ++ e2, by simp⟩, by simp [l2]⟩
      · cases h
    · cases h
theorem expL_sound (hR : Rel P E w G) : ∀ {xs rs : List AV} {us : List Value} {ids ids' fin : List Nat}, expL P G ids xs = some (rs, ids') → IdsOK G ids → All2 (VR P E w) xs us → IdsOK G fin → (∃ ext, fin = ids' ++ ext) → All2 (VR P (expE E fin) w) rs us
  | [], rs, us, ids, ids', fin, h, h0, hx, hI, hp => by
    simp [expL] at h; obtain ⟨rfl, rfl⟩ := h
    have : us = [] := List.eq_nil_of_length_eq_zero (by simpa using hx.1)
    subst this; exact .nil
  | x :: xs, rs, us, ids, ids', fin, h, h0, hx, hI, hp => by
    obtain ⟨u, us, rfl, hx1, hx2⟩ := hx.uncons
    simp only [expL] at h
    split at h
    · rename_i b ids1 h1
      split at h
      · rename_i bs ids2 h2
        simp only [Option.some.injEq, Prod.mk.injEq] at h
        obtain ⟨rfl, rfl⟩ := h
        obtain ⟨i1, _⟩ := exp1_ok h1 h0
        obtain ⟨_, ⟨e2, rfl⟩, _⟩ := expL_ok h2 i1
        obtain ⟨ext, rfl⟩ := hp
        exact .cons (exp1_sound hR h1 hx1 hI ⟨e2 ++ ext, by simp⟩) (expL_sound hR h2 i1 hx2 hI ⟨ext, rfl⟩)
      · cases h
    · cases h
theorem expA_ok {ids ids' : List Nat} {x r : AV} (h : expA P G ids x = some (r, ids')) (hI : IdsOK G ids) : IdsOK G ids' ∧ ∃ ext, ids' = ids ++ ext := by
  cases x with
  | agg cs =>
    simp only [expA, Option.map_eq_some_iff, Prod.mk.injEq] at h
    obtain ⟨⟨rs, i2⟩, h1, rfl, rfl⟩ := h
    obtain ⟨i, e, _⟩ := expL_ok h1 hI
    exact ⟨i, e⟩
  | _ => exact exp1_ok (by simpa only [expA] using h) hI
theorem expA_sound (hR : Rel P E w G) {ids ids' fin : List Nat} {x r : AV} {u : Value} (h : expA P G ids x = some (r, ids')) (h0 : IdsOK G ids) (hx : VR P E w x u) (hI : IdsOK G fin) (hp : ∃ ext, fin = ids' ++ ext) : VR P (expE E fin) w r u := by
  cases x with
  | agg cs =>
    simp only [expA, Option.map_eq_some_iff, Prod.mk.injEq] at h
    obtain ⟨⟨rs, i2⟩, h1, rfl, rfl⟩ := h
    obtain ⟨us, rfl, hl, hv, hone⟩ := hx.agg_inv
    have := expL_sound hR h1 h0 ⟨hl, hv⟩ hI hp
    exact .agg this.1 this.2 hone
  | _ => exact exp1_sound hR (by simpa only [expA] using h) hx hI hp
theorem expM_ok : ∀ {xs rs : List AV} {ids ids' : List Nat}, expM P G ids xs = some (rs, ids') → IdsOK G ids → IdsOK G ids' ∧ (∃ ext, ids' = ids ++ ext)
  | [], rs, ids, ids', h, hI => by simp [expM] at h; obtain ⟨rfl, rfl⟩ := h; exact ⟨hI, ⟨[], by simp⟩⟩
  | x :: xs, rs, ids, ids', h, hI => by
    simp only [expM] at h
    split at h
    · rename_i b ids1 h1
      split at h
      · rename_i bs ids2 h2
        simp only [Option.some.injEq, Prod.mk.injEq] at h
        obtain ⟨rfl, rfl⟩ := h
        obtain ⟨i1, e1, rfl⟩ := expA_ok h1 hI
        obtain ⟨i2, ⟨e2, rfl⟩⟩ := expM_ok h2 i1
        exact ⟨i2, ⟨e1 ++ e2, by simp⟩⟩
      · cases h
    · cases h
theorem expM_sound (hR : Rel P E w G) : ∀ {xs rs : List AV} {us : List Value} {ids ids' fin : List Nat}, expM P G ids xs = some (rs, ids') → IdsOK G ids → All2 (VR P E w) xs us → IdsOK G fin → (∃ ext, fin = ids' ++ ext) → All2 (VR P (expE E fin) w) rs us
  | [], rs, us, ids, ids', fin, h, h0, hx, hI, hp => by
    simp [expM] at h; obtain ⟨rfl, rfl⟩ := h
    have : us = [] := List.eq_nil_of_length_eq_zero (by simpa using hx.1)
    subst this; exact .nil
  | x :: xs, rs, us, ids, ids', fin, h, h0, hx, hI, hp => by
    obtain ⟨u, us, rfl, hx1, hx2⟩ := hx.uncons
    simp only [expM] at h
    split at h
    · rename_i b ids1 h1
      split at h
      · rename_i bs ids2 h2
        simp only [Option.some.injEq, Prod.mk.injEq] at h
        obtain ⟨rfl, rfl⟩ := h
        obtain ⟨i1, _⟩ := expA_ok h1 h0
        obtain ⟨_, ⟨e2, rfl⟩⟩ := expM_ok h2 i1
        obtain ⟨ext, rfl⟩ := hp
        exact .cons (expA_sound hR h1 h0 hx1 hI ⟨e2 ++ ext, by simp⟩) (expM_sound hR h2 i1 hx2 hI ⟨ext, rfl⟩)
      · cases h
    · cases h
theorem expT_sound (hR : Rel P E w G) {ids : List Nat} {x r : AV} {u : Value} (h : expT P G x = some (r, ids)) (hx : VR P E w x u) : IdsOK G ids ∧ VR P (expE E ids) w r u := by
  have h0 : IdsOK G [] := ⟨by simp, fun _ h => by simp at h⟩
  cases x with
  | tup vs =>
    simp only [expT, Option.map_eq_some_iff, Prod.mk.injEq] at h
    obtain ⟨⟨rs, i2⟩, h1, rfl, rfl⟩ := h
    obtain ⟨us, rfl, hl, hv⟩ := hx.tup_inv
    obtain ⟨hI, _⟩ := expM_ok h1 h0
    have := expM_sound hR h1 h0 ⟨hl, hv⟩ hI ⟨[], by simp⟩
    exact ⟨hI, .tup this.1 this.2⟩
  | _ =>
    simp only [expT] at h
    have h' := h
    obtain ⟨hI, _⟩ := expA_ok h' h0
    exact ⟨hI, expA_sound hR h' h0 hx hI ⟨[], by simp⟩⟩
theorem ofJ_rows {ids : List Nat} (hI : IdsOK G ids) (k : Nat) : ofJ (ids.map (rowOf G)) k = (ids[k]?).bind G := by
  simp only [ofJ, List.getElem?_map]
  cases h : ids[k]? with
  | none => rfl
  | some id =>
    obtain ⟨e, cs, hG⟩ := hI.2 id (List.mem_of_getElem? h)
    simp [rowOf, hG]
theorem expE_rel (hR : Rel P E w G) {ids : List Nat} (hI : IdsOK G ids) : Rel P (expE E ids) w (ofJ (ids.map (rowOf G))) := by
  have hM := expE_M hR hI
  have get : ∀ {k b}, (expE E ids).φ k = some b → ∃ id, ids[k]? = some id ∧ E.φ id = some b := fun {k b} h => by
    have h' : (ids[k]?).bind E.φ = some b := h
    cases hk : ids[k]? with
    | none => rw [hk] at h'; cases h'
    | some id => rw [hk] at h'; exact ⟨id, rfl, h'⟩
  refine ⟨fun i j b hi hj => ?_, fun i b hi => ?_, fun i b hi => ?_, fun i o hi ha => ?_, fun i => ?_, fun b => ?_, fun i b hi hF => ?_, hR.Flt⟩
  · obtain ⟨x, h1, h2⟩ := get hi
    obtain ⟨y, h3, h4⟩ := get hj
    have := hR.inj _ _ _ h2 h4
    subst this
    exact (List.getElem?_inj (List.getElem?_eq_some_iff.1 h1).1 hI.1).1 (h1.trans h3.symm)
  · obtain ⟨x, h1, h2⟩ := get hi
    obtain ⟨o, h3, h4⟩ := hR.dom _ _ h2
    exact ⟨o, by rw [ofJ_rows hI, h1]; exact h3, h4⟩
  · obtain ⟨x, h1, h2⟩ := get hi
    exact hR.lt _ _ h2
  · rw [ofJ_rows hI] at hi
    cases hk : ids[i]? with
    | none => rw [hk] at hi; cases hi
    | some id =>
      rw [hk] at hi
      obtain ⟨e, cs, hG⟩ := hI.2 id (List.mem_of_getElem? hk)
      have hi' : G id = some o := hi
      rw [hG] at hi'
      injection hi' with hi'
      subst hi'
      rcases hR.obj id _ hG rfl with ⟨b, hb, us, h1, h2, h3⟩ | ⟨hN, h1⟩
      · exact .inl ⟨b, by show (ids[i]?).bind E.φ = some b; rw [hk]; exact hb, us, h1, h2, fun i a u ha hu => (h3 i a u ha hu).M_iff hM⟩
      · exact .inr ⟨⟨id, hk, hN⟩, h1⟩
  · rw [ofJ_rows hI]
    show i < ids.length ↔ _
    constructor
    · intro h
      obtain ⟨e, cs, hG⟩ := hI.2 ids[i] (List.getElem_mem h)
      exact ⟨_, by rw [List.getElem?_eq_getElem h]; exact hG⟩
    · rintro ⟨o, h⟩
      rcases Nat.lt_or_ge i ids.length with h1 | h1
      · exact h1
      · rw [List.getElem?_eq_none h1] at h; cases h
  · constructor
    · rintro ⟨k, id, h1, h2⟩
      obtain ⟨e, cs, hG⟩ := hI.2 id (List.mem_of_getElem? h1)
      exact ⟨k, _, by show (ids[k]?).bind E.φ = some b; rw [h1]; exact h2, by rw [ofJ_rows hI, h1]; exact hG, rfl⟩
    · rintro ⟨k, o, h1, h2, h3⟩
      obtain ⟨x, h4, h5⟩ := get h1
      exact ⟨k, x, h4, h5⟩
  · obtain ⟨x, h1, h2⟩ := get hi
    exact hR.nF _ _ h2 hF
def resV (tmps : Array Value) : ResultVar → Sem Value
  | .tmp t => pure (tmps.getD t undef)
  | .cell x t => do loadVar t (← asAddr (tmps.getD x undef))
theorem results_eq (fn : Func) (tmps : Array Value) : results fn tmps = (do
    let vs ← fn.results.mapM (resV tmps)
    pure (if h : vs.size = 1 then vs[0] else .tuple vs)) := by
  unfold results
  rfl
theorem res1_sound (h : RelAt P N E1 w1 s G a w E) {rv : ResultVar} {v : AV} (hv : res1 P s G rv = some v) :
    ∃ u, ((resV a.tmps rv).run P w = .ok u w) ∧ VR P E w v u := by
  cases rv with
  | tmp t => simp only [res1, Option.some.injEq] at hv; subst hv; exact ⟨_, by simp [resV], h.slots t⟩
  | cell x t =>
    simp only [res1] at hv
    have hs := h.slots x
    obtain ⟨u, h1, h2⟩ := load_sound h.rel hs hv
    refine ⟨u, ?_, h2⟩
    unfold evLoad at hv
    split at hv
    · rename_i b k cs hT hr
      split at hv
      · obtain ⟨ad, had, _⟩ := rd_sound h.rel hs hr (by have := (tyI_spec hT).2.2.1; omega)
        rw [had] at h1
        simp only [resV]
        rw [had]
        simpa [Instr.loadAt, Instr.sureAddr, asAddr] using h1
      · cases hv
    · cases hv
theorem resL_sound (h : RelAt P N E1 w1 s G a w E) : ∀ {rvs : List ResultVar} {vs : List AV}, rvs.mapM (res1 P s G) = some vs →
    ∃ us : List Value, (rvs.mapM (resV a.tmps)).run P w = .ok us w ∧ All2 (VR P E w) vs us
  | [], vs, hv => by simp at hv; subst hv; exact ⟨[], by simp, .nil⟩
  | rv :: rvs, vs, hv => by
    rw [List.mapM_cons] at hv
    cases h1 : res1 P s G rv with
    | none => simp [h1] at hv
    | some v =>
      cases h2 : rvs.mapM (res1 P s G) with
      | none => simp [h1, h2] at hv
      | some vs' =>
        simp [h1, h2] at hv
        subst hv
        obtain ⟨u, hu, hvu⟩ := res1_sound h h1
        obtain ⟨us, hus, hvs⟩ := resL_sound h h2
        refine ⟨u :: us, ?_, .cons hvu hvs⟩
        rw [List.mapM_cons]
        simp [Sem.run_bind, hu, hus]
theorem results_sound {fn : Func} (h : RelAt P N E1 w1 s G a w E) {v : AV} (hv : resA P fn s G = some v) : ∃ u, (results fn a.tmps).run P w = .ok u w ∧ VR P E w v u := by
  unfold resA at hv
  cases hm : fn.results.toList.mapM (res1 P s G) with
  | none => rw [hm] at hv; cases hv
  | some vs =>
    obtain ⟨us, hu, hvs⟩ := resL_sound h hm
    have hrun : (fn.results.mapM (resV a.tmps)).run P w = .ok us.toArray w := by
      rw [Array.mapM_eq_mapM_toList]
      simp [Sem.run_bind, hu]
    rw [hm] at hv
    have hres : (results fn a.tmps).run P w = .ok (if h : us.toArray.size = 1 then us.toArray[0] else .tuple us.toArray) w := by
      rw [results_eq, Sem.run_bind, hrun]
      rfl
    refine ⟨_, hres, ?_⟩
    match vs, us, hvs, hv with
    | [x], [u], hvs, hv => injection hv with hv; subst hv; simp; exact hvs.2 0 _ _ rfl rfl
    | [], [], hvs, hv => injection hv with hv; subst hv; simp; exact .tup (us := []) hvs.1 hvs.2
    | x :: y :: r, p :: q :: t, hvs, hv => injection hv with hv; subst hv; simp; exact .tup (us := p :: q :: t) hvs.1 hvs.2
    | [], u :: us, hvs, hv => exact absurd hvs.1 (by simp)
    | [x], [], hvs, hv => exact absurd hvs.1 (by simp)
    | [x], p :: q :: t, hvs, hv => exact absurd hvs.1 (by simp)
    | x :: y :: r, [], hvs, hv => exact absurd hvs.1 (by simp)
    | x :: y :: r, [p], hvs, hv => exact absurd hvs.1 (by simp)
def argSl (args : List AV) : Sl := fun t => args.getD t .und
theorem start_slots {fn : Func} {args : List AV} {us : List Value} (hx : All2 (VR P E w) args us) (hN : args.length ≤ fn.ntmps) (t : Nat) : VR P E w (argSl args t) ((us.toArray ++ Array.replicate (fn.ntmps - us.toArray.size) undef).getD t undef) := by
  have hl := hx.1
  show VR P E w (args.getD t .und) _
  rw [Array.getD_eq_getD_getElem?, Array.getElem?_append, List.getD_eq_getElem?_getD]
  by_cases ht : t < args.length
  · rw [if_pos (by simp; omega)]
    simp only [List.getElem?_toArray]
    have h1 := List.getElem?_eq_getElem ht
    have h2 := List.getElem?_eq_getElem (show t < us.length by omega)
    rw [h1, h2]
    exact hx.2 t _ _ h1 h2
  · rw [if_neg (by simp; omega), List.getElem?_eq_none (by omega), Array.getElem?_replicate]
    split <;> exact .und
/-- A contract from the abstract weakest precondition of a body. -/
theorem callsOK {f : FuncId} {fn : Func} {c : Code} {args : List AV} {r : AV} {J : Js} (hm : P.follows .mixedOrders = true) (hent : ∀ args w, (callFunc f args).run P w = .ok (.enter f args) w) (hfn : P.funcs[f]? = some fn) (hb : fn.body = some c) (hN : args.length ≤ fn.ntmps)
    (h : AW P fn.ntmps c (Post P fn r J) (argSl args) (fun _ => none) 0) (hr : okT r = true) : CallsOK P f args r J := by
  refine ⟨hr, hent, fun w us F hF hx => calls_of_wp hfn hb (aw_sound (E1 := En.zero F) (w1 := w) (E := En.zero F) hm c h (fun _ _ => rfl) ⟨start_slots hx hN, ?_, Ext.refl _ _, En.Le.refl _ _, rfl, ?_⟩ ?_)⟩
  · exact ⟨fun i j b h => (by cases h), fun i b h => (by cases h), fun i b h => (by cases h), fun i o h => (by cases h), fun i => ⟨fun h => h.elim, fun ⟨_, h⟩ => (by cases h)⟩, fun b => ⟨fun h => h.elim, fun ⟨_, _, h, _⟩ => (by cases h)⟩, fun i b h => (by cases h), hF⟩
  · have := hx.1
    simp; omega
  · intro e s' G' nx' a' w' E' hP _ hrel
    obtain ⟨he, v, ids, h1, h2, h3, rfl⟩ := hP
    obtain ⟨u, hu, hvu⟩ := results_sound hrel h1
    obtain ⟨hI, hvr⟩ := expT_sound hrel.rel h2 hvu
    have hbelow : Below w.heap.size w w' := hrel.ext.below fun b _ h => h
    have hge : ∀ k b, (expE E' ids).φ k = some b → w.heap.size ≤ b := fun k b hk => by
      have hW : E'.W b := expE_W hrel.rel hI b ⟨k, by
        have h' : (ids[k]?).bind E'.φ = some b := hk
        cases h4 : ids[k]? with
        | none => rw [h4] at h'; cases h'
        | some id => rw [h4] at h'; exact ⟨id, rfl, h'⟩⟩
      rcases Nat.lt_or_ge b w.heap.size with hlt | hge
      · exact (hrel.le.W b hlt hW).elim
      · exact hge
    rcases he with rfl | rfl <;> exact ⟨hrel.defers, u, hu, u, _, rfl, hvr, expE_rel hrel.rel hI, hrel.le.F, hbelow, hge⟩
/-- A call upon the caller's own heap. -/
theorem inlOK {f : FuncId} {fn : Func} {c : Code} {args : List AV} {v : AV} {nx : Nat} (hm : P.follows .mixedOrders = true) (hent : ∀ args w, (callFunc f args).run P w = .ok (.enter f args) w) (hfn : P.funcs[f]? = some fn) (hb : fn.body = some c) (hN : args.length ≤ fn.ntmps)
    (hf : FreshFrom G nx) (h : AW P fn.ntmps c (fun e s' G'' _ => (e = .normal ∨ e = .ret) ∧ resA P fn s' G'' = some v ∧ G'' = G') (argSl args) G nx) : InlOK P f args G v G' := by
  refine ⟨hent, fun E w us hR hx => calls_of_wp hfn hb (aw_sound (E1 := E) (w1 := w) (E := E) hm c h hf ⟨start_slots hx hN, hR, Ext.refl _ _, En.Le.refl _ _, rfl, ?_⟩ ?_)⟩
  · have := hx.1
    simp; omega
  · intro e s' G'' nx' a' w' E' hP _ hrel
    obtain ⟨he, h1, rfl⟩ := hP
    obtain ⟨u, hu, hvu⟩ := results_sound hrel h1
    rcases he with rfl | rfl <;> exact ⟨hrel.defers, u, hu, u, E', rfl, hvu, hrel.rel, hrel.ext, hrel.le⟩
end
end Go.Proofs.YtomidniaekeafaaAbs
