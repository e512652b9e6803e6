/- Reads and makes: what stays. -/
import Derived.Test.YtomidniaekeafaaC6
namespace Go.Proofs.YtomidniaekeafaaAbs
open Go Go.RowKit

def rootA : AV → Option Nat
  | .ptr id _ => some id
  | .row id _ => some id
  | .mp id => some id
  | .ea b _ => rootA b
  | _ => none
/-- The same to who reads it. -/
def SameO (x y : Option AObj) : Prop := x = y ∨ (∃ e cs, x = some (.row e cs) ∧ y = some (.frz e cs)) ∨ (∃ e cs, x = some (.frz e cs) ∧ y = some (.row e cs))
def SameAt (G G2 : Hp) (a : AV) : Prop := ∀ id o, rootA a = some id → G id = some o → SameO (some o) (G2 id)
section
variable {P : Program} {s s' : Sl} {G G' G2 : Hp} {nx : Nat}
theorem Grows.refl (G : Hp) : Grows G G := fun _ _ h => .inl h
theorem Grows.trans {G3 : Hp} (h : Grows G G2) (k : Grows G2 G3) : Grows G G3 := fun id o ho => by
  rcases h id o ho with h1 | ⟨e, cs, rfl, h1⟩
  · exact k id o h1
  · rcases k id _ h1 with h2 | ⟨e', cs', h2, _⟩
    · exact .inr ⟨e, cs, rfl, h2⟩
    · cases h2
theorem Grows.at (h : Grows G G2) (a : AV) : SameAt G G2 a := fun id o _ hG => by
  rcases h id o hG with h | ⟨e, cs, rfl, h⟩
  · exact .inl h.symm
  · exact .inr (.inl ⟨e, cs, rfl, h⟩)
theorem Grows.back (h : Grows G G2) {a : AV} (hK : ∀ id, rootA a = some id → ∃ o, G id = some o) : SameAt G2 G a := fun id o hr hG => by
  obtain ⟨o', ho'⟩ := hK id hr
  rcases h id o' ho' with h | ⟨e, cs, rfl, h⟩
  · rw [h] at hG; exact .inl (by rw [ho', hG])
  · rw [h] at hG; injection hG with hG; subst hG; exact .inr (.inr ⟨e, cs, rfl, ho'⟩)
theorem Grows.upd (hn : G nx = none) (o : AObj) : Grows G (G.upd nx o) := fun id o' h => .inl (by rw [Hp.upd_ne _ _ (fun e => by rw [e, hn] at h; cases h)]; exact h)
theorem Grows.addJ {J : Js} (hn : ∀ j, nx ≤ j ∧ j - nx < J.length → G j = none) : Grows G (addJ G nx J) := fun id o h => .inl (by
  show (if nx ≤ id ∧ id - nx < J.length then ofJ J (id - nx) else G id) = some o
  rw [if_neg (fun hc => by rw [hn id hc] at h; cases h)]; exact h)
theorem Grows.frz (a : AV) : Grows G (frzOf G a) := fun id o h => by
  cases a <;> try exact .inl h
  rename_i id' n
  simp only [frzOf]
  cases hG : G id' with
  | none => exact .inl h
  | some o' =>
    cases o' <;> try exact .inl h
    rename_i e cs
    cases cs with
    | nil => exact .inl h
    | cons c cs =>
      by_cases hi : id = id'
      · subst hi; rw [h] at hG; injection hG with hG; subst hG
        exact .inr ⟨_, _, rfl, Hp.upd_self _ _ _⟩
      · exact .inl (by show G.upd id' _ id = _; rw [Hp.upd_ne _ _ hi]; exact h)
theorem Grows.trees : ∀ {as ts : List AV} {G G' : Hp}, treesOf P G as = some (ts, G') → Grows G G'
  | [], ts, G, G', h => by simp [treesOf] at h; rw [← h.2]; exact .refl _
  | a :: as, ts, G, G', h => by
    simp only [treesOf] at h
    split at h
    · rename_i t ts' G1 h1 h2
      simp only [Option.some.injEq, Prod.mk.injEq] at h
      obtain ⟨_, rfl⟩ := h
      exact (Grows.frz a).trans (Grows.trees h2)
    · simp at h
theorem Grows.args : ∀ {as ts : List AV} {G G' : Hp}, argsOf P G as = some (ts, G') → Grows G G'
  | [], ts, G, G', h => by simp [argsOf] at h; rw [← h.2]; exact .refl _
  | a :: as, ts, G, G', h => by
    cases a with
    | agg cs =>
      simp only [argsOf] at h
      split at h
      · rename_i ts1 G1 h1
        split at h
        · rename_i rs G2 h2
          simp only [Option.some.injEq, Prod.mk.injEq] at h
          obtain ⟨_, rfl⟩ := h
          exact (Grows.trees h1).trans (Grows.args h2)
        · simp at h
      · simp at h
    | _ =>
      simp only [argsOf] at h
      split at h
      · rename_i t rs G2 h1 h2
        simp only [Option.some.injEq, Prod.mk.injEq] at h
        obtain ⟨_, rfl⟩ := h
        exact (Grows.frz _).trans (Grows.args h2)
      · simp at h
theorem args_none : ∀ {as ts : List AV} {G G' : Hp} {i : Nat}, argsOf P G as = some (ts, G') → G i = none → G' i = none
  | [], ts, G, G', i, h, hn => by simp [argsOf] at h; rw [← h.2]; exact hn
  | a :: as, ts, G, G', i, h, hn => by
    cases a with
    | agg cs =>
      simp only [argsOf] at h
      split at h
      · rename_i ts1 G1 h1
        split at h
        · rename_i rs G2 h2
          simp only [Option.some.injEq, Prod.mk.injEq] at h
          obtain ⟨_, rfl⟩ := h
          exact args_none h2 (treesOf_none h1 hn)
        · simp at h
      · simp at h
    | _ =>
      simp only [argsOf] at h
      split at h
      · rename_i t rs G2 h1 h2
        simp only [Option.some.injEq, Prod.mk.injEq] at h
        obtain ⟨_, rfl⟩ := h
        exact args_none h2 (frzOf_none hn)
      · simp at h
theorem rd_same {a : AV} {cs : List AV} (hs : SameAt G G2 a) (h : rdAt G a = some cs) : rdAt G2 a = some cs := by
  cases a with
  | ptr id off =>
    simp only [rdAt] at h ⊢
    cases hG : G id with
    | none => simp [hG] at h
    | some o =>
      cases o <;> simp [hG] at h
      rcases hs id _ rfl hG with h1 | ⟨e, cs, h1, _⟩ | ⟨e, cs, h1, _⟩
      · rw [← h1]; simp [h]
      · cases h1
      · cases h1
  | ea b off =>
    cases b with
    | sl n cs => exact h
    | row id n =>
      simp only [rdAt] at h ⊢
      cases hG : G id with
      | none => simp [hG] at h
      | some o =>
        cases o <;> simp [hG] at h
        all_goals
          rcases hs id _ rfl hG with h1 | ⟨e, cs, h1, h2⟩ | ⟨e, cs, h1, h2⟩
          · rw [← h1]; simp [h]
          · cases h1 <;> (rw [h2]; simp [h])
          · cases h1 <;> (rw [h2]; simp [h])
    | _ => simp [rdAt] at h
  | cp cs off => exact h
  | _ => simp [rdAt] at h
theorem adr_same {a : AV} (hs : SameAt G G2 a) (h : adr G a = true) : adr G2 a = true := by
  unfold adr at h ⊢
  split at h
  · rename_i hr; rw [rd_same hs hr]
  · simp at h
theorem adr_false {a : AV} (hs : SameAt G G2 a) (hs2 : SameAt G2 G a) : adr G2 a = adr G a := by
  cases h : adr G a with
  | true => exact adr_same hs h
  | false =>
    cases h2 : adr G2 a with
    | false => rfl
    | true => rw [adr_same hs2 h2] at h; cases h
theorem lenX_same {a : AV} {n : Nat} (hs : SameAt G G2 a) (hl : lenX G a = some n) : lenX G2 a = some n := by
  cases a <;> simp [lenX] at hl ⊢
  · exact hl
  · rename_i id m
    cases hG : G id with
    | none => simp [hG] at hl
    | some ob =>
      simp [hG] at hl
      rcases hs id ob rfl hG with h3 | ⟨e, cs, h3, h4⟩ | ⟨e, cs, h3, h4⟩
      · rw [← h3]; simp [hl]
      · injection h3 with h3; subst h3; rw [h4]; simp [AObj.alive, hl.2]
      · injection h3 with h3; subst h3; rw [h4]; simp [AObj.alive, hl.2]
theorem lenC_same {t : TypeId} {a v : AV} (hs : SameAt G G2 a) (hl : lenC P G t a = some v) : lenC P G2 t a = some v := by
  cases a with
  | row id n =>
    simp only [lenC] at hl ⊢
    split at hl
    · rename_i h1 h2
      rw [lenX_same hs h1, h2]; exact hl
    · cases hl
  | v x => cases x <;> exact hl
  | _ => exact hl
/-- Reads: the same where what they look at is the same. -/
theorem evC_read {o : Oper} (hc : clsOf o = 1) {val : AV} {nx' : Nat} (h : evC P s G nx o = some (val, G', nx')) :
    G' = G ∧ ∀ G2 nx2, (∀ x ∈ o.op.operands, SameAt G G2 (evX s x)) → evC P s G2 nx2 o = some (val, G2, nx2) := by
  unfold clsOf at hc
  split at hc <;> try (cases hc; done)
  · rename_i t a hop
    simp only [evC, hop, evOp, Option.map_eq_some_iff, Prod.mk.injEq] at h
    obtain ⟨v, hv, rfl, rfl, rfl⟩ := h
    refine ⟨rfl, fun G2 nx2 hs => ?_⟩
    have : evLoad P G2 t (evX s a) = some v := by
      unfold evLoad at hv ⊢
      split at hv
      · rename_i h1 h2
        rw [h1, rd_same (hs a (by simp [hop, Op.operands])) h2]; exact hv
      · cases hv
    simp only [evC, hop, evOp, this, Option.map_some]
  · rename_i x hop
    simp only [evC, hop, evOp] at h ⊢
    split at h
    · rename_i hA
      simp only [Option.some.injEq, Prod.mk.injEq] at h
      obtain ⟨rfl, rfl, rfl⟩ := h
      exact ⟨rfl, fun G2 nx2 hs => by rw [if_pos (adr_same (hs x (by simp [hop, Op.operands])) hA)]⟩
    · split at h
      · rename_i f cs he
        simp only [Option.some.injEq, Prod.mk.injEq] at h
        obtain ⟨rfl, rfl, rfl⟩ := h
        exact ⟨rfl, fun G2 nx2 hs => by simp [he, adr, rdAt]⟩
      · cases h
  · rename_i t x f hop
    simp only [evC, hop, evOp] at h ⊢
    split at h
    · rename_i off b k hf
      split at h
      · rename_i hA
        split at h
        all_goals first
          | (cases h; done)
          | (simp only [Option.some.injEq, Prod.mk.injEq] at h
             obtain ⟨rfl, rfl, rfl⟩ := h
             refine ⟨rfl, fun G2 nx2 hs => ?_⟩
             have := adr_same (hs x (by simp [hop, Op.operands])) hA
             simp_all)
      · cases h
    · cases h
  · rename_i t x i hop
    simp only [evC, hop, evOp, Option.map_eq_some_iff, Prod.mk.injEq] at h
    obtain ⟨v, hv, rfl, rfl, rfl⟩ := h
    refine ⟨rfl, fun G2 nx2 hs => ?_⟩
    have hs1 := hs x (by simp [hop, Op.operands])
    have : evIndexAddr P G2 t (evX s x) (evX s i) = some v := by
      generalize evX s x = a at hv hs1
      unfold evIndexAddr at hv ⊢
      cases hel : elI P t with
      | none => simp [hel] at hv
      | some q =>
        obtain ⟨e, k, by', z⟩ := q
        cases hi : evX s i with
        | v y =>
          cases y <;> simp [hel, hi] at hv ⊢
          cases a <;> simp at hv ⊢
          · exact hv
          · rename_i id m
            cases hG : G id with
            | none => simp [hG] at hv
            | some ob =>
              simp [hG] at hv
              rcases hs1 id ob rfl hG with h3 | ⟨e, cs, h3, h4⟩ | ⟨e, cs, h3, h4⟩
              · rw [← h3]; simp [hv]
              · injection h3 with h3; subst h3; rw [h4]; simpa [AObj.alive] using hv
              · injection h3 with h3; subst h3; rw [h4]; simpa [AObj.alive] using hv
        | _ => simp [hel, hi] at hv
    simp only [evC, hop, evOp, this, Option.map_some]
  · rename_i t x k ok hop
    simp only [evC, hop, Option.map_eq_some_iff, Prod.mk.injEq] at h
    obtain ⟨v, hv, rfl, rfl, rfl⟩ := h
    refine ⟨rfl, fun G2 nx2 hs => ?_⟩
    have hs1 := hs x (by simp [hop, Op.operands])
    have : evLookup P G2 t (evX s x) (evX s k) ok = some v := by
      generalize evX s x = a at hv hs1
      unfold evLookup at hv ⊢
      cases hm : mapI P t with
      | none => simp [hm] at hv
      | some q =>
        obtain ⟨d, elem⟩ := q
        cases a <;> simp [hm] at hv ⊢
        rename_i id
        cases hk : evX s k <;> simp [hk] at hv ⊢
        cases hG : G id with
        | none => simp [hG] at hv
        | some ob =>
          rcases hs1 id ob rfl hG with h3 | ⟨e, cs, h3, h4⟩ | ⟨e, cs, h3, h4⟩
          · rw [← h3]; rw [hG] at hv; exact hv
          · injection h3 with h3; subst h3; simp [hG] at hv
          · injection h3 with h3; subst h3; simp [hG] at hv
    simp only [evC, hop, this, Option.map_some]
  · rename_i c hop
    split at hc <;> try (cases hc; done)
    rename_i hcal
    simp only [evC, hop, hcal] at h ⊢
    split at h
    · rename_i x t hx ht
      have hs1 : ∀ G2, (∀ y ∈ (Op.call c).operands, SameAt G G2 (evX s y)) → SameAt G G2 (evX s x) := fun G2 hs => hs x (by simp only [Op.operands, Call.operands, Array.mem_append]; exact .inr (by rw [toA hx]; simp))
      simp only [Option.map_eq_some_iff, Prod.mk.injEq] at h
      obtain ⟨v, hv, rfl, rfl, rfl⟩ := h
      refine ⟨rfl, fun G2 nx2 hs => ?_⟩
      rw [show lenC P G2 t (evX s x) = some v from lenC_same (hs1 G2 hs) hv, Option.map_some]
    · cases h
/-- Makes: nothing goes away. -/
theorem evC_make {o : Oper} (hc : clsOf o = 2) {val : AV} {nx' : Nat} (hn : G nx = none) (h : evC P s G nx o = some (val, G', nx')) : Grows G G' := by
  unfold clsOf at hc
  split at hc <;> try (cases hc; done)
  · rename_i hop
    simp only [evC, hop] at h
    split at h
    · simp only [Option.some.injEq, Prod.mk.injEq] at h
      obtain ⟨_, rfl, _⟩ := h
      exact .upd hn _
    · cases h
  · rename_i t hop
    simp only [evC, hop, evOp] at h
    split at h
    · simp only [Option.some.injEq, Prod.mk.injEq] at h
      obtain ⟨_, rfl, _⟩ := h
      exact .upd hn _
    · cases h
  · rename_i t x hop
    simp only [evC, hop, evOp] at h
    split at h
    · simp only [Option.some.injEq, Prod.mk.injEq] at h
      obtain ⟨_, rfl, _⟩ := h
      exact .upd hn _
    · cases h
  · rename_i t n ps hop
    simp only [evC, hop, evOp] at h
    split at h
    · split at h
      · split at h
        · rename_i ts G1 ht
          simp only [Option.some.injEq, Prod.mk.injEq] at h
          obtain ⟨_, rfl, _⟩ := h
          exact (Grows.trees ht).trans (.upd (treesOf_none ht hn) _)
        · cases h
      · cases h
    · cases h
  · rename_i t r hop
    cases r with
    | none =>
      simp only [evC, hop] at h
      split at h
      · simp only [Option.some.injEq, Prod.mk.injEq] at h
        obtain ⟨_, rfl, _⟩ := h
        exact .upd hn _
      · cases h
    | some r =>
      simp only [evC, hop, evOp] at h
      cases h
  · rename_i c hop
    split at hc <;> try (cases hc; done)
    rename_i f hcal
    simp only [evC, hop, hcal] at h
    cases h
/-- Ids that are not there are not there behind it, but its own. -/
theorem evC_none {o : Oper} {val : AV} {nx' : Nat} (h : evC P s G nx o = some (val, G', nx')) : (nx' = nx ∧ ∀ i, G i = none → G' i = none) ∨ (nx' = nx + 1 ∧ ∀ i, i ≠ nx → G i = none → G' i = none) := by
  have up : ∀ {G : Hp} {x : AObj}, ∀ i, i ≠ nx → G i = none → G.upd nx x i = none := fun i hi hn => by rw [Hp.upd_ne _ _ hi]; exact hn
  unfold evC at h
  split at h
  · split at h
    · split at h
      · simp only [Option.map_eq_some_iff, Prod.mk.injEq] at h; obtain ⟨_, _, _, rfl, rfl⟩ := h; exact .inl ⟨rfl, fun _ h => h⟩
      · cases h
    · split at h
      · split at h
        · unfold evAppend at h
          split at h
          · cases h
          · split at h
            · rename_i n cs id m ms hb hs
              split at h
              · simp only [Option.some.injEq, Prod.mk.injEq] at h; obtain ⟨_, rfl, rfl⟩ := h
                refine .inr ⟨rfl, fun i hi hn => up i hi ?_⟩
                cases id with
                | none => exact hn
                | some j =>
                  unfold baseOf at hb
                  split at hb
                  · cases hb
                  · split at hb
                    · rename_i e' cs' hG
                      split at hb
                      · simp only [Option.some.injEq, Prod.mk.injEq] at hb
                        obtain ⟨_, _, rfl⟩ := hb
                        exact (Hp.upd_ne _ _ (fun e => by rw [e, hG] at hn; cases hn)).trans hn
                      · cases hb
                    · cases hb
                  · cases hb
              · cases h
            · cases h
        · cases h
      · cases h
    · cases h
  · split at h
    · simp only [Option.some.injEq, Prod.mk.injEq] at h; obtain ⟨_, rfl, rfl⟩ := h; exact .inr ⟨rfl, fun i hi hn => up i hi hn⟩
    · cases h
  · split at h
    · simp only [Option.some.injEq, Prod.mk.injEq] at h; obtain ⟨_, rfl, rfl⟩ := h; exact .inl ⟨rfl, fun _ h => h⟩
    · simp only [evOp] at h
      split at h
      · simp only [Option.map_eq_some_iff, Prod.mk.injEq] at h; obtain ⟨_, _, _, rfl, rfl⟩ := h; exact .inl ⟨rfl, fun _ h => h⟩
      · cases h
  · split at h
    · simp only [Option.some.injEq, Prod.mk.injEq] at h; obtain ⟨_, rfl, rfl⟩ := h; exact .inr ⟨rfl, fun i hi hn => up i hi hn⟩
    · cases h
  · simp only [Option.map_eq_some_iff, Prod.mk.injEq] at h; obtain ⟨_, _, _, rfl, rfl⟩ := h; exact .inl ⟨rfl, fun _ h => h⟩
  · simp only [Option.map_eq_some_iff, Prod.mk.injEq] at h
    obtain ⟨G1, hv, _, rfl, rfl⟩ := h
    refine .inl ⟨rfl, fun i hn => ?_⟩
    unfold evMapUpdate at hv
    repeat' split at hv
    all_goals first
      | (cases hv; done)
      | (rename_i hG _ _ _; injection hv with hv; subst hv; rw [Hp.upd_ne _ _ (fun e => by simp_all)]; exact hn)
  · generalize o.op = op at h
    cases op <;> simp only [evOp] at h <;> try (cases h; done)
    case store t a v =>
      simp only [Option.map_eq_some_iff, Prod.mk.injEq] at h
      obtain ⟨_, hv, _, rfl, rfl⟩ := h
      exact .inl ⟨rfl, fun i hn => evStore_none hv hn⟩
    case buildSlice t n ps =>
      split at h
      · split at h
        · split at h
          · rename_i ts G1 ht
            simp only [Option.some.injEq, Prod.mk.injEq] at h
            obtain ⟨_, rfl, rfl⟩ := h
            exact .inr ⟨rfl, fun i hi hn => up i hi (treesOf_none ht hn)⟩
          · cases h
        · cases h
      · cases h
    case slice t x lo hi mx =>
      cases mx <;> simp only [evOp] at h <;> try (cases h; done)
      simp only [Option.map_eq_some_iff, Prod.mk.injEq] at h
      obtain ⟨r, hr, _, rfl, rfl⟩ := h
      refine .inl ⟨rfl, fun i hn => ?_⟩
      unfold evSlice at hr
      repeat' split at hr
      all_goals first
        | (cases hr; done)
        | (injection hr with hr; subst hr; first | exact hn | exact frzOf_none hn)
    case makeFunc fn first caps =>
      cases fn <;> simp only [evOp] at h <;> try (cases h; done)
      split at h
      · simp only [Option.some.injEq, Prod.mk.injEq] at h; obtain ⟨_, rfl, rfl⟩ := h; exact .inl ⟨rfl, fun _ h => h⟩
      · cases h
    all_goals
      (repeat' split at h)
      all_goals first
        | (cases h; done)
        | (simp only [Option.some.injEq, Prod.mk.injEq] at h; obtain ⟨_, rfl, rfl⟩ := h; first | exact .inl ⟨rfl, fun _ h => h⟩ | exact .inr ⟨rfl, fun i hi hn => up i hi hn⟩)
        | (simp only [Option.map_eq_some_iff, Prod.mk.injEq] at h; obtain ⟨_, _, _, rfl, rfl⟩ := h; exact .inl ⟨rfl, fun _ h => h⟩)
end
end Go.Proofs.YtomidniaekeafaaAbs
