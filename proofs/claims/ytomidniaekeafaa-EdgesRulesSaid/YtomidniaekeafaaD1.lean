/- The abstract weakest precondition. -/
import Derived.Test.YtomidniaekeafaaC9
namespace Go.Proofs.YtomidniaekeafaaAbs
open Go Go.RowKit

abbrev KS := Sl → Hp → Nat → Prop
def FreshFrom (G : Hp) (nx : Nat) : Prop := ∀ i, nx ≤ i → G i = none
/-- A call: by its contract upon trees, or upon the caller's own heap. -/
def ACall (P : Program) (f : FuncId) (as : List AV) (cls : Nat) (K : AV → Hp → Nat → Prop) (G : Hp) (nx : Nat) : Prop :=
  (∃ ts r, seesA P G as = some ts ∧ CallsOK P f ts r [] ∧ flatT r = true ∧ K r G nx) ∨
  (∃ ts G1 r J, argsOf P G as = some (ts, G1) ∧ CallsOK P f ts r J ∧ K (shiftT nx r) (addJ G1 nx J) (nx + J.length)) ∨
  (∃ v G' nx', (FreshFrom G nx → InlOK P f as G v G' ∧ (cls = 3 ∨ Grows G G') ∧ FreshFrom G' nx') ∧ K v G' nx')
/-- What comes behind a call. -/
def thenK (K : KS) (s : Sl) (d : Option Tmp) : AV → Hp → Nat → Prop := fun v G' nx' => K (s.put d v) G' nx'
def AStep (P : Program) (N : Nat) (ops : Array Oper) (o : Oper) (K : KS) (s : Sl) (G : Hp) (nx : Nat) : Prop :=
  dstOK N o = true ∧ match wantA ops o s with
  | some true => (match callA s o with
     | some (f, as) => ACall P f as (clsOf o) (thenK K s o.dst) G nx
     | none => match evC P s G nx o with
        | some (v, G', nx') => K (s.put o.dst v) G' nx'
        | none => False)
  | some false => K (s.put o.dst .und) G nx
  | none => False
def AOps (P : Program) (N : Nat) (ops : Array Oper) : List Oper → KS → KS
  | [], K => K
  | o :: os, K => AStep P N ops o (AOps P N ops os K)
def AW (P : Program) (N : Nat) : Code → (Exit → KS) → KS
  | .skip, K => K .normal
  | .label _, K => K .normal
  | .region _ ops d, K => fun s G nx => (d = true → okDraw ops = true) ∧ AOps P N ops ops.toList (K .normal) s G nx
  | .seq a b, K => AW P N a (fun e => match e with
      | .normal => AW P N b K
      | e => K e)
  | .cond c a b, K => fun s G nx => (∃ t, evX s c = .v (.bool t) ∧ (if t = true then AW P N a K s G nx else AW P N b K s G nx)) ∨ (evX s c = .bl ∧ AW P N a K s G nx ∧ AW P N b K s G nx)
  | .block id a, K => AW P N a (fun e => match e with
      | .exit id' => if id' = id then K .normal else K (.exit id')
      | e => K e)
  | .loop a, K => fun s G nx => ∃ (I : KS) (μ : Sl → Hp → Nat → Nat), I s G nx ∧ ∀ s G nx, FreshFrom G nx → I s G nx → AW P N a (fun e s' G' nx' => match e with
      | .normal => I s' G' nx' ∧ μ s' G' nx' < μ s G nx
      | e => K e s' G' nx') s G nx
  | .exit id, K => K (.exit id)
  | .goto l, K => K (.goto l)
  | .ret, K => K .ret
  | _, _ => fun _ _ _ => False
section
variable {P : Program} {N : Nat} {ops : Array Oper} {s s' : Sl} {G G' : Hp} {nx : Nat} {E1 : En} {w1 w : World} {a : Act} {E : En}
theorem FreshFrom.fin (h : FreshFrom G nx) : Fin G := ⟨nx, h⟩
theorem addJ_fresh {J : Js} (h : FreshFrom G nx) : FreshFrom (addJ G nx J) (nx + J.length) := fun i hi => by
  show (if nx ≤ i ∧ i - nx < J.length then ofJ J (i - nx) else G i) = none
  rw [if_neg (by omega)]; exact h i (by omega)
theorem astep_step {i : Nat} {o : Oper} {K : KS} (hi : ops[i]? = some o) (hf : FreshFrom G nx) (h : AStep P N ops o K s G nx) : ∃ s' G' nx', Step P N ops i s G s' G' ∧ K s' G' nx' ∧ FreshFrom G' nx' := by
  obtain ⟨hd, h⟩ := h
  split at h
  · rename_i hw
    split at h
    · rename_i f as hc
      rcases h with ⟨ts, r, ha, hk, h1, h⟩ | ⟨ts, G1, r, J, ha, hk, h⟩ | ⟨v, G', nx', hk, h⟩
      · exact ⟨_, _, _, .keep hi hd hw hc ha hk h1, h, hf⟩
      · have hf1 : FreshFrom G1 nx := fun i hi => args_none ha (hf i hi)
        exact ⟨_, _, _, .call hi hd hw hc ha (fun j hj => hf j hj.1) hk, h, addJ_fresh hf1⟩
      · obtain ⟨hk, hg, hfr⟩ := hk hf
        exact ⟨_, _, _, .inl hi hd hw hc hk hg (fun _ => hfr.fin), h, hfr⟩
    · split at h
      · rename_i v G' nx' he
        refine ⟨_, _, _, .op hi hd hw (hf nx (Nat.le_refl _)) he, h, ?_⟩
        rcases evC_none he with ⟨rfl, h2⟩ | ⟨rfl, h2⟩
        · exact fun i hi => h2 i (hf i hi)
        · exact fun i hi => h2 i (by omega) (hf i (by omega))
      · exact h.elim
  · rename_i hw
    exact ⟨_, _, _, .off hi hd hw, h, hf⟩
  · exact h.elim
theorem aops_runs {K : KS} : ∀ (os : List Oper) (k : Nat) {s : Sl} {G : Hp} {nx : Nat}, os = ops.toList.drop k → FreshFrom G nx → AOps P N ops os K s G nx → ∃ s' G' nx', Runs P N ops (List.range' k os.length) s G s' G' ∧ K s' G' nx' ∧ FreshFrom G' nx'
  | [], k, s, G, nx, _, hf, h => ⟨_, _, _, .nil, h, hf⟩
  | o :: os, k, s, G, nx, hk, hf, h => by
    have hi : ops[k]? = some o := by
      have : (ops.toList.drop k)[0]? = some o := by rw [← hk]; rfl
      rw [List.getElem?_drop] at this
      simpa using this
    have hk2 : os = ops.toList.drop (k + 1) := by
      have : (ops.toList.drop k).tail = os := by rw [← hk]; rfl
      rw [← this, List.tail_drop]
    obtain ⟨s1, G1, nx1, h1, h2, hf1⟩ := astep_step hi hf h
    obtain ⟨s2, G2, nx2, h3, h4, hf2⟩ := aops_runs os (k + 1) hk2 hf1 h2
    exact ⟨s2, G2, nx2, .cons h1 h3, h4, hf2⟩
theorem region_aw {id : Nat} {d : Bool} {K : KS} {Q : Exit → Act → World → Prop} (hm : P.follows .mixedOrders = true) (hd : d = true → okDraw ops = true) (h : AOps P N ops ops.toList K s G nx) (hf : FreshFrom G nx) (hr : RelAt P N E1 w1 s G a w E)
    (hQ : ∀ s' G' nx' a' w' E', K s' G' nx' → FreshFrom G' nx' → RelAt P N E1 w1 s' G' a' w' E' → Q .normal a' w') : (Code.region id ops d).wp P Q a w := by
  obtain ⟨s', G', nx', h1, h2, hf'⟩ := aops_runs ops.toList 0 (by simp) hf h
  have h1' : Runs P N ops (List.range ops.size) s G s' G' := by
    rw [List.range_eq_range']; simpa using h1
  cases d with
  | false => exact region_wp h1' hr fun a' w' E' h' => hQ _ _ _ _ _ _ h2 hf' h'
  | true => exact drawn_wp hm (hd rfl) h1' hf.fin hr fun a' w' E' h' => hQ _ _ _ _ _ _ h2 hf' h'
theorem exists_min {p : Nat → Prop} (h : ∃ n, p n) : ∃ n, p n ∧ ∀ m, p m → n ≤ m := by
  obtain ⟨n, hn⟩ := h
  induction n using Nat.strongRecOn with
  | _ n ih =>
    by_cases hx : ∃ m, m < n ∧ p m
    · obtain ⟨m, hm, hp⟩ := hx; exact ih m hm hp
    · exact ⟨n, hn, fun m hm => by
        rcases Nat.lt_or_ge m n with h1 | h1
        · exact absurd ⟨m, h1, hm⟩ hx
        · exact h1⟩
theorem aw_sound (hm : P.follows .mixedOrders = true) : ∀ (c : Code) {K : Exit → KS} {s : Sl} {G : Hp} {nx : Nat} {a : Act} {w : World} {E : En} {Q : Exit → Act → World → Prop}, AW P N c K s G nx → FreshFrom G nx → RelAt P N E1 w1 s G a w E →
    (∀ e s' G' nx' a' w' E', K e s' G' nx' → FreshFrom G' nx' → RelAt P N E1 w1 s' G' a' w' E' → Q e a' w') → c.wp P Q a w := by
  intro c
  induction c with
  | skip => intro K s G nx a w E Q h hf hr hQ; exact wp_skip (hQ _ _ _ _ _ _ _ h hf hr)
  | label l => intro K s G nx a w E Q h hf hr hQ; exact wp_label (hQ _ _ _ _ _ _ _ h hf hr)
  | exit id => intro K s G nx a w E Q h hf hr hQ; exact wp_exit (hQ _ _ _ _ _ _ _ h hf hr)
  | goto l => intro K s G nx a w E Q h hf hr hQ; exact wp_goto (hQ _ _ _ _ _ _ _ h hf hr)
  | ret => intro K s G nx a w E Q h hf hr hQ; exact wp_ret (hQ _ _ _ _ _ _ _ h hf hr)
  | region id ops d => intro K s G nx a w E Q h hf hr hQ; exact region_aw hm h.1 h.2 hf hr fun s' G' nx' a' w' E' h1 h2 h3 => hQ _ _ _ _ _ _ _ h1 h2 h3
  | seq x y ihx ihy =>
    intro K s G nx a w E Q h hf hr hQ
    refine wp_seq (ihx h hf hr fun e s' G' nx' a' w' E' h1 h2 h3 => ?_)
    cases e with
    | normal => exact ihy h1 h2 h3 hQ
    | _ => exact hQ _ _ _ _ _ _ _ h1 h2 h3
  | cond c x y ihx ihy =>
    intro K s G nx a w E Q h hf hr hQ
    rcases h with ⟨t, ht, h⟩ | ⟨ht, h1, h2⟩
    case inr =>
      have := evX_sound hr.slots c
      rw [ht] at this
      generalize hv : a.eval c = v at this
      cases this with
      | tree h => cases h
      | bl b =>
        refine wp_cond hv ?_
        cases b with
        | true => exact ihx h1 hf hr hQ
        | false => exact ihy h2 hf hr hQ
    have hc : a.eval c = .bool t := by
      have := evX_sound hr.slots c
      rw [ht] at this
      exact this.v_inv.1
    refine wp_cond hc ?_
    cases t with
    | true => exact ihx h hf hr hQ
    | false => exact ihy h hf hr hQ
  | block id x ih =>
    intro K s G nx a w E Q h hf hr hQ
    refine wp_block (ih h hf hr fun e s' G' nx' a' w' E' h1 h2 h3 => ?_)
    cases e with
    | exit id' =>
      show (if id' = id then Q .normal a' w' else Q (.exit id') a' w')
      simp only at h1
      split
      · rename_i hid; rw [if_pos hid] at h1; exact hQ _ _ _ _ _ _ _ h1 h2 h3
      · rename_i hid; rw [if_neg hid] at h1; exact hQ _ _ _ _ _ _ _ h1 h2 h3
    | _ => exact hQ _ _ _ _ _ _ _ h1 h2 h3
  | loop x ih =>
    intro K s G nx a w E Q h hf hr hQ
    obtain ⟨I, μ, hI, hround⟩ := h
    let A : Act → World → Nat → Prop := fun a w n => ∃ s G nx E, FreshFrom G nx ∧ RelAt P N E1 w1 s G a w E ∧ I s G nx ∧ μ s G nx = n
    have hmin : ∀ a w, (∃ n, A a w n) → ∃ n, A a w n ∧ ∀ m, A a w m → n ≤ m := fun a w h => exists_min h
    classical
    let μ' : Act → World → Nat := fun a w => if h : ∃ n, A a w n then Classical.choose (hmin a w h) else 0
    have hμ : ∀ a w (h : ∃ n, A a w n), A a w (μ' a w) ∧ ∀ m, A a w m → μ' a w ≤ m := fun a w h => by
      have := Classical.choose_spec (hmin a w h)
      simp only [μ', dif_pos h]; exact this
    refine wp_loop (fun a w => ∃ n, A a w n) μ' ⟨_, _, _, _, _, hf, hr, hI, rfl⟩ fun a w hA => ?_
    obtain ⟨⟨s1, G1, nx1, E1, hf1, hr1, hI1, hn1⟩, _⟩ := hμ a w hA
    refine ih (hround s1 G1 nx1 hf1 hI1) hf1 hr1 fun e s' G' nx' a' w' E' h1 h2 h3 => ?_
    cases e with
    | normal =>
      have hA' : A a' w' (μ s' G' nx') := ⟨_, _, _, _, h2, h3, h1.1, rfl⟩
      refine ⟨⟨_, hA'⟩, ?_⟩
      have := (hμ a' w' ⟨_, hA'⟩).2 _ hA'
      have := h1.2
      omega
    | _ => exact hQ _ _ _ _ _ _ _ h1 h2 h3
  | _ => intro K s G nx a w E Q h; exact h.elim
end
end Go.Proofs.YtomidniaekeafaaAbs
