/- Regions that draw their order. -/
import Derived.Test.YtomidniaekeafaaC8
namespace Go.Proofs.YtomidniaekeafaaAbs
open Go Go.RowKit

def maskOf (o : Oper) (acc : List Nat) : Nat := o.after.toList.foldl (fun m e => if Region.binds .any e = true then m ||| (2 ^ e.on ||| acc.getD e.on 0) else m) 0
def ancGo : List Oper → List Nat → List Nat
  | [], acc => acc
  | o :: r, acc => ancGo r (acc ++ [maskOf o acc])
def okPair (ops : Array Oper) (A : List Nat) (i j : Nat) : Bool := (A.getD i 0).testBit j || match ops[j]?, ops[i]? with
  | some oj, some oi => oj.apart ops oi && compat oj oi
  | _, _ => true
def backE (ops : Array Oper) (i : Nat) : Bool := match ops[i]? with
  | some o => o.after.toList.all fun e => !Region.binds .any e || decide (e.on < i)
  | none => true
def okDraw (ops : Array Oper) : Bool :=
  let A := ancGo ops.toList []
  (List.range ops.size).all fun i => backE ops i && (List.range i).all fun j => okPair ops A i j

theorem maskOf_bit {o : Oper} {acc : List Nat} {j : Nat} (h : (maskOf o acc).testBit j = true) : ∃ e ∈ o.after.toList, Region.binds .any e = true ∧ (e.on = j ∨ (acc.getD e.on 0).testBit j = true) := by
  have gen : ∀ (l : List Edge) (m : Nat), (l.foldl (fun m e => if Region.binds .any e = true then m ||| (2 ^ e.on ||| acc.getD e.on 0) else m) m).testBit j = true → m.testBit j = true ∨ ∃ e ∈ l, Region.binds .any e = true ∧ (e.on = j ∨ (acc.getD e.on 0).testBit j = true) := by
    intro l
    induction l with
    | nil => intro m h; exact .inl h
    | cons e l ih =>
      intro m h
      rw [List.foldl_cons] at h
      rcases ih _ h with h1 | ⟨e', he', h1⟩
      · split at h1
        · rename_i hb
          rw [Nat.testBit_or, Nat.testBit_or, Nat.testBit_two_pow] at h1
          simp only [Bool.or_eq_true, decide_eq_true_eq] at h1
          rcases h1 with h1 | h1 | h1
          · exact .inl h1
          · exact .inr ⟨e, by simp, hb, .inl h1⟩
          · exact .inr ⟨e, by simp, hb, .inr h1⟩
        · exact .inl h1
      · exact .inr ⟨e', List.mem_cons_of_mem _ he', h1⟩
  rcases gen _ 0 h with h | h
  · simp at h
  · exact h
theorem getD_app {l r : List Nat} {i : Nat} (h : i < l.length) : (l ++ r).getD i 0 = l.getD i 0 := by
  rw [List.getD_eq_getElem?_getD, List.getD_eq_getElem?_getD, List.getElem?_append_left h]
def MaskOK (ops : List Oper) (A : List Nat) : Prop := ∀ i, i < A.length → ∃ o, ops[i]? = some o ∧ ∀ j, (A.getD i 0).testBit j = true → ∃ e ∈ o.after.toList, Region.binds .any e = true ∧ (e.on = j ∨ (e.on < i ∧ (A.getD e.on 0).testBit j = true))
theorem ancGo_ok : ∀ (r : List Oper) (pre : List Oper) (acc : List Nat), acc.length = pre.length → MaskOK pre acc → MaskOK (pre ++ r) (ancGo r acc)
  | [], pre, acc, hl, h => by simpa [ancGo] using h
  | o :: r, pre, acc, hl, h => by
    have := ancGo_ok r (pre ++ [o]) (acc ++ [maskOf o acc]) (by simp [hl]) (fun i hi => by
      rw [List.length_append, List.length_singleton] at hi
      by_cases h1 : i < acc.length
      · obtain ⟨o', ho', hj⟩ := h i h1
        refine ⟨o', by rw [List.getElem?_append_left (by omega)]; exact ho', fun j hb => ?_⟩
        rw [getD_app h1] at hb
        obtain ⟨e, he, hbd, h2⟩ := hj j hb
        refine ⟨e, he, hbd, h2.imp id fun h3 => ⟨h3.1, ?_⟩⟩
        rw [getD_app (by omega)]; exact h3.2
      · have e1 : i = acc.length := by omega
        subst e1
        refine ⟨o, by rw [hl]; simp, fun j hb => ?_⟩
        have e2 : (acc ++ [maskOf o acc]).getD acc.length 0 = maskOf o acc := by simp [List.getD_eq_getElem?_getD]
        rw [e2] at hb
        obtain ⟨e, he, hbd, h2⟩ := maskOf_bit hb
        refine ⟨e, he, hbd, h2.imp id fun h3 => ?_⟩
        rcases Nat.lt_or_ge e.on acc.length with h4 | h4
        · exact ⟨h4, by rw [getD_app h4]; exact h3⟩
        · rw [List.getD_eq_getElem?_getD, List.getElem?_eq_none h4] at h3; simp at h3)
    simpa [ancGo] using this
section
variable {P : Program} {N : Nat} {ops : Array Oper} {s s' s1 s2 : Sl} {G G' G1 G2 : Hp} {E1 : En} {w1 w : World} {a : Act} {E : En}
def Closed (ops : Array Oper) (L : Nat → Prop) : Prop := ∀ i o, L i → ops[i]? = some o → ∀ e ∈ o.after.toList, Region.binds .any e = true → L e.on
theorem anc_listed {L : Nat → Prop} (hL : Closed ops L) : ∀ (i : Nat) {o : Oper}, ops[i]? = some o → (∀ e ∈ o.after.toList, Region.binds .any e = true → L e.on) → ∀ j, ((ancGo ops.toList []).getD i 0).testBit j = true → L j := by
  have hA := ancGo_ok ops.toList [] [] rfl (fun i hi => by simp at hi)
  rw [List.nil_append] at hA
  intro i
  induction i using Nat.strongRecOn with
  | _ i ih =>
    intro o hi hd j hb
    rcases Nat.lt_or_ge i (ancGo ops.toList []).length with h1 | h1
    · obtain ⟨o', ho', hj⟩ := hA i h1
      have : o' = o := by
        have h2 : ops[i]? = some o' := by simpa using ho'
        rw [hi] at h2; injection h2 with h2; exact h2.symm
      subst this
      obtain ⟨e, he, hbd, h2⟩ := hj j hb
      rcases h2 with rfl | ⟨h2, h3⟩
      · exact hd e he hbd
      · have hLe := hd e he hbd
        have hlt : e.on < (ancGo ops.toList []).length := by omega
        obtain ⟨oe, hoe, _⟩ := hA e.on hlt
        have hoe' : ops[e.on]? = some oe := by simpa using hoe
        exact ih e.on h2 hoe' (fun e' he' hb' => hL e.on oe hLe hoe' e' he' hb') j h3
    · rw [List.getD_eq_getElem?_getD, List.getElem?_eq_none h1] at hb; simp at hb
theorem VR.root {x : AV} {u : Value} {id : Nat} (h : VR P E w x u) (hr : rootA x = some id) : E.K id := by
  induction h with
  | tree h => cases h <;> cases hr
  | ptr hK _ _ => injection hr with hr; subst hr; exact hK
  | row hK _ _ _ => injection hr with hr; subst hr; exact hK
  | ea _ _ _ ih => exact ih hr
  | mp hK _ _ => injection hr with hr; subst hr; exact hK
  | _ => cases hr
theorem RelAt.roots (h : RelAt P N E1 w1 s G a w E) (x : Operand) (id : Nat) (hr : rootA (evX s x) = some id) : ∃ o, G id = some o :=
  (h.rel.K id).1 ((evX_sound h.slots x).root hr)
/-- To the front. -/
theorem front {i : Nat} {oi : Oper} (hi : ops[i]? = some oi) : ∀ (pre : List Nat) {post : List Nat} {s : Sl} {G : Hp}, Fin G → (clsOf oi = 0 ∨ ∀ x ∈ oi.op.operands, ∀ id, rootA (evX s x) = some id → ∃ o, G id = some o) →
    (∀ j ∈ pre, ∃ oj, ops[j]? = some oj ∧ oj.apart ops oi = true ∧ compat oj oi = true) → Runs P N ops (pre ++ i :: post) s G s' G' → Runs P N ops (i :: (pre ++ post)) s G s' G'
  | [], post, s, G, _, _, _, h => h
  | j :: pre, post, s, G, hf, hK, hp, h => by
    rw [List.cons_append] at h
    cases h with
    | @cons _ _ _ s1 _ _ G1 _ h1 hr =>
      obtain ⟨oj, hj, hap, hc⟩ := hp j (by simp)
      obtain ⟨hd1, u, hs1, e1⟩ := (step_iff hj).1 h1
      have hK1 : clsOf oi = 0 ∨ ∀ x ∈ oi.op.operands, ∀ id, rootA (evX s1 x) = some id → ∃ o, G1 id = some o := by
        by_cases c0 : clsOf oi = 0
        · exact .inl c0
        · refine .inr fun x hx id hr' => ?_
          subst hs1
          have sm : Same ops oi s (s.put oj.dst u) := looks_same (Oper.apart_spec hap).1
          rw [sm.1 x hx] at hr'
          obtain ⟨o, ho⟩ := hK.resolve_left c0 x hx id hr'
          have cj : clsOf oj ≤ 2 := by
            simp only [compat, Bool.or_eq_true, Bool.and_eq_true, beq_iff_eq] at hc
            omega
          rcases e1.grows cj id o ho with h2 | ⟨_, _, _, h2⟩
          · exact ⟨_, h2⟩
          · exact ⟨_, h2⟩
      have ih := front hi pre (e1.fin hf) hK1 (fun j' hj' => hp j' (by simp [hj'])) hr
      cases ih with
      | cons h2 hr2 =>
        obtain ⟨s1', G1', x1, x2⟩ := swap hi hj hap hc hf hK h1 h2
        exact .cons x1 (.cons x2 hr2)
theorem getD_set {L : Array Bool} {i j : Nat} (d : Bool) : (L.setIfInBounds i true).getD j d = if i = j ∧ j < L.size then true else L.getD j d := by
  simp only [Array.getD_eq_getD_getElem?, Array.getElem?_setIfInBounds]
  by_cases h : i = j
  · subst h
    by_cases h2 : i < L.size
    · simp [h2]
    · simp [h2]
  · simp [h]
theorem any_wp {Q : Exit → Act → World → Prop} (hok : okDraw ops = true) (hQ : ∀ a' w' E', RelAt P N E1 w1 s' G' a' w' E' → Q .normal a' w') : ∀ (fuel : Nat) (L : Array Bool) {s : Sl} {G : Hp} {a : Act} {w : World} {E : En}, L.size = ops.size → Closed ops (fun i => L.getD i false = true) →
    fuel = ((List.range ops.size).filter fun i => !L.getD i true).length → Runs P N ops ((List.range ops.size).filter fun i => !L.getD i true) s G s' G' → Fin G → RelAt P N E1 w1 s G a w E → wpAny P .any ops Q fuel L a w := by
  simp only [okDraw, List.all_eq_true, Bool.and_eq_true, List.mem_range] at hok
  intro fuel
  induction fuel with
  | zero =>
    intro L s G a w E hsz hcl hl hr hf h
    have hnil := List.eq_nil_of_length_eq_zero hl.symm
    rw [hnil] at hr
    refine ⟨?_, ?_⟩
    · rw [List.eq_nil_iff_forall_not_mem]
      intro j hj
      obtain ⟨h1, o, ho, _⟩ := mem_ready.1 hj
      have : j ∈ (List.range ops.size).filter fun i => !L.getD i true := List.mem_filter.2 ⟨List.mem_range.2 (Array.getElem?_eq_some_iff.1 ho).1, by simp [h1]⟩
      rw [hnil] at this; simp at this
    · cases hr; exact hQ _ _ _ h
  | succ fuel ih =>
    intro L s G a w E hsz hcl hl hr hf h
    refine ⟨fun hnr => ?_, fun i hir => ?_⟩
    · exfalso
      cases hR : (List.range ops.size).filter fun i => !L.getD i true with
      | nil => rw [hR] at hl; simp at hl
      | cons i R =>
        have hi : i ∈ (List.range ops.size).filter fun i => !L.getD i true := by rw [hR]; simp
        obtain ⟨hi1, hi2⟩ := List.mem_filter.1 hi
        rw [List.mem_range] at hi1
        have : i ∈ Region.ready .any ops L := by
          refine mem_ready.2 ⟨by simpa using hi2, _, Array.getElem?_eq_getElem hi1, fun e he hb => ?_⟩
          have hbk := (hok i hi1).1
          simp only [backE, Array.getElem?_eq_getElem hi1, List.all_eq_true, Bool.or_eq_true, Bool.not_eq_true', decide_eq_true_eq] at hbk
          have hlt := (hbk e (by simpa using he)).resolve_left (by simp [hb])
          have hle : L.getD e.on true = true := by
            cases hc : L.getD e.on true with
            | true => rfl
            | false =>
              exfalso
              have hmem : e.on ∈ (List.range ops.size).filter fun i => !L.getD i true := List.mem_filter.2 ⟨List.mem_range.2 (by omega), by simp [hc]⟩
              have hsort : ((List.range ops.size).filter fun i => !L.getD i true).Pairwise (· < ·) := List.Pairwise.filter _ List.pairwise_lt_range
              rw [hR] at hmem hsort
              rcases List.mem_cons.1 hmem with h1 | h1
              · omega
              · have := (List.pairwise_cons.1 hsort).1 _ h1; omega
          have hlt2 : e.on < L.size := by omega
          simpa [Array.getD_eq_getD_getElem?, hlt2] using hle
        rw [hnr] at this; simp at this
    · obtain ⟨hi1, oi, hi, hpre⟩ := mem_ready.1 hir
      have hin : i < ops.size := (Array.getElem?_eq_some_iff.1 hi).1
      have hmem : i ∈ (List.range ops.size).filter fun i => !L.getD i true := List.mem_filter.2 ⟨List.mem_range.2 hin, by simp [hi1]⟩
      obtain ⟨pre, post, hR⟩ := List.append_of_mem hmem
      have hsort : ((List.range ops.size).filter fun i => !L.getD i true).Pairwise (· < ·) := List.Pairwise.filter _ List.pairwise_lt_range
      have hprelt : ∀ j ∈ pre, j < i := fun j hj => by
        rw [hR] at hsort
        exact (List.pairwise_append.1 hsort).2.2 j hj i (by simp)
      rw [hR] at hr
      have hfr := front hi pre hf (.inr fun x _ id hr' => h.roots x id hr') (fun j hj => by
        have hjm : j ∈ (List.range ops.size).filter fun i => !L.getD i true := by rw [hR]; simp [hj]
        obtain ⟨hj1, hj2⟩ := List.mem_filter.1 hjm
        rw [List.mem_range] at hj1
        refine ⟨_, Array.getElem?_eq_getElem hj1, ?_⟩
        have hp := (hok i hin).2 j (by simpa using hprelt j hj)
        simp only [okPair, Bool.or_eq_true, hi, Array.getElem?_eq_getElem hj1, Bool.and_eq_true] at hp
        rcases hp with hp | hp
        · exfalso
          have := anc_listed hcl i hi (fun e he hb => hpre e (by simpa using he) hb) j hp
          have hlt2 : j < L.size := by omega
          simp [Array.getD_eq_getD_getElem?, hlt2] at this hj2
          rw [this] at hj2; cases hj2
        · exact hp) hr
      cases hfr with
      | @cons _ _ _ s1 _ _ G1 _ h1 hr2 =>
        have hf1 : Fin G1 := by
          obtain ⟨_, u, _, e1⟩ := (step_iff hi).1 h1
          exact e1.fin hf
        refine step_wp h1 h fun a' w' E' h' => ?_
        have hpp : pre ++ post = (List.range ops.size).filter fun j => !(L.setIfInBounds i true).getD j true := by
          have e1 : ((List.range ops.size).filter fun j => !(L.setIfInBounds i true).getD j true) = ((List.range ops.size).filter fun i => !L.getD i true).filter fun j => decide (j ≠ i) := by
            rw [List.filter_filter]
            refine List.filter_congr fun j hj => ?_
            rw [List.mem_range] at hj
            rw [getD_set]
            by_cases hij : i = j
            · subst hij
              have : i < L.size := by omega
              simp [this]
            · have hji : ¬ j = i := fun e => hij e.symm
              simp [hij, hji]
          rw [e1, hR, List.filter_append, List.filter_cons]
          have q1 : pre.filter (fun j => decide (j ≠ i)) = pre := List.filter_eq_self.2 fun j hj => by have := hprelt j hj; simp; omega
          have q2 : post.filter (fun j => decide (j ≠ i)) = post := List.filter_eq_self.2 fun j hj => by
            rw [hR] at hsort
            have := (List.pairwise_cons.1 (List.pairwise_append.1 hsort).2.1).1 j hj
            simp; omega
          rw [q1, q2, if_neg (by simp)]
        refine ih _ (by simp [hsz]) (fun j o hj ho e he hb => ?_) ?_ (by rw [← hpp]; exact hr2) hf1 h'
        · simp only [getD_set] at hj ⊢
          split
          · rfl
          · split at hj
            · rename_i h2
              obtain ⟨rfl, _⟩ := h2
              rw [hi] at ho
              injection ho with ho
              subst ho
              exact hpre e (by simpa using he) hb
            · exact hcl j o hj ho e he hb
        · rw [← hpp]
          rw [hR] at hl
          simp at hl ⊢
          omega
theorem drawn_wp {Q : Exit → Act → World → Prop} {id : Nat} (hm : P.follows .mixedOrders = true) (hok : okDraw ops = true) (hr : Runs P N ops (List.range ops.size) s G s' G') (hf : Fin G) (h : RelAt P N E1 w1 s G a w E) (hQ : ∀ a' w' E', RelAt P N E1 w1 s' G' a' w' E' → Q .normal a' w') : (Code.region id ops true).wp P Q a w := by
  have hb : Below w.heap.size w { w with drawn := w.drawn + 1 } := ⟨rfl, rfl, rfl, Nat.le_refl _, fun _ _ => rfl⟩
  obtain ⟨hR, he⟩ := h.rel.below hb
  have h' : RelAt P N E1 w1 s G a { w with drawn := w.drawn + 1 } E := ⟨fun t => (h.slots t).ext he (En.Le.refl _ _), hR, h.ext.trans he (fun b hb hW => h.le.W b hb hW), h.le, h.defers, h.size⟩
  have hall : ((List.range ops.size).filter fun i => !(Array.replicate ops.size false).getD i true) = List.range ops.size := List.filter_eq_self.2 fun i hi => by
    rw [List.mem_range] at hi
    simp [Array.getD_eq_getD_getElem?, hi]
  refine wp_region_any hm (any_wp hok hQ ops.size _ (by simp) (fun i o hi => ?_) (by rw [hall]; simp) (by rw [hall]; exact hr) hf h')
  simp [Array.getD_eq_getD_getElem?, Array.getElem?_replicate] at hi
  split at hi <;> simp at hi
end
end Go.Proofs.YtomidniaekeafaaAbs
