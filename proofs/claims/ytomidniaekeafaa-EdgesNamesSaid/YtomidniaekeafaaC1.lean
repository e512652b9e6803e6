/- Calls: what a function is told to do, and how a caller takes it in. -/
import Derived.Test.YtomidniaekeafaaB3
namespace Go.Proofs.YtomidniaekeafaaAbs
open Go Go.RowKit

abbrev Js := List (TypeId × List AV)
def ofJ (J : Js) : Hp := fun i => (J[i]?).map fun p => .row p.1 p.2
def En.zero (F : Nat → Prop) : En := { φ := fun _ => none, K := fun _ => False, W := fun _ => False, F := F, N := fun _ => False }
def shift1 (k : Nat) : AV → AV
  | .row i n => .row (i + k) n
  | a => a
def shiftA (k : Nat) : AV → AV
  | .agg cs => .agg (cs.map (shift1 k))
  | a => shift1 k a
def shiftT (k : Nat) : AV → AV
  | .tup vs => .tup (vs.map (shiftA k))
  | a => shiftA k a
def ok1 : AV → Bool
  | .any | .v _ | .sl _ _ | .row _ _ => true
  | _ => false
def okA : AV → Bool
  | .agg cs => cs.all ok1
  | a => ok1 a
def okT : AV → Bool
  | .tup vs => vs.all okA
  | a => okA a
/-- Numbers, bools and strings alone. -/
def flatV : AV → Bool
  | .v (.int _ _) | .v (.bool _) | .v (.string _) => true
  | _ => false
def flatT : AV → Bool
  | .tup vs => vs.all flatV
  | a => flatV a
def addJ (G : Hp) (nx : Nat) (J : Js) : Hp := fun i => if nx ≤ i ∧ i - nx < J.length then ofJ J (i - nx) else G i
theorem addJ_nil (G : Hp) (nx : Nat) : addJ G nx [] = G := by funext i; simp [addJ]
theorem addJ_one (G : Hp) (nx : Nat) (p : TypeId × List AV) : addJ G nx [p] = G.upd nx (.row p.1 p.2) := by
  funext i
  simp only [addJ, Hp.upd, List.length_singleton]
  by_cases h : i = nx
  · subst h; simp [ofJ]
  · rw [if_neg (by omega), if_neg h]

/-- A function's contract: what it makes of trees, in any world. -/
def CallsOK (P : Program) (f : FuncId) (args : List AV) (r : AV) (J : Js) : Prop :=
  okT r = true ∧ (∀ args w, (callFunc f args).run P w = .ok (.enter f args) w) ∧ ∀ (w : World) (us : List Value) (F : Nat → Prop), (∀ b, F b → b < w.heap.size) → All2 (VR P (En.zero F) w) args us →
    Calls P f us.toArray w fun e w' => ∃ u E', e = .returned u ∧ VR P E' w' r u ∧ Rel P E' w' (ofJ J) ∧ E'.F = F ∧ Below w.heap.size w w' ∧ ∀ i b, E'.φ i = some b → w.heap.size ≤ b

section
variable {P : Program} {E : En} {w w' : World} {G : Hp} {nx : Nat}
def En.imp (E E' : En) (nx : Nat) (J : Js) : En :=
  { φ := fun i => if nx ≤ i ∧ i - nx < J.length then E'.φ (i - nx) else E.φ i, K := fun i => (nx ≤ i ∧ i - nx < J.length) ∨ E.K i, W := fun b => E.W b ∨ E'.W b, F := E.F,
    N := fun i => if nx ≤ i ∧ i - nx < J.length then E'.N (i - nx) else E.N i }
theorem imp_M {E' : En} {J : Js} (hF : E'.F = E.M) : ∀ b, (E.imp E' nx J).M b ↔ E'.M b := fun b => by
  simp only [En.M, En.imp, hF]
  constructor
  · rintro (h | h | h)
    · exact .inl (.inl h)
    · exact .inl (.inr h)
    · exact .inr h
  · rintro ((h | h) | h)
    · exact .inl h
    · exact .inr (.inl h)
    · exact .inr (.inr h)
theorem TR.M_iff {M M' : Nat → Prop} {a : AV} {u : Value} (h : TR M w a u) (hM : ∀ b, M' b → M b) : TR M' w a u := h.ext (Ext.refl M w) (fun b _ hb => hM b hb)
theorem imp_one {E' : En} {J : Js} (hR' : Rel P E' w (ofJ J)) (hF : E'.F = E.M) {a : AV} {u : Value} (ho : ok1 a = true) (h : VR P E' w a u) : VR P (E.imp E' nx J) w (shift1 nx a) u := by
  cases a with
  | any => exact .any u
  | row i n =>
    have hK : i < J.length := by
      cases h with
      | tree h => cases h
      | row hK _ _ _ =>
        obtain ⟨o, ho⟩ := (hR'.K i).1 hK
        simp only [ofJ] at ho
        rcases Nat.lt_or_ge i J.length with h | h
        · exact h
        · rw [List.getElem?_eq_none h] at ho; cases ho
    have hc : nx ≤ i + nx ∧ i + nx - nx < J.length := ⟨by omega, by omega⟩
    have e1 : i + nx - nx = i := by omega
    cases h with
    | tree h => cases h
    | row _ h1 h2 h3 =>
      refine .row (show (E.imp E' nx J).K (i + nx) from .inl hc) h1 (fun b hb => h2 b ?_) (fun hN => h3 ?_)
      · have hb' : (if nx ≤ i + nx ∧ i + nx - nx < J.length then E'.φ (i + nx - nx) else E.φ (i + nx)) = some b := hb
        rw [if_pos hc, e1] at hb'; exact hb'
      · have hN' : (if nx ≤ i + nx ∧ i + nx - nx < J.length then E'.N (i + nx - nx) else E.N (i + nx)) := hN
        rw [if_pos hc, e1] at hN'; exact hN'
  | v x =>
    cases h with
    | tree h => exact .tree (h.M_iff fun b hb => (imp_M hF b).1 hb)
  | sl n cs =>
    cases h with
    | tree h => exact .tree (h.M_iff fun b hb => (imp_M hF b).1 hb)
  | _ => simp [ok1] at ho
theorem imp_agg {E' : En} {J : Js} (hR' : Rel P E' w (ofJ J)) (hF : E'.F = E.M) {a : AV} {u : Value} (ho : okA a = true) (h : VR P E' w a u) : VR P (E.imp E' nx J) w (shiftA nx a) u := by
  cases a with
  | agg cs =>
    obtain ⟨us, rfl, hl, hv, h1⟩ := h.agg_inv
    simp only [okA, List.all_eq_true] at ho
    refine .agg (by simpa using hl) (fun i c x hc hx => ?_) h1
    rw [List.getElem?_map] at hc
    obtain ⟨c', hc', rfl⟩ := Option.map_eq_some_iff.1 hc
    exact imp_one hR' hF (ho c' (List.mem_of_getElem? hc')) (hv i c' x hc' hx)
  | _ => exact imp_one hR' hF (by simpa only [okA] using ho) h
theorem imp_tup {E' : En} {J : Js} (hR' : Rel P E' w (ofJ J)) (hF : E'.F = E.M) {a : AV} {u : Value} (ho : okT a = true) (h : VR P E' w a u) : VR P (E.imp E' nx J) w (shiftT nx a) u := by
  cases a with
  | tup cs =>
    obtain ⟨us, rfl, hl, hv⟩ := h.tup_inv
    simp only [okT, List.all_eq_true] at ho
    refine .tup (by simpa using hl) (fun i c x hc hx => ?_)
    rw [List.getElem?_map] at hc
    obtain ⟨c', hc', rfl⟩ := Option.map_eq_some_iff.1 hc
    exact imp_agg hR' hF (ho c' (List.mem_of_getElem? hc')) (hv i c' x hc' hx)
  | _ => exact imp_agg hR' hF (by simpa only [okT] using ho) h
theorem Rel.imp (hR : Rel P E w G) {E' : En} {J : Js} (hn : ∀ i, nx ≤ i ∧ i - nx < J.length → G i = none) (hR' : Rel P E' w' (ofJ J)) (hF : E'.F = E.M) (hb : Below w.heap.size w w') (hge : ∀ i b, E'.φ i = some b → w.heap.size ≤ b) :
    Rel P (E.imp E' nx J) w' (addJ G nx J) ∧ Ext E.W w w' ∧ En.Le w E (E.imp E' nx J) := by
  have he : Ext E.W w w' := Ext.of_below _ hb
  have hnK : ∀ i, nx ≤ i ∧ i - nx < J.length → ¬ E.K i := fun i hi hK => by obtain ⟨o, ho⟩ := (hR.K i).1 hK; rw [hn i hi] at ho; cases ho
  have hW' : ∀ b, E'.W b → w.heap.size ≤ b := fun b hb => by obtain ⟨i, o, h1, _⟩ := (hR'.W b).1 hb; exact hge i b h1
  have hle : En.Le w E (E.imp E' nx J) := by
    refine ⟨fun i h => .inr h, fun i b hK h => ?_, fun b hb h => ?_, rfl, fun i hK h => ?_⟩
    · have : ¬ (nx ≤ i ∧ i - nx < J.length) := fun h => hnK i h hK
      simpa only [En.imp, if_neg this] using h
    · rcases h with h | h
      · exact h
      · have := hW' b h; omega
    · have : ¬ (nx ≤ i ∧ i - nx < J.length) := fun h => hnK i h hK
      simpa only [En.imp, if_neg this] using h
  have hJK : ∀ i, E'.K i ↔ i < J.length := fun i => by
    rw [hR'.K i]
    simp only [ofJ]
    constructor
    · rintro ⟨o, ho⟩
      rcases Nat.lt_or_ge i J.length with h | h
      · exact h
      · rw [List.getElem?_eq_none h] at ho; cases ho
    · intro h; rw [List.getElem?_eq_getElem h]; exact ⟨_, rfl⟩
  refine ⟨⟨fun i j x hi hj => ?_, fun i x hi => ?_, fun i x hi => ?_, fun i o hi ha => ?_, fun i => ?_, fun x => ?_, fun i x hi hFx => ?_, fun x hFx => Nat.lt_of_lt_of_le (hR.Flt x hFx) he.size⟩, he, hle⟩
  · simp only [En.imp] at hi hj
    split at hi <;> split at hj
    · rename_i h1 h2
      have := hR'.inj _ _ x hi hj
      omega
    · have h1 := hge _ x hi; have h2 := hR.lt _ x hj; omega
    · have h1 := hge _ x hj; have h2 := hR.lt _ x hi; omega
    · exact hR.inj i j x hi hj
  · simp only [En.imp] at hi
    split at hi
    · rename_i h1
      obtain ⟨o, h2, h3⟩ := hR'.dom _ x hi
      exact ⟨o, by simp only [addJ, if_pos h1]; exact h2, h3⟩
    · rename_i h1
      obtain ⟨o, h2, h3⟩ := hR.dom i x hi
      exact ⟨o, by simp only [addJ, if_neg h1]; exact h2, h3⟩
  · simp only [En.imp] at hi
    split at hi
    · exact hR'.lt _ x hi
    · exact Nat.lt_of_lt_of_le (hR.lt i x hi) he.size
  · simp only [addJ] at hi
    split at hi
    · rename_i h1
      rcases hR'.obj _ o hi ha with ⟨b, hφ, hO⟩ | ⟨hN, hE⟩
      · refine .inl ⟨b, by simp only [En.imp, if_pos h1]; exact hφ, ?_⟩
        have ho : ∃ e cs, o = .row e cs := by
          simp only [ofJ] at hi
          obtain ⟨p, _, rfl⟩ := Option.map_eq_some_iff.1 hi
          exact ⟨_, _, rfl⟩
        obtain ⟨e, cs, rfl⟩ := ho
        obtain ⟨us, q1, q2, q3⟩ := hO
        exact ⟨us, q1, q2, fun i a u ha hu => (q3 i a u ha hu).M_iff fun b hb => (imp_M hF b).1 hb⟩
      · exact .inr ⟨by simp only [En.imp, if_pos h1]; exact hN, hE⟩
    · rename_i h1
      rcases hR.obj i o hi ha with ⟨b, hφ, hO⟩ | ⟨hN, hE⟩
      · exact .inl ⟨b, by simp only [En.imp, if_neg h1]; exact hφ, hO.ext he hle (hb.block b (hR.lt i b hφ))⟩
      · exact .inr ⟨by simp only [En.imp, if_neg h1]; exact hN, hE⟩
  · simp only [En.imp, addJ]
    by_cases h1 : nx ≤ i ∧ i - nx < J.length
    · rw [if_pos h1]; simp only [h1, true_or, and_self, true_iff]
      exact (hR'.K _).1 ((hJK _).2 h1.2)
    · rw [if_neg h1]; simp only [h1, false_or]; exact hR.K i
  · constructor
    · rintro (h | h)
      · obtain ⟨i, o, h1, h2, h3⟩ := (hR.W x).1 h
        have h4 : ¬ (nx ≤ i ∧ i - nx < J.length) := fun h => by rw [hn i h] at h2; cases h2
        exact ⟨i, o, by simp only [En.imp, if_neg h4]; exact h1, by simp only [addJ, if_neg h4]; exact h2, h3⟩
      · obtain ⟨i, o, h1, h2, h3⟩ := (hR'.W x).1 h
        have hi : i < J.length := (hJK i).1 ((hR'.K i).2 ⟨o, h2⟩)
        have hc : nx ≤ i + nx ∧ i + nx - nx < J.length := ⟨by omega, by omega⟩
        have e1 : i + nx - nx = i := by omega
        refine ⟨i + nx, o, ?_, ?_, h3⟩
        · show (if nx ≤ i + nx ∧ i + nx - nx < J.length then E'.φ (i + nx - nx) else E.φ (i + nx)) = some x
          rw [if_pos hc, e1]; exact h1
        · show (if nx ≤ i + nx ∧ i + nx - nx < J.length then ofJ J (i + nx - nx) else G (i + nx)) = some o
          rw [if_pos hc, e1]; exact h2
    · rintro ⟨i, o, h1, h2, h3⟩
      simp only [En.imp] at h1
      simp only [addJ] at h2
      split at h1
      · rename_i h4
        rw [if_pos h4] at h2
        exact .inr ((hR'.W x).2 ⟨_, o, h1, h2, h3⟩)
      · rename_i h4
        rw [if_neg h4] at h2
        exact .inl ((hR.W x).2 ⟨_, o, h1, h2, h3⟩)
  · simp only [En.imp] at hi
    split at hi
    · have h1 := hge _ x hi; have h2 := hR.Flt x hFx; omega
    · exact hR.nF i x hi hFx
end
end Go.Proofs.YtomidniaekeafaaAbs
