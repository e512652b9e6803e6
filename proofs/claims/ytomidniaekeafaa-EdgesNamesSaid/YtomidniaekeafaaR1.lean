/- From the data of a statement's arguments to trees. -/
import Derived.Test.YtomidniaekeafaaD7
import Derived.ChangeShapes
import Derived.ChangeArms
import Derived.WideShapes
import Derived.ShutString
import Derived.Carry
import Derived.ProofKit
import Derived.OpenShut
import Derived.SizedLaws
import Derived.ChangeOld
namespace Go.Proofs.YtomidniaekeafaaAbs
open Go Go.RowKit

def M0 : Nat → Prop := fun _ => False
/-- Whatever is told of a type's cells is a tree of some data. -/
structure Opens (P : Program) {α : Type} (Q : α → Prop) (c : α → List AV) (t : TypeId) : Prop where
  op : ∀ (H : Type) (enc : TypeId × Value → H) (w : World) (base : Nat) (spare : Nat → Bool) (held : Bool) (fuel : Nat) (cs : List Value) (x : DataW H × List MemPlace),
    DataW.trod enc P w base spare held fuel t cs = some x → ∃ a : α, Q a ∧ All2 (TR M0 w) (c a) cs
structure OpensF (P : Program) {α : Type} (Q : α → Prop) (n off : Nat) (c : α → List AV) (fs : List (TypeId × Nat)) : Prop where
  op : ∀ (H : Type) (enc : TypeId × Value → H) (w : World) (base : Nat) (spare : Nat → Bool) (held : Bool) (fuel : Nat) (cs : List Value), cs.length = n →
    (∀ p ∈ fs, ∃ x, DataW.trod enc P w base spare held fuel p.1 ((cs.drop p.2).take (P.cellsOf p.1)) = some x) → ∃ a : α, Q a ∧ All2 (TR M0 w) (c a) (cs.drop off)
def fldsOf (P : Program) (t : TypeId) : Option (List (TypeId × Nat)) := match P.underlying t with
  | some (.struct fs) => some (fs.toList.map fun f => (f.type, f.offset))
  | _ => none
section
variable {P : Program} {α β : Type} {Q : α → Prop} {Q' : β → Prop}
theorem All2.one {α β : Type} {R : α → β → Prop} {x : α} {y : β} (h : R x y) : All2 R [x] [y] := .cons h .nil
theorem Opens.map {c : α → List AV} {c' : β → List AV} {t : TypeId} (h : Opens P Q c t) (f : α → β) (hQ : ∀ a, Q a → Q' (f a)) (hf : ∀ a, c' (f a) = c a) : Opens P Q' c' t := by
  constructor
  intro H enc w base spare held fuel cs x hx
  obtain ⟨a, hq, ha⟩ := h.op _ enc w base spare held fuel cs x hx
  exact ⟨f a, hQ a hq, by rw [hf]; exact ha⟩
theorem opens_bool {t : TypeId} (ht : P.underlying t = some .bool) : Opens P (fun _ => True) (fun b : Bool => [.v (.bool b)]) t := by
  constructor
  intro H enc w base spare held fuel cs x hx
  obtain ⟨b, rfl, _⟩ := DataW.trod_bool ht hx
  exact ⟨b, trivial, .one (.v rfl)⟩
theorem opens_int {t : TypeId} {k : IntKind} (ht : P.underlying t = some (.int k)) : Opens P (fun n => (Lit.int k n).wf = true) (fun n : Int => [.v (.int k n)]) t := by
  constructor
  intro H enc w base spare held fuel cs x hx
  obtain ⟨b, rfl, _, hw⟩ := DataW.trod_int ht hx
  exact ⟨b, hw, .one (.v rfl)⟩
theorem opens_string {t : TypeId} (ht : P.underlying t = some .string) : Opens P (fun s => s.size ≤ maxLen) (fun s : ByteArray => [.v (.string s)]) t := by
  constructor
  intro H enc w base spare held fuel cs x hx
  obtain ⟨b, rfl, _, hw⟩ := DataW.trod_string ht hx
  exact ⟨b, hw, .one (.v rfl)⟩
theorem opens_slice {c : α → List AV} {k : Nat} [Wid c k] {t e : TypeId} (h : Opens P Q c e) (ht : P.underlying t = some (.slice e)) (hk : P.cellsOf e = k) : Opens P (fun l => l.length ≤ maxLen ∧ ∀ a ∈ l, Q a) (fun l : List α => [rowT c l]) t := by
  constructor
  intro H enc w base spare held fuel cs x hx
  rcases DataW.trod_slice ht hx with ⟨rfl, _⟩ | ⟨a, len, cap, elems, rest, n, rfl, rfl, _, hb, hl, hc, hel, hat, _⟩
  · exact ⟨[], ⟨by simp, by simp⟩, .one (.nil none (Nat.le_refl 0))⟩
  have key : ∀ m, m ≤ len → ∃ (l : List α) (us : List Value), l.length = m ∧ (∀ a ∈ l, Q a) ∧ (∀ j u, us[j]? = some u → w.cell? (a.add j) = some u) ∧ All2 (TR M0 w) (flat c l) us := by
    intro m
    induction m with
    | zero => exact fun _ => ⟨[], [], rfl, by simp, by simp, .nil⟩
    | succ m ih =>
      intro hm
      obtain ⟨l, us, h1, h2, h3, h4⟩ := ih (by omega)
      have := hat m (by omega)
      rw [List.getElem?_eq_getElem (by omega)] at this
      obtain ⟨vs, hv1, hv2⟩ := Option.bind_eq_some_iff.1 this
      obtain ⟨b, hq, hb2⟩ := h.op _ enc w base spare held n vs _ hv2
      obtain ⟨_, hvl, hvc⟩ := World.cells?_some hv1
      have hul : us.length = m * k := by have := h4.1; rw [this, flat_len (w := k), h1]
      refine ⟨l ++ [b], us ++ vs, by simp [h1], fun x hx => ?_, fun j u hj => ?_, ?_⟩
      · rcases List.mem_append.1 hx with hx | hx
        · exact h2 x hx
        · simp at hx; subst hx; exact hq
      · rw [List.getElem?_append] at hj
        split at hj
        · exact h3 j u hj
        · rename_i hlt
          have hj2 : j - us.length < vs.length := (List.getElem?_eq_some_iff.1 hj).1
          have := hvc (j - us.length) (by omega)
          rw [add_add, hk, ← hul, show us.length + (j - us.length) = j by omega] at this
          rw [this]; exact hj
      · rw [← flat_app]
        have e : flat c [b] = c b := (flat_one b).symm
        rw [e]
        exact h4.app hb2
  obtain ⟨l, us, h1, h2, h3, h4⟩ := key len (Nat.le_refl _)
  refine ⟨l, ⟨by omega, h2⟩, .one ?_⟩
  subst h1
  show TR M0 w (.sl l.length (flat c l)) _
  by_cases h0 : l = []
  · subst h0; exact .nil _ (Nat.zero_le _)
  · have hpos : 0 < (flat c l).length := by
      rw [flat_len (w := k)]
      exact Nat.mul_pos (List.length_pos_iff.2 h0) (Wid.pos (c := c))
    exact .sl hl hpos (fun h => h) h4.1 h3 h4.2
theorem opensF_nil {n : Nat} : OpensF P (fun _ => True) n n (fun _ : Unit => []) [] := by
  constructor
  intro H enc w base spare held fuel cs hn _
  refine ⟨(), trivial, ?_⟩
  rw [List.drop_eq_nil_of_le (by omega)]; exact .nil
theorem opensF_cons (k : Nat) {c : α → List AV} {c' : β → List AV} {t : TypeId} {n off : Nat} {fs : List (TypeId × Nat)} (h : Opens P Q c t) (hs : OpensF P Q' n (off + k) c' fs) (hk : P.cellsOf t = k) :
    OpensF P (fun x : α × β => Q x.1 ∧ Q' x.2) n off (fun x : α × β => c x.1 ++ c' x.2) ((t, off) :: fs) := by
  constructor
  intro H enc w base spare held fuel cs hn hall
  obtain ⟨x, hx⟩ := hall (t, off) (by simp)
  obtain ⟨a, hq, ha⟩ := h.op _ enc w base spare held fuel _ x hx
  obtain ⟨b, hq', hb⟩ := hs.op _ enc w base spare held fuel cs hn fun p hp => hall p (by simp [hp])
  refine ⟨(a, b), ⟨hq, hq'⟩, ?_⟩
  have e : cs.drop off = (cs.drop off).take k ++ cs.drop (off + k) := by
    rw [← List.drop_drop]; exact (List.take_append_drop k _).symm
  rw [e]
  simp only at ha
  rw [hk] at ha
  exact ha.app hb
theorem opens_struct {c : α → List AV} {t : TypeId} {n : Nat} {fs : List (TypeId × Nat)} (h : OpensF P Q n 0 c fs) (ht : fldsOf P t = some fs) (hn : P.cellsOf t = n) : Opens P Q c t := by
  constructor
  intro H enc w base spare held fuel cs x hx
  unfold fldsOf at ht
  split at ht
  · rename_i fa hfa
    injection ht with ht
    obtain ⟨xs, m, rfl, _, hl, hxl, hat⟩ := DataW.trod_struct hfa hx
    obtain ⟨a, hq, ha⟩ := h.op _ enc w base spare held m cs (by rw [hl, hn]) fun p hp => by
      rw [← ht] at hp
      obtain ⟨f, hf, rfl⟩ := List.mem_map.1 hp
      obtain ⟨i, hi, he⟩ := List.mem_iff_getElem.1 hf
      have hi' : i < fa.size := by simpa using hi
      have := hat i f (by rw [← he]; simp [hi'])
      rw [List.getElem?_eq_getElem (by omega)] at this
      exact ⟨_, this⟩
    exact ⟨a, hq, by simpa using ha⟩
  · cases ht
theorem vr_one {w : World} {a : AV} {u : Value} (h : TR M0 w a u) : VR P (En.zero M0) w a u := VR.zero h
/-- An argument of a struct's type. -/
theorem open_arg {H : Type} {enc : TypeId × Value → H} {w : World} {base b0 : Nat} {spare : Nat → Bool} {held : Bool} {r : Reach} {c : α → List AV} {t : TypeId} {v : Value} {d : DataW H} {ps : List MemPlace} (h : Opens P Q c t)
    (hd : DataW.Trod enc P w base spare held t v d ps) (ht : (fldsOf P t).isSome = true) (hv : Value.okWide P w r b0 t v) : ∃ a, Q a ∧ VR P (En.zero M0) w (.agg (c a)) v := by
  unfold fldsOf at ht
  split at ht
  · rename_i fa hfa
    obtain ⟨cs, rfl, _⟩ := WideShapes.okWide_struct hfa hv
    obtain ⟨fuel, hf⟩ := hd
    obtain ⟨a, hq, ha⟩ := h.op _ enc w base spare held fuel _ _ hf
    refine ⟨a, hq, ?_⟩
    have := agg_zero (P := P) ha
    simpa [Value.cells] using this
  · cases ht
/-- An argument of one cell. -/
theorem open_one {H : Type} {enc : TypeId × Value → H} {w : World} {base : Nat} {spare : Nat → Bool} {held : Bool} {c : α → AV} {t : TypeId} {v : Value} {d : DataW H} {ps : List MemPlace} (h : Opens P Q (fun a => [c a]) t)
    (hd : DataW.Trod enc P w base spare held t v d ps) (hv : v.cells = #[v]) : ∃ a, Q a ∧ VR P (En.zero M0) w (c a) v := by
  obtain ⟨fuel, hf⟩ := hd
  obtain ⟨a, hq, ha⟩ := h.op _ enc w base spare held fuel _ _ hf
  rw [hv] at ha
  exact ⟨a, hq, vr_one (ha.2 0 _ _ rfl rfl)⟩
/-- What a law's contract says at its row. -/
theorem row_calls {f : FuncId} {as : List AV} {us : List Value} {w : World} {b : Bool} (h : CallsOK P f as (.v (.bool b)) []) (ha : All2 (VR P (En.zero M0) w) as us) :
    Calls P f us.toArray w fun e w' => e = .returned (.bool b) ∧ Below w.heap.size w w' := by
  refine (h.2.2 w us M0 (fun _ h => h.elim) ha).mono ?_
  rintro e w' ⟨u, E', rfl, hv, _, _, hb, _⟩
  obtain ⟨rfl, _⟩ := hv.v_inv
  exact ⟨rfl, hb⟩
end
end Go.Proofs.YtomidniaekeafaaAbs
