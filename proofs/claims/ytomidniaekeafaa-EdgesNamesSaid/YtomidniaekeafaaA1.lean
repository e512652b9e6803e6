/- Abstract values and heaps: what they say of the machine's values and worlds. -/
import Derived.WalkKit
import Derived.Below
import Derived.Laws.Rows
import Derived.Laws.Build
import Derived.Laws.Slices
import Derived.Maps.AppendAt
namespace Go.Proofs.YtomidniaekeafaaAbs
open Go Go.RowKit

/-- An abstract value: trees for what is only read, ids for what the call owns. -/
inductive AV where
  | any
  | und
  | v (x : Value)
  | sl (n : Nat) (cs : List AV)
  | agg (cs : List AV)
  | tup (vs : List AV)
  | ptr (id off : Nat)
  | ea (base : AV) (off : Nat)
  | row (id n : Nat)
  | mp (id : Nat)
  | fn (f : Nat) (caps : List AV)
  | bl
  | cp (cs : List AV) (off : Nat)
  deriving Inhabited

/-- An abstract object: a variable, a row of the call's own, a row that is only read from now on, a map, or none any more. -/
inductive AObj where
  | var (t : TypeId) (cs : List AV)
  | row (e : TypeId) (cs : List AV)
  | frz (e : TypeId) (cs : List AV)
  | map (es : List (Value × AV))
  | dead

abbrev Hp := Nat → Option AObj
def Hp.upd (G : Hp) (i : Nat) (o : AObj) : Hp := fun j => if j = i then some o else G j
theorem Hp.upd_self (G : Hp) (i : Nat) (o : AObj) : G.upd i o i = some o := by simp [Hp.upd]
theorem Hp.upd_ne (G : Hp) {i j : Nat} (o : AObj) (h : j ≠ i) : G.upd i o j = G j := by simp [Hp.upd, h]
abbrev Sl := Nat → AV
def Sl.upd (s : Sl) (i : Nat) (o : AV) : Sl := fun j => if j = i then o else s j
theorem Sl.upd_self (s : Sl) (i : Nat) (o : AV) : s.upd i o i = o := by simp [Sl.upd]
theorem Sl.upd_ne (s : Sl) {i j : Nat} (o : AV) (h : j ≠ i) : s.upd i o j = s j := by simp [Sl.upd, h]

def AObj.mut : AObj → Bool
  | .var .. | .row .. | .map .. => true
  | _ => false
def AObj.alive : AObj → Bool
  | .dead => false
  | _ => true

/-- Worlds: what is no mutable block of ours stays; shapes stay. -/
structure Ext (M : Nat → Prop) (w w' : World) : Prop where
  os : w'.os = w.os
  tape : w'.tape = w.tape
  output : w'.output = w.output
  size : w.heap.size ≤ w'.heap.size
  same : ∀ b, b < w.heap.size → ¬ M b → w'.heap[b]? = w.heap[b]?
  shape : ∀ b, b < w.heap.size → w'.shape? b = w.shape? b
theorem Ext.refl (M : Nat → Prop) (w : World) : Ext M w w := ⟨rfl, rfl, rfl, Nat.le_refl _, fun _ _ _ => rfl, fun _ _ => rfl⟩
theorem Ext.trans {M M' : Nat → Prop} {a b c : World} (h : Ext M a b) (k : Ext M' b c) (hM : ∀ i, i < a.heap.size → M' i → M i) : Ext M a c :=
  ⟨k.os.trans h.os, k.tape.trans h.tape, k.output.trans h.output, Nat.le_trans h.size k.size,
   fun i hi hm => (k.same i (Nat.lt_of_lt_of_le hi h.size) (fun hm' => hm (hM i hi hm'))).trans (h.same i hi hm),
   fun i hi => (k.shape i (Nat.lt_of_lt_of_le hi h.size)).trans (h.shape i hi)⟩
theorem Ext.mono {M M' : Nat → Prop} {a b : World} (h : Ext M a b) (hM : ∀ i, i < a.heap.size → M i → M' i) : Ext M' a b :=
  ⟨h.os, h.tape, h.output, h.size, fun i hi hm => h.same i hi (fun hm' => hm (hM i hi hm')), h.shape⟩
theorem shape_of_heap {w w' : World} {b : Nat} (h : w'.heap[b]? = w.heap[b]?) : w'.shape? b = w.shape? b := by simp [World.shape?, h]
theorem Ext.of_below {w w' : World} (M : Nat → Prop) (h : Below w.heap.size w w') : Ext M w w' :=
  ⟨h.os, h.tape, h.output, h.size, fun b hb _ => h.block b hb, fun b hb => shape_of_heap (h.block b hb)⟩
theorem Ext.below {M : Nat → Prop} {w w' : World} (h : Ext M w w') (hM : ∀ b, b < w.heap.size → ¬ M b) : Below w.heap.size w w' :=
  ⟨h.os, h.tape, h.output, h.size, fun b hb => h.same b hb (hM b hb)⟩
theorem Ext.drew (M : Nat → Prop) (w : World) : Ext M w w.drew := ⟨rfl, rfl, rfl, Nat.le_refl _, fun _ _ _ => rfl, fun _ _ => rfl⟩
theorem Ext.alloc (M : Nat → Prop) (w : World) (o : Obj) : Ext M w (w.alloc o) :=
  Ext.of_below M ((Below.refl _ _).alloc (Nat.le_refl _) o)
theorem Ext.cell {M : Nat → Prop} {w w' : World} (h : Ext M w w') {p : Addr} {u : Value} (hp : ¬ M p.block) (hc : w.cell? p = some u) : w'.cell? p = some u := by
  have hb := World.block_lt_of_cell? w p hc
  have := h.same p.block hb hp
  simp only [World.cell?, this] at *
  exact hc

/-- A tree, and the value that holds it: read through blocks that are none of ours to write. -/
inductive TR (M : Nat → Prop) (w : World) : AV → Value → Prop
  | v {x : Value} (h : x.oneCell' = true) : TR M w (.v x) x
  | nil {n : Nat} (A : Option Addr) {cap : Nat} (hn : n ≤ cap) : TR M w (.sl n []) (.slice A n cap)
  | sl {n : Nat} {cs : List AV} {ad : Addr} {cap : Nat} {us : List Value} (hn : n ≤ cap) (h0 : 0 < cs.length) (hb : ¬ M ad.block) (hl : us.length = cs.length)
      (hc : ∀ i u, us[i]? = some u → w.cell? (ad.add i) = some u) (hr : ∀ (i : Nat) a u, cs[i]? = some a → us[i]? = some u → TR M w a u) : TR M w (.sl n cs) (.slice (some ad) n cap)

theorem add_block (a : Addr) (n : Nat) : (a.add n).block = a.block := by unfold Addr.add; split <;> rfl

theorem TR.one {M : Nat → Prop} {w : World} {a : AV} {u : Value} (h : TR M w a u) : u.oneCell' = true := by
  cases h with
  | v h => exact h
  | nil => rfl
  | sl => rfl

theorem TR.ext {M M' : Nat → Prop} {w w' : World} (he : Ext M w w') (hM : ∀ b, b < w.heap.size → M' b → M b) {a : AV} {u : Value} (h : TR M w a u) : TR M' w' a u := by
  induction h with
  | v h => exact .v h
  | nil A hn => exact .nil A hn
  | @sl n cs ad cap us hn h0 hb hl hc hr ih =>
    have h1 := hc 0 _ (List.getElem?_eq_getElem (by omega))
    have hlt : ad.block < w.heap.size := by have := World.block_lt_of_cell? w _ h1; rwa [add_block] at this
    exact .sl hn h0 (fun hm => hb (hM _ hlt hm)) hl (fun i u' h => he.cell (by rw [add_block]; exact hb) (hc i u' h)) ih
theorem TR.lt {M : Nat → Prop} {w : World} {n : Nat} {cs : List AV} {ad : Addr} {n' cap : Nat} (h : TR M w (.sl n cs) (.slice (some ad) n' cap)) (h0 : 0 < cs.length) : ad.block < w.heap.size := by
  cases h with
  | nil => simp at h0
  | sl hn h0 hb hl hc hr =>
    have h1 := hc 0 _ (List.getElem?_eq_getElem (by omega))
    have := World.block_lt_of_cell? w _ h1
    rwa [add_block] at this

/-- What ids stand for: φ their blocks, K which there are, W which blocks are ours to write, F which others may not be leant on, N which ids are nil rows. -/
structure En where
  φ : Nat → Option Nat
  K : Nat → Prop
  W : Nat → Prop
  F : Nat → Prop
  N : Nat → Prop
def En.M (E : En) (b : Nat) : Prop := E.F b ∨ E.W b

inductive VR (P : Program) (E : En) (w : World) : AV → Value → Prop
  | any (u : Value) : VR P E w .any u
  | und : VR P E w .und undef
  | tree {a : AV} {u : Value} (h : TR E.M w a u) : VR P E w a u
  | agg {cs : List AV} {us : List Value} (hl : us.length = cs.length) (h : ∀ (i : Nat) a u, cs[i]? = some a → us[i]? = some u → VR P E w a u) (h1 : ∀ u ∈ us, u.oneCell' = true) : VR P E w (.agg cs) (.agg us.toArray)
  | tup {cs : List AV} {us : List Value} (hl : us.length = cs.length) (h : ∀ (i : Nat) a u, cs[i]? = some a → us[i]? = some u → VR P E w a u) : VR P E w (.tup cs) (.tuple us.toArray)
  | ptr {id off : Nat} {u : Value} (hK : E.K id) (h1 : u.oneCell' = true) (h : ∀ b, E.φ id = some b → u = .pointer (some ⟨b, off, none⟩)) : VR P E w (.ptr id off) u
  | row {id n : Nat} {u : Value} (hK : E.K id) (h1 : u.oneCell' = true) (h : ∀ b, E.φ id = some b → ∃ cap e, u = .slice (some ⟨b, 0, none⟩) n cap ∧ n ≤ cap ∧ cap ≤ maxLen ∧ w.shape? b = some (e, cap * P.cellsOf e)) (hN : E.N id → u = .slice none 0 0 ∧ n = 0) : VR P E w (.row id n) u
  | ea {base : AV} {off : Nat} {u u0 : Value} (h0 : VR P E w base u0) (h1 : u.oneCell' = true) (h : ∀ ad n cap, u0 = .slice (some ad) n cap → u = .pointer (some (ad.add off))) : VR P E w (.ea base off) u
  | mp {id : Nat} {u : Value} (hK : E.K id) (h1 : u.oneCell' = true) (h : ∀ b, E.φ id = some b → u = .map (some b)) : VR P E w (.mp id) u
  | bl (b : Bool) : VR P E w .bl (.bool b)
  | cp {cs : List AV} {us : List Value} {ad : Addr} {off : Nat} (hb : ¬ E.M ad.block) (hl : us.length = cs.length) (h0 : 0 < cs.length) (hc : ∀ i u, us[i]? = some u → w.cell? (ad.add i) = some u) (hr : ∀ (i : Nat) a u, cs[i]? = some a → us[i]? = some u → TR E.M w a u) : VR P E w (.cp cs off) (.pointer (some (ad.add off)))
  | fn {f : Nat} {cs : List AV} {us : List Value} (hl : us.length = cs.length) (h : ∀ (i : Nat) a u, cs[i]? = some a → us[i]? = some u → VR P E w a u) : VR P E w (.fn f cs) (.func (.func f) #[] us.toArray)

/-- From one stage to a later one. -/
structure En.Le (w : World) (E E' : En) : Prop where
  K : ∀ i, E.K i → E'.K i
  φ : ∀ i b, E.K i → E'.φ i = some b → E.φ i = some b
  W : ∀ b, b < w.heap.size → E'.W b → E.W b
  F : E'.F = E.F
  N : ∀ i, E.K i → E'.N i → E.N i
theorem En.Le.refl (w : World) (E : En) : En.Le w E E := ⟨fun _ h => h, fun _ _ _ h => h, fun _ _ h => h, rfl, fun _ _ h => h⟩
theorem En.Le.trans {w w' : World} {E E' E'' : En} (h : En.Le w E E') (k : En.Le w' E' E'') (hs : w.heap.size ≤ w'.heap.size) : En.Le w E E'' :=
  ⟨fun i hi => k.K i (h.K i hi), fun i b hi hb => h.φ i b hi (k.φ i b (h.K i hi) hb), fun b hb hm => h.W b hb (k.W b (Nat.lt_of_lt_of_le hb hs) hm), k.F.trans h.F, fun i hi hn => h.N i hi (k.N i (h.K i hi) hn)⟩
theorem En.Le.M {w : World} {E E' : En} (h : En.Le w E E') : ∀ b, b < w.heap.size → E'.M b → E.M b := fun b hb hm => by
  rcases hm with hm | hm
  · exact .inl (by rw [← h.F]; exact hm)
  · exact .inr (h.W b hb hm)
theorem Ext.toM {E : En} {w w' : World} (h : Ext E.W w w') : Ext E.M w w' := h.mono fun _ _ h => .inr h

theorem shape_lt {w : World} {b : Nat} {x : TypeId × Nat} (h : w.shape? b = some x) : b < w.heap.size := by
  rcases Nat.lt_or_ge b w.heap.size with h' | h'
  · exact h'
  · simp [World.shape?, Array.getElem?_eq_none h'] at h

theorem VR.ext {P : Program} {E E' : En} {w w' : World} (he : Ext E.W w w') (hE : En.Le w E E') {a : AV} {u : Value} (h : VR P E w a u) : VR P E' w' a u := by
  induction h with
  | any u => exact .any u
  | und => exact .und
  | tree h => exact .tree (h.ext he.toM hE.M)
  | agg hl h h1 ih => exact .agg hl ih h1
  | tup hl h ih => exact .tup hl ih
  | ptr hK h1 h => exact .ptr (hE.K _ hK) h1 (fun b hb => h b (hE.φ _ b hK hb))
  | row hK h1 h hN =>
    refine .row (hE.K _ hK) h1 (fun b hb => ?_) (fun hn => hN (hE.N _ hK hn))
    obtain ⟨cap, e, hu, hn, hm, hs⟩ := h b (hE.φ _ b hK hb)
    exact ⟨cap, e, hu, hn, hm, (he.shape b (shape_lt hs)).trans hs⟩
  | ea h0 h1 h ih => exact .ea ih h1 h
  | mp hK h1 h => exact .mp (hE.K _ hK) h1 (fun b hb => h b (hE.φ _ b hK hb))
  | bl b => exact .bl b
  | @cp cs us ad off hb hl h0 hc hr =>
    have h1 := hc 0 _ (List.getElem?_eq_getElem (by omega))
    have hlt : ad.block < w.heap.size := by have := World.block_lt_of_cell? w _ h1; rwa [add_block] at this
    exact .cp (fun hm => hb (hE.M _ hlt hm)) hl h0 (fun i u h => he.toM.cell (by rw [add_block]; exact hb) (hc i u h)) (fun i a u ha hu => (hr i a u ha hu).ext he.toM hE.M)
  | fn hl h ih => exact .fn hl ih

/-- What an object says of its block. -/
def OR (P : Program) (E : En) (w : World) (b : Nat) : AObj → Prop
  | .var t cs => ∃ us : List Value, w.heap[b]? = some (.cells us.toArray t (0, 0)) ∧ us.length = cs.length ∧ (∀ u ∈ us, u.oneCell' = true) ∧ ∀ (i : Nat) a u, cs[i]? = some a → us[i]? = some u → VR P E w a u
  | .row e cs => ∃ us : List Value, w.heap[b]? = some (.cells us.toArray e (0, 0)) ∧ cs.length ≤ us.length ∧ ∀ (i : Nat) a u, cs[i]? = some a → us[i]? = some u → TR E.M w a u
  | .frz e cs => ∃ us : List Value, w.heap[b]? = some (.cells us.toArray e (0, 0)) ∧ cs.length ≤ us.length ∧ ∀ (i : Nat) a u, cs[i]? = some a → us[i]? = some u → TR E.M w a u
  | .map es => ∃ (ents : Array MapEntry) (clock : Nat), w.heap[b]? = some (.map ents clock) ∧ ents.size = es.length ∧ (∀ (i : Nat) e en, es[i]? = some e → ents[i]? = some en → en.key = e.1 ∧ VR P E w e.2 en.val) ∧ (ents.toList.map (·.born)).Nodup ∧ ∀ en ∈ ents.toList, en.born < clock
  | .dead => True

theorem OR.ext {P : Program} {E E' : En} {w w' : World} (he' : Ext E.W w w') (hE : En.Le w E E') {b : Nat} {o : AObj} (hb : w'.heap[b]? = w.heap[b]?) (h : OR P E w b o) : OR P E' w' b o := by
  cases o with
  | var t cs => obtain ⟨us, h1, h2, h3, h4⟩ := h; exact ⟨us, hb.trans h1, h2, h3, fun i a u ha hu => (h4 i a u ha hu).ext he' hE⟩
  | row e cs => obtain ⟨us, h1, h2, h4⟩ := h; exact ⟨us, hb.trans h1, h2, fun i a u ha hu => (h4 i a u ha hu).ext he'.toM hE.M⟩
  | frz e cs => obtain ⟨us, h1, h2, h4⟩ := h; exact ⟨us, hb.trans h1, h2, fun i a u ha hu => (h4 i a u ha hu).ext he'.toM hE.M⟩
  | map es => obtain ⟨ents, clock, h1, h2, h3, h4, h5⟩ := h; exact ⟨ents, clock, hb.trans h1, h2, fun i e en he hen => ⟨(h3 i e en he hen).1, (h3 i e en he hen).2.ext he' hE⟩, h4, h5⟩
  | dead => exact trivial

structure Rel (P : Program) (E : En) (w : World) (G : Hp) : Prop where
  inj : ∀ i j b, E.φ i = some b → E.φ j = some b → i = j
  dom : ∀ i b, E.φ i = some b → ∃ o, G i = some o ∧ o.alive = true
  lt : ∀ i b, E.φ i = some b → b < w.heap.size
  obj : ∀ i o, G i = some o → o.alive = true → (∃ b, E.φ i = some b ∧ OR P E w b o) ∨ (E.N i ∧ ∃ e, o = .row e [])
  K : ∀ i, E.K i ↔ ∃ o, G i = some o
  W : ∀ b, E.W b ↔ ∃ i o, E.φ i = some b ∧ G i = some o ∧ o.mut = true
  nF : ∀ i b, E.φ i = some b → ¬ E.F b
  Flt : ∀ b, E.F b → b < w.heap.size
theorem Rel.obj' {P : Program} {E : En} {w : World} {G : Hp} (hR : Rel P E w G) {i : Nat} {o : AObj} (hG : G i = some o) (ha : o.alive = true) (hne : ∀ e, o ≠ .row e []) : ∃ b, E.φ i = some b ∧ OR P E w b o := by
  rcases hR.obj i o hG ha with h | ⟨_, e, he⟩
  · exact h
  · exact absurd he (hne e)

end Go.Proofs.YtomidniaekeafaaAbs
