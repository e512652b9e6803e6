/- One operation of a region. -/
import Derived.Test.YtomidniaekeafaaC2
namespace Go.Proofs.YtomidniaekeafaaAbs
open Go Go.RowKit

def Sl.put (s : Sl) (d : Option Tmp) (v : AV) : Sl := match d with
  | some d => s.upd d v
  | none => s
/-- Is an operation wanted? -/
def wantA (ops : Array Oper) (o : Oper) (s : Sl) : Option Bool :=
  match o.guard with
  | none => some true
  | some (g, b) => match (ops[g]?).bind (·.dst) with
    | none => some false
    | some t => match s t with
      | .v (.bool c) => some (c == b)
      | .und => some false
      | _ => none
def lenX (G : Hp) : AV → Option Nat
  | .sl n _ => some n
  | .row id n => match G id with
    | some o => if o.alive = true then some n else none
    | none => none
  | _ => none
def lenC (P : Program) (G : Hp) (t : TypeId) : AV → Option AV
  | .v (.string b) => if isStr P t = true then some (.v (goInt b.size)) else none
  | .sl n cs => match elI P t with
    | some _ => some (.v (goInt n))
    | none => none
  | .row id n => match lenX G (.row id n), elI P t with
    | some n, some _ => some (.v (goInt n))
    | _, _ => none
  | _ => none
/-- A slice against nil. -/
def nilCmp (P : Program) (op : BinOp) (t : TypeId) : AV → AV → Option AV
  | .sl _ cs, .v (.slice none 0 0) => match elI P t, op with
    | some _, .eql => some (if cs.isEmpty = true then .bl else .v (.bool false))
    | some _, .neq => some (if cs.isEmpty = true then .bl else .v (.bool true))
    | _, _ => none
  | _, _ => none
/-- What is no call. -/
def evC (P : Program) (s : Sl) (G : Hp) (nx : Nat) (o : Oper) : Option (AV × Hp × Nat) :=
  match o.op with
  | .call c => match c.callee with
    | .builtin .len => match c.args.toList, c.argTypes.toList with
      | [x], [t] => (lenC P G t (evX s x)).map fun v => (v, G, nx)
      | _, _ => none
    | .builtin .append => match c.args.toList, c.argTypes.toList with
      | [x, y], [t, t'] => if t = t' then evAppend P G nx t (evX s x) (evX s y) else none
      | _, _ => none
    | _ => none
  | .assign (.const (.slice none 0 0)) => match elI P o.type with
    | some (e, _, _, _) => some (.row nx 0, G.upd nx (.row e []), nx + 1)
    | none => none
  | .binOp op t x y z => match nilCmp P op t (evX s x) (evX s y) with
    | some v => some (v, G, nx)
    | none => evOp P s G nx (.binOp op t x y z)
  | .makeMap t none => match mapI P t with
    | some _ => some (.mp nx, G.upd nx (.map []), nx + 1)
    | none => none
  | .lookup t x k ok => (evLookup P G t (evX s x) (evX s k) ok).map fun v => (v, G, nx)
  | .mapUpdate t m k v => (evMapUpdate P G t (evX s m) (evX s k) (evX s v)).map fun G' => (.any, G', nx)
  | _ => evOp P s G nx o.op
/-- A call of a function by its name. -/
def callA (s : Sl) (o : Oper) : Option (FuncId × List AV) :=
  match o.op with
  | .call c => match c.callee with
    | .value (.func f) => some (f, c.args.toList.map (evX s))
    | .value (.tmp t) => match s t with
      | .fn f caps => some (f, c.args.toList.map (evX s) ++ caps)
      | _ => none
    | _ => none
  | _ => none
/-- 0: values alone; 1: reads; 2: makes; 3: writes. -/
def clsOf (o : Oper) : Nat :=
  match o.op with
  | .move _ | .pick .. | .build .. | .binOp .. | .unOp .. | .convert .. | .makeFunc .. | .field .. | .index .. | .extract .. => 0
  | .assign (.const (.slice none 0 0)) => 2
  | .assign _ => 0
  | .load .. | .nilCheck .. | .fieldAddr .. | .indexAddr .. | .lookup .. => 1
  | .alloc .. | .box .. | .buildSlice .. | .makeMap .. => 2
  | .call c => match c.callee with
    | .builtin .len => 1
    | .value (.func _) => 2
    | _ => 3
  | _ => 3
/-- Grown, and maybe frozen. -/
def Grows (G G2 : Hp) : Prop := ∀ id o, G id = some o → G2 id = some o ∨ ∃ e cs, o = .row e cs ∧ G2 id = some (.frz e cs)
def Fin (G : Hp) : Prop := ∃ n, ∀ i, n ≤ i → G i = none
/-- A call upon the caller's own heap. -/
def InlOK (P : Program) (f : FuncId) (args : List AV) (G : Hp) (v : AV) (G' : Hp) : Prop :=
  (∀ args w, (callFunc f args).run P w = .ok (.enter f args) w) ∧ ∀ (E : En) (w : World) (us : List Value), Rel P E w G → All2 (VR P E w) args us →
    Calls P f us.toArray w fun e w' => ∃ u E', e = .returned u ∧ VR P E' w' v u ∧ Rel P E' w' G' ∧ Ext E.W w w' ∧ En.Le w E E'
def dstOK (N : Nat) (o : Oper) : Bool := match o.dst with
  | some d => decide (d < N)
  | none => true

/-- One operation, done. -/
inductive Step (P : Program) (N : Nat) (ops : Array Oper) (i : Nat) : Sl → Hp → Sl → Hp → Prop
  | none {s : Sl} {G : Hp} (h : ops[i]? = none) : Step P N ops i s G s G
  | off {s : Sl} {G : Hp} {o : Oper} (h : ops[i]? = some o) (hd : dstOK N o = true) (hw : wantA ops o s = some false) : Step P N ops i s G (s.put o.dst .und) G
  | op {s : Sl} {G G' : Hp} {o : Oper} {val : AV} {nx nx' : Nat} (h : ops[i]? = some o) (hd : dstOK N o = true) (hw : wantA ops o s = some true) (hn : G nx = none) (he : evC P s G nx o = some (val, G', nx')) : Step P N ops i s G (s.put o.dst val) G'
  | call {s : Sl} {G G' : Hp} {o : Oper} {f : FuncId} {as ts : List AV} {r : AV} {J : Js} {nx : Nat} (h : ops[i]? = some o) (hd : dstOK N o = true) (hw : wantA ops o s = some true) (hc : callA s o = some (f, as)) (ha : argsOf P G as = some (ts, G'))
      (hn : ∀ j, nx ≤ j ∧ j - nx < J.length → G j = Option.none) (hk : CallsOK P f ts r J) : Step P N ops i s G (s.put o.dst (shiftT nx r)) (addJ G' nx J)
  | keep {s : Sl} {G : Hp} {o : Oper} {f : FuncId} {as ts : List AV} {r : AV} (h : ops[i]? = some o) (hd : dstOK N o = true) (hw : wantA ops o s = some true) (hc : callA s o = some (f, as)) (ha : seesA P G as = some ts)
      (hk : CallsOK P f ts r []) (hkeep : flatT r = true) : Step P N ops i s G (s.put o.dst r) G
  | inl {s : Sl} {G G' : Hp} {o : Oper} {f : FuncId} {as : List AV} {v : AV} (h : ops[i]? = some o) (hd : dstOK N o = true) (hw : wantA ops o s = some true) (hc : callA s o = some (f, as))
      (hk : InlOK P f as G v G') (hg : clsOf o = 3 ∨ Grows G G') (hfin : Fin G → Fin G') : Step P N ops i s G (s.put o.dst v) G'

/-- How a state of the machine stands for one of ours, in a call that began in a world. -/
structure RelAt (P : Program) (N : Nat) (E1 : En) (w1 : World) (s : Sl) (G : Hp) (a : Act) (w : World) (E : En) : Prop where
  slots : ∀ t, VR P E w (s t) (a.tmps.getD t undef)
  rel : Rel P E w G
  ext : Ext E1.W w1 w
  le : En.Le w1 E1 E
  defers : a.defers = []
  size : a.tmps.size = N

section
variable {P : Program} {N : Nat} {E1 : En} {w1 : World} {s s' : Sl} {G G' : Hp} {a : Act} {w w' : World} {E E' : En} {ops : Array Oper}
theorem put_size (a : Act) (d : Option Tmp) (v : Value) : (a.put d v).tmps.size = a.tmps.size := by cases d <;> simp [Act.put]
theorem put_defers (a : Act) (d : Option Tmp) (v : Value) : (a.put d v).defers = a.defers := by cases d <;> rfl
theorem RelAt.put (h : RelAt P N E1 w1 s G a w E) {o : Oper} (hd : dstOK N o = true) {val : AV} {u : Value} (hv : VR P E' w' val u) (hR : Rel P E' w' G') (he : Ext E.W w w') (hle : En.Le w E E') :
    RelAt P N E1 w1 (s.put o.dst val) G' (a.put o.dst u) w' E' := by
  refine ⟨fun t => ?_, hR, h.ext.trans he (fun b hb hW => h.le.W b hb hW), h.le.trans hle h.ext.size, (put_defers ..).trans h.defers, (put_size ..).trans h.size⟩
  cases hdst : o.dst with
  | none => exact (h.slots t).ext he hle
  | some d =>
    simp only [dstOK, hdst, decide_eq_true_eq] at hd
    simp only [Sl.put, Act.put, Sl.upd]
    by_cases ht : t = d
    · subst ht
      rw [if_pos rfl]
      have : (a.tmps.setIfInBounds t u).getD t undef = u := by simp [Array.getD_eq_getD_getElem?, h.size, hd]
      rw [this]; exact hv
    · rw [if_neg ht]
      have : (a.tmps.setIfInBounds d u).getD t undef = a.tmps.getD t undef := by
        simp only [Array.getD_eq_getD_getElem?]; rw [Array.getElem?_setIfInBounds_ne (fun e => ht e.symm)]
      rw [this]; exact (h.slots t).ext he hle
theorem want_sound (h : RelAt P N E1 w1 s G a w E) {o : Oper} {b : Bool} (hw : wantA ops o s = some b) : Region.wanted o (yielded ops a.tmps) = b := by
  unfold wantA at hw
  unfold Region.wanted
  cases hg : o.guard with
  | none => simpa [hg] using hw
  | some g =>
    obtain ⟨g, c⟩ := g
    simp only [hg] at hw ⊢
    unfold yielded
    cases hd : (ops[g]?).bind (·.dst) with
    | none => simp [hd] at hw ⊢; exact hw
    | some t =>
      simp only [hd, Option.bind_some] at hw ⊢
      have h1 := h.slots t
      have h2 : a.tmps[t]? = some (a.tmps.getD t undef) ∨ (a.tmps[t]? = none ∧ a.tmps.getD t undef = undef) := by
        rw [Array.getD_eq_getD_getElem?]
        cases a.tmps[t]? <;> simp
      cases hst : s t with
      | v x =>
        rw [hst] at h1 hw
        obtain ⟨e, _⟩ := h1.v_inv
        cases x <;> simp at hw
        rename_i d
        rcases h2 with h2 | ⟨_, h2⟩
        · rw [h2, e]; simp only; rw [← hw]; cases c <;> cases d <;> rfl
        · rw [e] at h2; simp [undef] at h2
      | und =>
        rw [hst] at h1 hw
        have e : a.tmps.getD t undef = undef := by
          generalize a.tmps.getD t undef = u at h1
          cases h1 with
          | und => rfl
          | tree h => cases h
        simp at hw
        subst hw
        rcases h2 with h2 | ⟨h2, _⟩
        · rw [h2, e]; rfl
        · rw [h2]; rfl
      | _ => rw [hst] at hw; simp at hw
end
end Go.Proofs.YtomidniaekeafaaAbs
