/- The operations but calls and maps. -/
import Derived.Test.YtomidniaekeafaaA5
namespace Go.Proofs.YtomidniaekeafaaAbs
open Go Go.RowKit

def isStr (P : Program) (t : TypeId) : Bool := match P.underlying t with
  | some .string => true
  | _ => false
theorem isStr_spec {P : Program} {t : TypeId} (h : isStr P t = true) : P.underlying t = some .string := by
  unfold isStr at h
  split at h
  · assumption
  · simp at h
def adr (G : Hp) (a : AV) : Bool := match rdAt G a with
  | some (_ :: _) => true
  | _ => false
def evBuild (P : Program) (s : Sl) (t : TypeId) : List AV → List (Nat × Operand) → Option (List AV)
  | cs, [] => some cs
  | cs, (i, x) :: r => match flI P t i with
    | some (off, _, k) => if (evX s x).cells.length = k ∧ off + k ≤ cs.length ∧ (evX s x).cells.all AV.one = true then evBuild P s t (splice cs off (evX s x).cells) r else none
    | none => none
def lenOf : AV → Option Nat
  | .sl n _ => some n
  | .row _ n => some n
  | .v (.slice none 0 0) => some 0
  | _ => none
def evIndexAddr (P : Program) (G : Hp) (t : TypeId) (x i : AV) : Option AV :=
  match elI P t, i with
  | some (_, k, _, _), .v (.int _ n) => match x with
    | .sl m cs => if 0 ≤ n ∧ n < m ∧ 0 < cs.length then some (.ea x (n.toNat * k)) else none
    | .row id m => match G id with
      | some o => if 0 ≤ n ∧ n < m ∧ o.alive = true then some (.ea x (n.toNat * k)) else none
      | none => none
    | _ => none
  | _, _ => none
/-- A bound of a slice expression. -/
def bnd (s : Sl) (d : Nat) : Option Operand → Option Nat
  | none => some d
  | some x => match evX s x with
    | .v (.int _ n) => if 0 ≤ n then some n.toNat else none
    | _ => none
def evSlice (P : Program) (G : Hp) (t : TypeId) (x : AV) (lo hi : Nat → Option Nat) : Option (AV × Hp) :=
  match x with
  | .v (.string b) => match lo 0, hi b.size with
    | some l, some h => if isStr P t = true ∧ l ≤ h ∧ h ≤ b.size then some (.v (.string (b.extract l h)), G) else none
    | _, _ => none
  | _ => match elI P t, treeOf P G x with
    | some (_, k, _, _), some (.sl n cs) => match lo 0, hi n with
      | some l, some h => if l ≤ h ∧ h ≤ n ∧ cs.length = n * k then some (.sl (h - l) ((cs.drop (l * k)).take ((h - l) * k)), frzOf G x) else none
      | _, _ => none
    | _, _ => none
def plI (P : Program) (t : TypeId) : Option (List (Nat × Nat)) :=
  match P.underlying t with
  | some (.struct fs) => fs.toList.mapM (fun f => (P.info? f.type).map fun i => (f.offset, i.size))
  | _ => none
theorem plI_spec {P : Program} {t : TypeId} {pl : List (Nat × Nat)} (h : plI P t = some pl) : ∃ fs, P.underlying t = some (.struct fs) ∧ fs.toList.mapM (fun f => (P.info? f.type).map fun i => (f.offset, i.size)) = some pl := by
  unfold plI at h
  split at h
  · exact ⟨_, by assumption, h⟩
  · simp at h
def evOp (P : Program) (s : Sl) (G : Hp) (nx : Nat) : Op → Option (AV × Hp × Nat)
  | .move x => some (evX s x, G, nx)
  | .assign x => some (evX s x, G, nx)
  | .pick c a b => match evX s c with
    | .v (.bool t) => some (if t = true then evX s a else evX s b, G, nx)
    | _ => none
  | .alloc t => match zrI P t with
    | some z => some (.ptr nx 0, G.upd nx (.var t (z.map .v)), nx + 1)
    | none => none
  | .box t x => if (evX s x).cells.all AV.one = true then some (.ptr nx 0, G.upd nx (.var t (evX s x).cells), nx + 1) else none
  | .build t ps => match zrI P t, plI P t with
    | some z, some _ => match evBuild P s t (z.map .v) ps.toList with
      | some cs => some (.agg cs, G, nx)
      | none => none
    | _, _ => none
  | .buildSlice t n ps => match elI P t with
    | some (e, k, _, _) => if ps.toList.map (·.1) = List.range n ∧ n * k ≤ 16777216 ∧ n ≤ 16777216 ∧ ps.toList.all (fun p => decide ((evX s p.2).cells.length = k) && (evX s p.2).cells.all AV.one) = true then
        match treesOf P G (ps.toList.flatMap fun p => (evX s p.2).cells) with
        | some (ts, G') => some (.row nx n, G'.upd nx (.row e ts), nx + 1)
        | none => none
      else none
    | none => none
  | .load t a => (evLoad P G t (evX s a)).map fun v => (v, G, nx)
  | .store t a v => (evStore P G t (evX s a) (evX s v)).map fun G' => (.any, G', nx)
  | .nilCheck x => if adr G (evX s x) = true then some (evX s x, G, nx) else match evX s x with
    | .fn f cs => some (.fn f cs, G, nx)
    | _ => none
  | .binOp op t x y _ => match conc (evX s x), conc (evX s y) with
    | some a, some b => (evBin P op t a b).map fun r => (.v r, G, nx)
    | _, _ => none
  | .unOp op _ x => match conc (evX s x) with
    | some a => (evUn op a).map fun r => (.v r, G, nx)
    | none => none
  | .convert src dst x => match evX s x with
    | .v (.int _ n) => match P.underlying src, P.underlying dst with
      | some _, some (.int k) => some (.v (.int k (k.wrap n)), G, nx)
      | _, _ => none
    | .v (.string b) => match P.underlying src, P.underlying dst with
      | some .string, some .string => some (.v (.string b), G, nx)
      | _, _ => none
    | _ => none
  | .makeFunc (.func f) first caps => if first = #[] then some (.fn f (caps.toList.map (evX s)), G, nx) else none
  | .fieldAddr t x f => match flI P t f with
    | some (off, _, _) => if adr G (evX s x) = true then
        match evX s x with
        | .ptr id o => some (.ptr id (o + off), G, nx)
        | .ea b o => some (.ea b (o + off), G, nx)
        | .cp cs o => some (.cp cs (o + off), G, nx)
        | _ => none
      else none
    | none => none
  | .field t x f => match flI P t f, evX s x with
    | some (off, b, k), .agg cs => if off + k ≤ cs.length then some (.mk b ((cs.drop off).take k), G, nx) else none
    | _, _ => none
  | .indexAddr t x i => (evIndexAddr P G t (evX s x) (evX s i)).map fun v => (v, G, nx)
  | .index t x i => match evX s x, evX s i with
    | .v (.string b), .v (.int _ n) => if h : 0 ≤ n ∧ n.toNat < b.size then (if isStr P t = true then some (.v (.int .u8 (b[n.toNat]'h.2).toNat), G, nx) else none) else none
    | _, _ => none
  | .slice t x lo hi none => (evSlice P G t (evX s x) (fun d => bnd s d lo) (fun d => bnd s d hi)).map fun r => (r.1, r.2, nx)
  | .extract x i => match evX s x with
    | .tup vs => match vs[i]? with
      | some v => some (v, G, nx)
      | none => none
    | _ => none
  | _ => none

/-- What an operation's run came to. -/
def Out (P : Program) (E : En) (w : World) (r : Result Next) (val : AV) (G' : Hp) : Prop :=
  ∃ w' E' u, (r = .ok (.value u) w' ∨ (r = .ok .skip w' ∧ u = undef)) ∧ VR P E' w' val u ∧ Rel P E' w' G' ∧ Ext E.W w w' ∧ En.Le w E E'
section
variable {P : Program} {E : En} {w : World} {G : Hp} {s : Sl} {ρ : Operand → Value}
theorem Out.same (hR : Rel P E w G) {val : AV} {u : Value} {r : Sem Value} (h : r.run P w = .ok u w) (hv : VR P E w val u) : Out P E w ((do pure (.value (← r)) : Sem Next).run P w) val G :=
  ⟨w, E, u, .inl (by simp [h]), hv, hR, Ext.refl _ _, En.Le.refl _ _⟩
theorem evX_sound {a : Act} (h : ∀ t, VR P E w (s t) (a.tmps.getD t undef)) (x : Operand) : VR P E w (evX s x) (a.eval x) := by
  cases x with
  | tmp t => exact h t
  | const v =>
    simp only [evX, Act.eval]
    split
    · rename_i hv; exact .tree (.v hv)
    · exact .any _
  | func f => exact .fn (us := []) rfl (fun i a u h => by simp at h)
  | global g => exact .any _
theorem adr_sound (hR : Rel P E w G) {a : AV} {u : Value} (ha : VR P E w a u) (h : adr G a = true) : ∃ ad, u = .pointer (some ad) := by
  unfold adr at h
  split at h
  · rename_i hr
    obtain ⟨ad, h1, _⟩ := rd_sound hR ha hr (by simp)
    exact ⟨ad, h1⟩
  · simp at h
theorem flI_spec {t : TypeId} {f off k : Nat} {b : Bool} (h : flI P t f = some (off, b, k)) : ∃ fs fd, P.underlying t = some (.struct fs) ∧ fs[f]? = some fd ∧ fd.offset = off ∧ tyI P fd.type = some (b, k) := by
  unfold flI at h
  split at h
  · rename_i fs hu
    split at h
    · rename_i fd hf
      split at h
      · rename_i b' k' ht
        simp only [Option.some.injEq, Prod.mk.injEq] at h
        obtain ⟨rfl, rfl, rfl⟩ := h
        exact ⟨fs, fd, hu, hf, rfl, ht⟩
      · simp at h
    · simp at h
  · simp at h
theorem fieldAt_sound {t : TypeId} {f off k : Nat} {b : Bool} (h : flI P t f = some (off, b, k)) (ad : Addr) : (Instr.fieldAt t (.pointer (some ad)) f).run P w = .ok (.pointer (some (ad.add off))) w := by
  obtain ⟨fs, fd, hu, hf, rfl, ht⟩ := flI_spec h
  obtain ⟨_, h2, h3, _⟩ := tyI_spec ht
  have : k ≠ 0 := by omega
  simp [Instr.fieldAt, run_underlying hu, hf, Instr.sureAddr, fieldPlace, h2, this]
theorem VR.ptr_add {id o off : Nat} {ad : Addr} (h : VR P E w (.ptr id o) (.pointer (some ad))) : VR P E w (.ptr id (o + off)) (.pointer (some (ad.add off))) := by
  cases h with
  | tree h => cases h
  | ptr hK h1 h =>
    refine .ptr hK rfl (fun b hb => ?_)
    have := h b hb
    injection this with this
    injection this with this
    rw [this, add_lit]
theorem VR.ea_add {base : AV} {o off : Nat} {ad : Addr} (h : VR P E w (.ea base o) (.pointer (some ad))) : VR P E w (.ea base (o + off)) (.pointer (some (ad.add off))) := by
  cases h with
  | tree h => cases h
  | ea h0 h1 h =>
    refine .ea h0 rfl (fun ad' n cap e => ?_)
    have := h ad' n cap e
    injection this with this
    injection this with this
    rw [this, add_add]
theorem VR.cp_add {cs : List AV} {o off : Nat} {ad : Addr} (h : VR P E w (.cp cs o) (.pointer (some ad))) : VR P E w (.cp cs (o + off)) (.pointer (some (ad.add off))) := by
  generalize hu : Value.pointer (some ad) = u at h
  cases h with
  | tree h => cases h
  | @cp _ us ad0 _ hb hl h0 hc hr =>
    injection hu with hu
    injection hu with hu
    rw [hu, add_add]
    exact .cp hb hl h0 hc hr
theorem zrI_spec {t : TypeId} {z : List Value} (h : zrI P t = some z) : ∃ v : Value, (∀ w, (zeroValue t).run P w = .ok v w) ∧ v.cells.toList = z ∧ (∀ x ∈ z, x.oneCell' = true) ∧ (P.info? t).bind (·.zero) = some v := by
  unfold zrI at h
  split at h
  · rename_i i hi
    split at h
    · rename_i v hv
      split at h
      · rename_i ho
        injection h with h
        refine ⟨v, fun w => by simp [zeroValue, typeInfo, hi, hv], h, fun x hx => ?_, by simp [hi, hv]⟩
        rw [← h] at hx
        exact (Array.all_eq_true_iff_forall_mem.1 ho) x (by simpa using hx)
      · simp at h
    · simp at h
  · simp at h
theorem vs_all2 {z : List Value} (h : ∀ x ∈ z, x.oneCell' = true) : All2 (VR P E w) (z.map .v) z :=
  ⟨by simp, fun i a b ha hb => by
    rw [List.getElem?_map, hb] at ha
    simp at ha
    subst ha
    exact .tree (.v (h b (List.mem_of_getElem? hb)))⟩
theorem All2.ext {E' : En} {w' : World} {as : List AV} {us : List Value} (h : All2 (VR P E w) as us) (he : Ext E.W w w') (hE : En.Le w E E') : All2 (VR P E' w') as us := h.imp fun _ _ hab => hab.ext he hE
/-- A new variable of the call's own. -/
theorem var_sound (hR : Rel P E w G) {nx : Nat} (hn : G nx = none) {t : TypeId} {cs : List AV} {us : List Value} (h : All2 (VR P E w) cs us) (h1 : ∀ u ∈ us, u.oneCell' = true) :
    ∃ E', VR P E' (w.alloc (.cells us.toArray t)) (.ptr nx 0) (.pointer (some ⟨w.heap.size, 0, none⟩)) ∧ Rel P E' (w.alloc (.cells us.toArray t)) (G.upd nx (.var t cs)) ∧ Ext E.W w (w.alloc (.cells us.toArray t)) ∧ En.Le w E E' := by
  have hle := En.le_add hR hn
  have hext := Ext.alloc E.W w (.cells us.toArray t)
  refine ⟨_, .ptr (show (E.add nx w.heap.size).K nx from .inl rfl) rfl (fun b hb => ?_), hR.new hn _ rfl _ ⟨us, heap_alloc_new w _, h.1, h1, (h.ext hext hle).2⟩, hext, hle⟩
  simp [En.add] at hb
  rw [hb]
end
end Go.Proofs.YtomidniaekeafaaAbs
