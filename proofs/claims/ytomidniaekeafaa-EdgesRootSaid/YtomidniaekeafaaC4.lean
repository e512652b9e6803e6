/- A region's operations, one by one, upon the machine. -/
import Derived.Test.YtomidniaekeafaaC3
import Derived.Laws.Cover3
namespace Go.Proofs.YtomidniaekeafaaAbs
open Go Go.RowKit

section
variable {P : Program} {N : Nat} {E1 : En} {w1 : World} {s s' : Sl} {G G' : Hp} {a : Act} {w w' : World} {E E' : En} {ops : Array Oper}
theorem Out.pure {r : Result Next} {val : AV} {u : Value} (hR : Rel P E w G) (hr : r = .ok (.value u) w) (hv : VR P E w val u) : Out P E w r val G :=
  ⟨w, E, u, .inl hr, hv, hR, Ext.refl _ _, En.Le.refl _ _⟩
theorem len_slice {t e : TypeId} (h : P.underlying t = some (.slice e)) (ty : TypeId) (A : Option Addr) (n c : Nat) : (Builtin.len_ #[t] ty #[.slice A n c]).run P w = .ok (goInt n) w := by
  simp [Builtin.len_, run_underlying h]
theorem len_string {t : TypeId} (h : P.underlying t = some .string) (ty : TypeId) (b : ByteArray) : (Builtin.len_ #[t] ty #[.string b]).run P w = .ok (goInt b.size) w := by
  simp [Builtin.len_, run_underlying h]
theorem lenX_sound {x : AV} {n : Nat} {u : Value} (hR : Rel P E w G) (hx : VR P E w x u) (h : lenX G x = some n) : ∃ A c, u = .slice A n c := by
  cases x <;> simp [lenX] at h
  · subst h
    cases hx.sl_inv with
    | nil A hn => exact ⟨_, _, rfl⟩
    | sl => exact ⟨_, _, rfl⟩
  · rename_i id m
    cases hG : G id with
    | none => simp [hG] at h
    | some o =>
      simp [hG] at h
      obtain ⟨ha, rfl⟩ := h
      rcases hR.obj id o hG ha with ⟨b, hb, _⟩ | ⟨hN, _⟩
      · obtain ⟨cap, e, rfl, _⟩ := hx.row_inv hb; exact ⟨_, _, rfl⟩
      · obtain ⟨rfl, rfl⟩ := hx.row_nil hN; exact ⟨_, _, rfl⟩
theorem lenC_sound {t : TypeId} {x val : AV} {u : Value} (hR : Rel P E w G) (hx : VR P E w x u) (h : lenC P G t x = some val) (ty : TypeId) : ∃ n : Int, val = .v (goInt n) ∧ (Builtin.len_ #[t] ty #[u]).run P w = .ok (goInt n) w := by
  have sl : ∀ {n : Nat} {y : TypeId × Nat × Nat × List Value} {A : Option Addr} {c : Nat}, elI P t = some y → (Builtin.len_ #[t] ty #[.slice A n c]).run P w = .ok (goInt n) w := fun {n y A c} hel => by
    obtain ⟨e1, k1, by1, z1⟩ := y
    exact len_slice (elI_spec hel).1 ty A n c
  unfold lenC at h
  split at h
  · split at h
    · rename_i b hs
      injection h with h
      subst h
      obtain ⟨rfl, _⟩ := hx.v_inv
      exact ⟨_, rfl, len_string (isStr_spec hs) ty b⟩
    · cases h
  · rename_i n cs
    split at h
    · rename_i y hel
      injection h with h
      subst h
      obtain ⟨A, c, rfl⟩ := lenX_sound hR hx (n := n) rfl
      exact ⟨_, rfl, sl hel⟩
    · cases h
  · rename_i id n
    split at h
    · rename_i n y hl hel
      injection h with h
      subst h
      obtain ⟨A, c, rfl⟩ := lenX_sound hR hx hl
      exact ⟨_, rfl, sl hel⟩
    · cases h
  · cases h
theorem toA {α : Type} {a : Array α} {l : List α} (h : a.toList = l) : a = l.toArray := by rw [← h]
theorem run_builtin {o : Oper} {c : Call} {b : Builtin} (ho : o.op = .call c) (hb : c.callee = .builtin b) (ρ : Operand → Value) :
    (execOp ρ o).run P w = (builtin b c.argTypes o.type (c.args.map fun | .const _ => true | _ => false) (c.args.map ρ)).run P w := by
  simp only [execOp, ho, resolve, hb]
  rfl
theorem run_eql_slice_nil (t e : TypeId) (A : Option Addr) (l c : Nat) (h : P.underlying t = some (.slice e)) : (binOp .eql t (.slice A l c) (.slice none 0 0)).run P w = .ok (.bool A.isNone) w := by
  simp [binOp, run_equal_slice_nil w t e A l c h]
theorem nilCmp_sound {op : BinOp} {t : TypeId} {a b v : AV} {ua ub : Value} {x y : Operand} (ha : VR P E w a ua) (hb : VR P E w b ub) (h : nilCmp P op t a b = some v) : ∃ u, ((do eqGuard op t x y ua ub; binOp op t ua ub : Sem Value)).run P w = .ok u w ∧ VR P E w v u := by
  unfold nilCmp at h
  split at h
  · rename_i n cs
    obtain ⟨rfl, _⟩ := hb.v_inv
    have key : ∃ A c, ua = .slice A n c ∧ (cs.isEmpty = false → A.isNone = false) := by
      cases ha.sl_inv with
      | nil A hn => exact ⟨_, _, rfl, fun h => by simp at h⟩
      | sl => exact ⟨_, _, rfl, fun _ => rfl⟩
    obtain ⟨A, c, rfl, hA⟩ := key
    split at h
    · rename_i q hel
      obtain ⟨e, k, by', z⟩ := q
      injection h with h
      subst h
      refine ⟨.bool A.isNone, ?_, ?_⟩
      · rw [Sem.run_bind]; simp [eqGuard, run_eql_slice_nil t e A n c (elI_spec hel).1]
      · cases hc : cs.isEmpty with
        | true => simp; exact .bl _
        | false => simp [hA hc]; exact .tree (.v rfl)
    · rename_i q hel
      obtain ⟨e, k, by', z⟩ := q
      injection h with h
      subst h
      refine ⟨.bool (!A.isNone), ?_, ?_⟩
      · rw [Sem.run_bind]; simp [eqGuard, run_neq_slice_nil w t e A n c (elI_spec hel).1]
      · cases hc : cs.isEmpty with
        | true => simp; exact .bl _
        | false => simp [hA hc]; exact .tree (.v rfl)
    · cases h
  · cases h
theorem oper_sound (hR : Rel P E w G) (hx : ∀ x, VR P E w (evX s x) (a.eval x)) {nx nx' : Nat} (hn : G nx = none) {o : Oper} {val : AV} (h : evC P s G nx o = some (val, G', nx')) : Out P E w ((execOp a.eval o).run P w) val G' := by
  unfold evC at h
  split at h
  · rename_i c hop
    split at h
    · rename_i hb
      split at h
      · rename_i x t hargs htys
        have hrun := run_builtin (P := P) (w := w) hop hb a.eval
        rw [toA hargs, toA htys] at hrun
        simp only [Option.map_eq_some_iff, Prod.mk.injEq] at h
        obtain ⟨v, hv, rfl, rfl, rfl⟩ := h
        obtain ⟨n, rfl, hr⟩ := lenC_sound hR (hx x) hv o.type
        refine .pure hR (u := goInt n) ?_ (.tree (.v rfl))
        rw [hrun]
        simp only [List.map_toArray, List.map]
        simp [builtin, hr]
      · simp at h
    · rename_i hb
      split at h
      · rename_i x y t t' hargs htys
        split at h
        · rename_i ht
          subst ht
          obtain ⟨v', w', E', hr, hv, hR', he, hle⟩ := append_sound hR hn (hx x) (hx y) h (ty := o.type)
          have hrun := run_builtin (P := P) (w := w) hop hb a.eval
          rw [toA hargs, toA htys] at hrun
          refine ⟨w', E', v', .inl ?_, hv, hR', he, hle⟩
          rw [hrun]
          simp only [List.map_toArray, List.map]
          simp [builtin, hr]
        · simp at h
      · simp at h
    · simp at h
  · rename_i hop
    split at h
    · rename_i e k by' z hel
      simp only [Option.some.injEq, Prod.mk.injEq] at h
      obtain ⟨rfl, rfl, rfl⟩ := h
      have hA := Rel.app (w' := w) (e := e) (all := []) hR hn (id := none) (b := none) (fun j hj => by cases hj) (fun x hx => by cases hx) (Ext.refl _ _) (fun x _ _ => rfl) (fun x hx => by cases hx) (fun x hx => by cases hx) (fun _ => rfl)
      refine ⟨w, E.app nx none none, .slice none 0 0, .inl ?_, ?_, hA.1, Ext.refl _ _, hA.2⟩
      · simp [execOp, hop, Act.eval]
      · refine .row (show (E.app nx none none).K nx from .inl rfl) rfl (fun b hb => ?_) (fun _ => ⟨rfl, rfl⟩)
        simp [En.app] at hb
    · simp at h
  · rename_i op t x y z hop
    split at h
    · rename_i v hv
      simp only [Option.some.injEq, Prod.mk.injEq] at h
      obtain ⟨rfl, rfl, rfl⟩ := h
      obtain ⟨u, hu, hvu⟩ := nilCmp_sound (x := x) (y := y) (hx x) (hx y) hv
      refine .pure hR (u := u) ?_ hvu
      simp only [execOp, hop]
      rw [Sem.run_bind, hu]
      rfl
    · rw [← hop] at h; exact op_sound hR hx hn h
  · rename_i t hop
    split at h
    · simp only [Option.some.injEq, Prod.mk.injEq] at h
      obtain ⟨rfl, rfl, rfl⟩ := h
      have hle := En.le_add hR hn
      have hext := Ext.alloc E.W w (.map #[] 0)
      have hR' := hR.new hn (.map []) rfl (.map #[] 0) ⟨#[], 0, heap_alloc_new w _, rfl, fun i e en h => by simp at h, by simp, fun en h => by simp at h⟩
      refine ⟨w.alloc (.map #[] 0), _, .map (some w.heap.size), .inl ?_, .mp (show (E.add nx w.heap.size).K nx from .inl rfl) rfl (fun b hb => ?_), hR', hext, hle⟩
      · simp [execOp, hop, Instr.makeMap]
      · simp [En.add] at hb; rw [hb]
    · cases h
  · rename_i t x k ok hop
    simp only [Option.map_eq_some_iff, Prod.mk.injEq] at h
    obtain ⟨v, hv, rfl, rfl, rfl⟩ := h
    obtain ⟨u, hu, hvu⟩ := lookup_sound hR (hx x) (hx k) hv
    refine .pure hR (u := u) ?_ hvu
    simp [execOp, hop, hu]
  · rename_i t m k v hop
    simp only [Option.map_eq_some_iff, Prod.mk.injEq] at h
    obtain ⟨G1, hv, rfl, rfl, rfl⟩ := h
    obtain ⟨w', hu, hR', he⟩ := mapUpdate_sound hR (hx m) (hx k) (hx v) hv
    exact ⟨w', E, undef, .inr ⟨by simp [execOp, hop, hu], rfl⟩, .any _, hR', he, En.Le.refl _ _⟩
  · exact op_sound hR hx hn h
end
end Go.Proofs.YtomidniaekeafaaAbs
