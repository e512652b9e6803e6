/- Scalars: operators, equality, parts. -/
import Derived.Test.YtomidniaekeafaaA4
import Derived.WideLaws
namespace Go.Proofs.YtomidniaekeafaaAbs
open Go Go.RowKit

def evX (s : Sl) : Operand → AV
  | .tmp t => s t
  | .const x => if x.oneCell' = true then .v x else .any
  | .func f => .fn f []
  | .global _ => .any
def partV (P : Program) (t : TypeId) (xs : Array Value) (off : Nat) : Option Value :=
  match tyI P t with
  | some (true, k) => some (.agg (xs.extract off (off + k)))
  | some (false, _) => xs[off]?
  | none => none
/-- Equality of two values of a type. -/
def eqV (P : Program) : Nat → TypeId → Value → Value → Option Bool
  | 0, _, _, _ => none
  | d + 1, t, x, y => match P.underlying t with
    | some (.int _) => match x, y with
      | .int k a, .int k' b => if k = k' then some (a == b) else none
      | _, _ => none
    | some .bool => match x, y with
      | .bool a, .bool b => some (a == b)
      | _, _ => none
    | some .string => match x, y with
      | .string a, .string b => some (a.toList == b.toList)
      | _, _ => none
    | some (.struct fs) => match x, y with
      | .agg xs, .agg ys => if P.stoodInHeld t = false then
          fs.toList.foldr (fun f acc => match acc with
            | none => none
            | some r => if f.name = "_" then none else match partV P f.type xs f.offset, partV P f.type ys f.offset with
              | some a, some b => match eqV P d f.type a b with
                | some q => some (q && r)
                | none => none
              | _, _ => none) (some true)
        else none
      | _, _ => none
    | _ => none
def evBin (P : Program) (op : BinOp) (t : TypeId) (x y : Value) : Option Value :=
  match x, y with
  | .int k a, .int k' b => if k = k' then
      match op with
      | .add => some (.int k (k.wrap (a + b)))
      | .sub => some (.int k (k.wrap (a - b)))
      | .mul => some (.int k (k.wrap (a * b)))
      | .quo => if b = 0 then none else some (.int k (k.wrap (a.tdiv b)))
      | .rem => if b = 0 then none else some (.int k (a.tmod b))
      | .and => some (.int k (bits .and k a b))
      | .or => some (.int k (bits .or k a b))
      | .xor => some (.int k (bits .xor k a b))
      | .eql => some (.bool (a == b))
      | .neq => some (.bool (a != b))
      | .lss => some (.bool (decide (a < b)))
      | .leq => some (.bool (decide (a ≤ b)))
      | .gtr => some (.bool (decide (a > b)))
      | .geq => some (.bool (decide (a ≥ b)))
      | _ => none
    else none
  | .string a, .string b =>
      match op with
      | .add => if a.size + b.size ≤ 9223372036854775807 then some (.string (a ++ b)) else none
      | .eql => some (.bool (a.toList == b.toList))
      | .neq => some (.bool (!(a.toList == b.toList)))
      | .lss => some (.bool (Op.bytesLess a.toList b.toList))
      | .leq => some (.bool (Op.bytesLess a.toList b.toList || a.toList == b.toList))
      | .gtr => some (.bool (!(Op.bytesLess a.toList b.toList || a.toList == b.toList)))
      | .geq => some (.bool (!(Op.bytesLess a.toList b.toList)))
      | _ => none
  | .bool a, .bool b => match P.underlying t with
      | some .bool => match op with
        | .eql => some (.bool (a == b))
        | .neq => some (.bool (!(a == b)))
        | _ => none
      | _ => none
  | .agg xs, .agg ys => if P.eqGuardType P.depth t = false then
      match op with
      | .eql => (eqV P 20 t (.agg xs) (.agg ys)).map .bool
      | .neq => (eqV P 20 t (.agg xs) (.agg ys)).map fun r => .bool (!r)
      | _ => none
    else none
  | _, _ => none
def evUn (op : UnOp) (x : Value) : Option Value :=
  match op, x with
  | .neg, .int k n => some (.int k (k.wrap (0 - n)))
  | .not, .bool b => some (.bool !b)
  | _, _ => none

section
variable {P : Program} {E : En} {w : World} {G : Hp}
theorem part_sound {t : TypeId} {xs : Array Value} {off : Nat} {v : Value} (h : partV P t xs off = some v) : (part t xs off).run P w = .ok v w := by
  unfold partV at h
  cases hT : tyI P t with
  | none => simp [hT] at h
  | some bk =>
    obtain ⟨b, k⟩ := bk
    obtain ⟨h1, h2, _⟩ := tyI_spec hT
    cases b with
    | true => simp [hT] at h; subst h; simp [part, h1, h2]
    | false => simp [hT] at h; simp [part, h1, h]
theorem eqV_sound : ∀ (d D : Nat) (t : TypeId) (x y : Value) (r : Bool), d ≤ D → eqV P d t x y = some r → (Op.equalIn D t x y).run P w = .ok r w
  | 0, _, _, _, _, _, _, h => by simp [eqV] at h
  | d + 1, 0, _, _, _, _, hd, _ => by omega
  | d + 1, D + 1, t, x, y, r, hd, h => by
    rw [eqV.eq_def] at h
    dsimp only at h
    cases hu : P.underlying t with
    | none => simp [hu] at h
    | some ds =>
      cases ds with
      | int k0 =>
        rw [hu] at h
        dsimp only at h
        split at h
        · split at h
          · rename_i hk; subst hk; injection h with h; subst h; exact run_equalIn_int w D t _ _ _ _ hu
          · simp at h
        · simp at h
      | bool =>
        rw [hu] at h
        dsimp only at h
        split at h
        · injection h with h; subst h; exact run_equalIn_bool' w D t _ _ hu
        · simp at h
      | string =>
        rw [hu] at h
        dsimp only at h
        split at h
        · injection h with h; subst h; exact run_equalIn_string w D t _ _ hu
        · simp at h
      | struct fs =>
        rw [hu] at h
        dsimp only at h
        split at h
        · rename_i xs ys
          split at h
          · rename_i hst
            have hf : P.fieldsOf t = fs := by simp [Program.fieldsOf, hu]
            rw [run_equalIn_struct w D t xs ys (by rw [hf]; exact hu) hst, hf]
            generalize fs.toList = l at h
            induction l generalizing r with
            | nil => simp at h; subst h; simp [Op.eqFields]
            | cons f l ih =>
              simp only [List.foldr_cons] at h
              split at h
              · simp at h
              · rename_i r' hr'
                split at h
                · simp at h
                · rename_i hn
                  split at h
                  · rename_i a b ha hb
                    split at h
                    · rename_i q hq
                      injection h with h
                      have h1 := part_sound (w := w) ha
                      have h2 := part_sound (w := w) hb
                      have h3 := eqV_sound d D f.type a b q (by omega) hq
                      have h4 := ih r' hr'
                      simp only [Op.eqFields, if_pos hn, Sem.run_bind, h1, h2, h3, Result.andThen_ok]
                      cases q
                      · simp at h; subst h; simp
                      · simp at h; subst h; simpa using h4
                    · simp at h
                  · simp at h
          · simp at h
        · simp at h
      | _ => simp [hu] at h
theorem conc_of {cs : List AV} {us : List Value} {xs : List Value} (h : All2 (VR P E w) cs us) (hc : cs.mapM conc1 = some xs) : us = xs := by
  induction cs generalizing us xs with
  | nil =>
    simp at hc; subst hc
    exact List.eq_nil_of_length_eq_zero (by simpa using h.1)
  | cons c cs ih =>
    obtain ⟨u, us, rfl, h1, h2⟩ := h.uncons
    simp only [List.mapM_cons, Option.bind_eq_bind, Option.bind_eq_some_iff, Option.pure_def] at hc
    obtain ⟨x, hx, xs', hxs, he⟩ := hc
    injection he with he
    subst he
    rw [ih h2 hxs]
    cases c with
    | v y => simp [conc1] at hx; subst hx; rw [h1.v_inv.1]
    | _ => simp [conc1] at hx
theorem conc_sound {a : AV} {u x : Value} (h : VR P E w a u) (hc : conc a = some x) : u = x := by
  cases a with
  | v y => simp [conc] at hc; subst hc; exact h.v_inv.1
  | agg cs =>
    obtain ⟨us, rfl, hl, hv, _⟩ := h.agg_inv
    simp only [conc] at hc
    cases hm : cs.mapM conc1 with
    | none => simp [hm] at hc
    | some xs =>
      simp [hm] at hc
      subst hc
      rw [conc_of ⟨hl, hv⟩ hm]
  | _ => simp [conc] at hc
theorem bin_sound {op : BinOp} {t : TypeId} {x y : Operand} {a b r : Value} (h : evBin P op t a b = some r) : ((do eqGuard op t x y a b; binOp op t a b : Sem Value)).run P w = .ok r w := by
  unfold evBin at h
  split at h
  · split at h
    · rename_i k hk
      subst hk
      cases op <;> dsimp only at h <;> first
        | (injection h with h; subst h; simp [eqGuard, binOp, Op.intArith, Op.intCmp, Op.intBits, Go.bits]; done)
        | (split at h
           · simp at h
           · rename_i hb; injection h with h; subst h; simp [eqGuard, binOp, Op.intDiv, hb])
        | simp at h
    · simp at h
  · rename_i a b
    cases op <;> dsimp only at h <;> first
      | (injection h with h; subst h; simp [eqGuard, binOp, Op.stringOp]; done)
      | (split at h
         · rename_i hl
           injection h with h; subst h
           have hm : IntKind.i64.max = 9223372036854775807 := by decide
           simp [eqGuard, binOp, Op.stringOp, hm]
           omega
         · simp at h)
      | simp at h
  · rename_i a b
    split at h
    · rename_i hu
      cases op <;> dsimp only at h <;> first
        | (injection h with h; subst h; simp [eqGuard, run_eql_bool w t a b hu, run_neq_bool w t a b hu]; done)
        | simp at h
    · simp at h
  · rename_i xs ys
    split at h
    · rename_i hg
      cases op <;> dsimp only at h <;> first
        | simp at h; done
        | (cases he : eqV P 20 t (.agg xs) (.agg ys) with
           | none => simp [he] at h
           | some q =>
             simp [he] at h
             subst h
             simp only [Sem.run_bind, run_eqGuard_agg w _ t x y xs ys hg, Result.andThen_ok, run_eql_struct, run_neq_struct, eqV_sound 20 10000 t _ _ q (by omega) he])
    · simp at h
  · simp at h
theorem un_sound {op : UnOp} {x r : Value} (h : evUn op x = some r) : (Op.unary op x).run P w = .ok r w := by
  unfold evUn at h
  split at h
  · injection h with h; subst h; simp [Op.unary, Op.intArith]
  · injection h with h; subst h; simp [Op.unary]
  · simp at h
end
end Go.Proofs.YtomidniaekeafaaAbs
