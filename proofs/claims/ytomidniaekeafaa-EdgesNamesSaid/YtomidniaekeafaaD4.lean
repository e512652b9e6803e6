/- Data in rows: a layer above cells. -/
import Derived.Test.YtomidniaekeafaaD3
namespace Go.Proofs.YtomidniaekeafaaAbs
open Go Go.RowKit

/-- How an element lies in cells: always in as many. -/
class Wid {α : Type} (c : α → List AV) (w : outParam Nat) : Prop where
  len : ∀ a, (c a).length = w
  pos : 0 < w
def flat {α : Type} (c : α → List AV) (l : List α) : List AV := l.flatMap c
def rowT {α : Type} (c : α → List AV) (l : List α) : AV := .sl l.length (flat c l)
def nth {α : Type} [Inhabited α] (l : List α) (i : Nat) : α := l.getD i default
def getC (cs : List AV) (off k : Nat) : Option (List AV) := if off + k ≤ cs.length then some ((cs.drop off).take k) else none
/-- The address of a part of an element: of a tree, of a row of the call's own. -/
def eaR {α : Type} (c : α → List AV) (w : Nat) (l : List α) (i f : Nat) : AV := .ea (rowT c l) (i * w + f)
def eaO (id n w i f : Nat) : AV := .ea (.row id n) (i * w + f)
def addOff : AV → Nat → Option AV
  | .ptr id o, off => some (.ptr id (o + off))
  | .ea b o, off => some (.ea b (o + off))
  | .cp cs o, off => some (.cp cs (o + off))
  | _, _ => none
section
variable {P : Program} {s : Sl} {G : Hp} {nx : Nat} {α : Type} {c : α → List AV} {w : Nat} {l : List α}
theorem nth_eq [Inhabited α] {i : Nat} (h : i < l.length) : nth l i = l[i] := by simp [nth, List.getD_eq_getElem?_getD, h]
theorem flat_len [Wid c w] : (flat c l).length = l.length * w := by
  unfold flat
  induction l with
  | nil => simp
  | cons a l ih => rw [List.flatMap_cons, List.length_append, ih, Wid.len (c := c), List.length_cons, Nat.add_mul]; omega
theorem flat_drop [Inhabited α] [Wid c w] {i f : Nat} (h : i < l.length) (hf : f ≤ w) : ∃ r, (flat c l).drop (i * w + f) = (c (nth l i)).drop f ++ r := by
  unfold flat
  induction l generalizing i with
  | nil => simp at h
  | cons a l ih =>
    rw [List.flatMap_cons]
    cases i with
    | zero =>
      refine ⟨l.flatMap c, ?_⟩
      rw [Nat.zero_mul, Nat.zero_add, List.drop_append_of_le_length (by rw [Wid.len (c := c)]; exact hf)]
      rfl
    | succ i =>
      obtain ⟨r, hr⟩ := ih (i := i) (by simpa using h)
      refine ⟨r, ?_⟩
      rw [List.drop_append, List.drop_eq_nil_of_le (by rw [Wid.len (c := c), Nat.add_mul]; omega), List.nil_append, Wid.len (c := c)]
      have : (i + 1) * w + f - w = i * w + f := by rw [Nat.add_mul]; omega
      rw [this, hr]
      rfl
theorem getC_flat [Inhabited α] [Wid c w] {i f k : Nat} (h : i < l.length) (hk : f + k ≤ w) : getC (flat c l) (i * w + f) k = getC (c (nth l i)) f k := by
  obtain ⟨r, hr⟩ := flat_drop (c := c) h (show f ≤ w by omega)
  have hl : ((c (nth l i)).drop f).length = w - f := by rw [List.length_drop, Wid.len (c := c)]
  have hlt : i * w + w ≤ l.length * w := by rw [← Nat.succ_mul]; exact Nat.mul_le_mul_right _ h
  unfold getC
  rw [if_pos (by rw [flat_len]; omega), if_pos (by rw [Wid.len (c := c)]; exact hk), hr, List.take_append_of_le_length (by omega)]
theorem tyI_pos {t : TypeId} {b : Bool} {k : Nat} (h : tyI P t = some (b, k)) : 0 < k := (tyI_spec h).2.2.1
@[simp] theorem evLoad_ptr (t : TypeId) (id off : Nat) : evLoad P G t (.ptr id off) = match tyI P t, G id with
    | some (b, k), some (.var _ cs) => (getC cs off k).map (AV.mk b)
    | _, _ => none := by
  unfold evLoad
  cases hT : tyI P t with
  | none => rfl
  | some r =>
    obtain ⟨b, k⟩ := r
    have := tyI_pos hT
    cases hG : G id with
    | none => simp [rdAt, hG]
    | some o =>
      cases o <;> simp [rdAt, hG, getC]
      rename_i cs
      by_cases h : off + k ≤ cs.length
      · rw [if_pos h, if_pos (by omega)]
      · rw [if_neg h, if_neg (by omega)]
@[simp] theorem evStore_ptr (t : TypeId) (id off : Nat) (v : AV) : evStore P G t (.ptr id off) v = match tyI P t with
    | none => none
    | some (_, k) => if v.cells.length = k ∧ v.cells.all AV.one = true then
        match G id with
        | some (.var t0 cs) => if off + k ≤ cs.length then some (G.upd id (.var t0 (splice cs off v.cells))) else none
        | _ => none
      else none := by
  unfold evStore
  cases tyI P t with
  | none => rfl
  | some q => rfl
@[simp] theorem evLoad_cp (t : TypeId) (off : Nat) (cs : List AV) : evLoad P G t (.cp cs off) = match tyI P t with
    | some (b, k) => (getC cs off k).map (AV.mk b)
    | none => none := by
  unfold evLoad
  cases hT : tyI P t with
  | none => rfl
  | some r =>
    obtain ⟨b, k⟩ := r
    have := tyI_pos hT
    simp [rdAt, getC]
    by_cases h : off + k ≤ cs.length
    · rw [if_pos h, if_pos (by omega)]
    · rw [if_neg h, if_neg (by omega)]
@[simp] theorem seeA_v (x : Value) : seeA P G (.v x) = some (.v x) := rfl
@[simp] theorem seeA_sl (n : Nat) (cs : List AV) : seeA P G (.sl n cs) = some (.sl n cs) := rfl
@[simp] theorem seeA_rowT : seeA P G (rowT c l) = some (rowT c l) := rfl
@[simp] theorem seeA_row (id n : Nat) : seeA P G (.row id n) = treeOf P G (.row id n) := rfl
@[simp] theorem seeA_cp (cs : List AV) (off : Nat) : seeA P G (.cp cs off) = some (.cp cs off) := rfl
@[simp] theorem seeA_agg (cs : List AV) : seeA P G (.agg cs) = (looksA P G cs).map .agg := rfl
@[simp] theorem seeA_fn (f : Nat) (cs : List AV) : seeA P G (.fn f cs) = (looksA P G cs).map (.fn f) := rfl
@[simp] theorem lookA_v (x : Value) : lookA P G (.v x) = some (.v x) := rfl
@[simp] theorem lookA_sl (n : Nat) (cs : List AV) : lookA P G (.sl n cs) = some (.sl n cs) := rfl
@[simp] theorem lookA_rowT : lookA P G (rowT c l) = some (rowT c l) := rfl
@[simp] theorem lookA_row (id n : Nat) : lookA P G (.row id n) = treeOf P G (.row id n) := rfl
@[simp] theorem lookA_cp (cs : List AV) (off : Nat) : lookA P G (.cp cs off) = some (.cp cs off) := rfl
@[simp] theorem lookA_ptr (id off : Nat) : lookA P G (.ptr id off) = match G id with
    | some (.var _ cs) => match cs.mapM (fun a => match a with
        | .v x => some (.v x)
        | .sl n cs => some (.sl n cs)
        | _ => none) with
      | some ts => if 0 < ts.length then some (.cp ts off) else none
      | none => none
    | _ => none := rfl
@[simp] theorem adr_cp (cs : List AV) (off : Nat) : adr G (.cp cs off) = decide (off < cs.length) := by
  unfold adr
  simp only [rdAt]
  by_cases h : off < cs.length
  · have : (cs.drop off).length ≠ 0 := by rw [List.length_drop]; omega
    cases hd : cs.drop off with
    | nil => rw [hd] at this; simp at this
    | cons a r => simp [h]
  · rw [List.drop_eq_nil_of_le (by omega)]; simp [h]
theorem evLoad_sl (t : TypeId) (n off : Nat) (cs : List AV) : evLoad P G t (.ea (.sl n cs) off) = match tyI P t with
    | some (b, k) => (getC cs off k).map (AV.mk b)
    | none => none := by
  unfold evLoad
  cases hT : tyI P t with
  | none => rfl
  | some r =>
    obtain ⟨b, k⟩ := r
    have := tyI_pos hT
    simp [rdAt, getC]
    by_cases h : off + k ≤ cs.length
    · rw [if_pos h, if_pos (by omega)]
    · rw [if_neg h, if_neg (by omega)]
theorem evLoad_row (t : TypeId) (id n off : Nat) : evLoad P G t (.ea (.row id n) off) = match tyI P t, G id with
    | some (b, k), some (.row _ cs) => (getC cs off k).map (AV.mk b)
    | some (b, k), some (.frz _ cs) => (getC cs off k).map (AV.mk b)
    | _, _ => none := by
  unfold evLoad
  cases hT : tyI P t with
  | none => rfl
  | some r =>
    obtain ⟨b, k⟩ := r
    have := tyI_pos hT
    cases hG : G id with
    | none => simp [rdAt, hG]
    | some o =>
      cases o <;> simp [rdAt, hG, getC]
      all_goals
        rename_i cs
        by_cases h : off + k ≤ cs.length
        · rw [if_pos h, if_pos (by omega)]
        · rw [if_neg h, if_neg (by omega)]
/-- A read of a part of an element of a tree. -/
@[simp] theorem evLoad_eaR [Inhabited α] [Wid c w] (t : TypeId) {i f : Nat} (h : i < l.length) : evLoad P G t (eaR c w l i f) = match tyI P t with
    | some (b, k) => if f + k ≤ w then (getC (c (nth l i)) f k).map (AV.mk b) else evLoad P G t (eaR c w l i f)
    | none => none := by
  cases hT : tyI P t with
  | none => unfold eaR rowT; rw [evLoad_sl, hT]
  | some r =>
    obtain ⟨b, k⟩ := r
    simp only
    split
    · rename_i hk
      unfold eaR rowT
      rw [evLoad_sl, hT]
      show Option.map (AV.mk b) (getC (flat c l) (i * w + f) k) = _
      rw [getC_flat (c := c) h hk]
    · rfl
@[simp] theorem lenC_str (t : TypeId) (b : ByteArray) : lenC P G t (.v (.string b)) = if isStr P t = true then some (.v (.int .i64 b.size)) else none := rfl
@[simp] theorem lenC_sl (t : TypeId) (n : Nat) (cs : List AV) : lenC P G t (.sl n cs) = match elI P t with
    | some _ => some (.v (.int .i64 n))
    | none => none := rfl
@[simp] theorem lenC_row (t : TypeId) (id n : Nat) : lenC P G t (.row id n) = match G id, elI P t with
    | some o, some _ => if o.alive = true then some (.v (.int .i64 n)) else none
    | _, _ => none := by
  simp only [lenC, lenX]
  cases G id with
  | none => rfl
  | some o => cases o <;> cases elI P t <;> rfl
@[simp] theorem treeOf_v (x : Value) : treeOf P G (.v x) = some (.v x) := rfl
@[simp] theorem treeOf_sl (n : Nat) (cs : List AV) : treeOf P G (.sl n cs) = some (.sl n cs) := rfl
theorem treeOf_row (id n : Nat) : treeOf P G (.row id n) = match G id with
    | some (.row e cs) => if n * P.cellsOf e ≤ cs.length then some (.sl n (cs.take (n * P.cellsOf e))) else none
    | some (.frz e cs) => if n * P.cellsOf e ≤ cs.length then some (.sl n (cs.take (n * P.cellsOf e))) else none
    | _ => none := rfl
@[simp] theorem argsOf_nil : argsOf P G [] = some ([], G) := rfl
@[simp] theorem argsOf_v (x : Value) (r : List AV) : argsOf P G (.v x :: r) = (argsOf P G r).map fun q => (.v x :: q.1, q.2) := by
  simp only [argsOf, treeOf, frzOf]; cases argsOf P G r <;> rfl
@[simp] theorem argsOf_rowT (r : List AV) : argsOf P G (rowT c l :: r) = (argsOf P G r).map fun q => (rowT c l :: q.1, q.2) := by
  simp only [rowT, argsOf, treeOf, frzOf]; cases argsOf P G r <;> rfl
@[simp] theorem argsOf_agg (cs r : List AV) : argsOf P G (.agg cs :: r) = match treesOf P G cs with
    | some (ts, G1) => (argsOf P G1 r).map fun q => (.agg ts :: q.1, q.2)
    | none => none := by
  simp only [argsOf]
  cases treesOf P G cs with
  | none => rfl
  | some q => obtain ⟨ts, G1⟩ := q; simp only; cases argsOf P G1 r <;> rfl
@[simp] theorem argsOf_row (id n : Nat) (r : List AV) : argsOf P G (.row id n :: r) = match treeOf P G (.row id n) with
    | some t => (argsOf P (frzOf G (.row id n)) r).map fun q => (t :: q.1, q.2)
    | none => none := by
  simp only [argsOf]
  cases treeOf P G (.row id n) with
  | none => rfl
  | some t => simp only; cases argsOf P (frzOf G (.row id n)) r <;> rfl
@[simp] theorem frzOf_v (x : Value) : frzOf G (.v x) = G := rfl
@[simp] theorem frzOf_sl (n : Nat) (cs : List AV) : frzOf G (.sl n cs) = G := rfl
theorem frzOf_row (id n : Nat) : frzOf G (.row id n) = match G id with
    | some (.row e (c :: cs)) => G.upd id (.frz e (c :: cs))
    | _ => G := rfl
@[simp] theorem lenC_rowT (t : TypeId) : lenC P G t (rowT c l) = match elI P t with
    | some _ => some (.v (.int .i64 l.length))
    | none => none := rfl
@[simp] theorem one_rowT : AV.one (rowT c l) = true := rfl
@[simp] theorem cells_rowT : AV.cells (rowT c l) = [rowT c l] := rfl
@[simp] theorem treeOf_rowT : treeOf P G (rowT c l) = some (rowT c l) := rfl
@[simp] theorem frzOf_rowT : frzOf G (rowT c l) = G := rfl
@[simp] theorem evIndexAddr_rowT [Wid c w] (t : TypeId) (k : IntKind) {n : Int} (h0 : 0 ≤ n) (h1 : n < l.length) : evIndexAddr P G t (rowT c l) (.v (.int k n)) = match elI P t with
    | some (_, m, _, _) => if m = w then some (eaR c w l n.toNat 0) else evIndexAddr P G t (rowT c l) (.v (.int k n))
    | none => none := by
  cases hel : elI P t with
  | none => unfold evIndexAddr; rw [hel]
  | some q =>
    obtain ⟨e, m, b, z⟩ := q
    simp only
    split
    · rename_i hm
      subst hm
      unfold evIndexAddr rowT eaR
      rw [hel]
      have : 0 < (flat c l).length := by
        rw [flat_len (w := m)]
        exact Nat.mul_pos (by omega) (Wid.pos (c := c))
      simp [h0, h1, this, rowT]
    · rfl
@[simp] theorem adr_eaR [Wid c w] {i f : Nat} (h : i < l.length) (hf : f < w) : adr G (eaR c w l i f) = true := by
  have hlt : i * w + w ≤ l.length * w := by rw [← Nat.succ_mul]; exact Nat.mul_le_mul_right _ h
  unfold adr eaR rowT
  simp only [rdAt]
  have hl : ((flat c l).drop (i * w + f)).length ≠ 0 := by rw [List.length_drop, flat_len (w := w)]; omega
  cases hd : (flat c l).drop (i * w + f) with
  | nil => rw [hd] at hl; simp at hl
  | cons a r => rfl
@[simp] theorem addOff_eaR (i f off : Nat) : addOff (eaR c w l i f) off = some (eaR c w l i (f + off)) := by simp [addOff, eaR, Nat.add_assoc]
@[simp] theorem addOff_eaO (id n i f off : Nat) : addOff (eaO id n w i f) off = some (eaO id n w i (f + off)) := by simp [addOff, eaO, Nat.add_assoc]
@[simp] theorem addOff_cp (cs : List AV) (o off : Nat) : addOff (.cp cs o) off = some (.cp cs (o + off)) := rfl
@[simp] theorem addOff_ptr (id o off : Nat) : addOff (.ptr id o) off = some (.ptr id (o + off)) := rfl
theorem evOp_fieldAddr (t : TypeId) (x : Operand) (f : Nat) : evOp P s G nx (.fieldAddr t x f) = match flI P t f with
    | some (off, _, _) => if adr G (evX s x) = true then (addOff (evX s x) off).map fun v => (v, G, nx) else none
    | none => none := by
  simp only [evOp]
  cases hf : flI P t f with
  | none => rfl
  | some q =>
    obtain ⟨off, b, k⟩ := q
    simp only
    split
    · cases evX s x <;> rfl
    · rfl
@[simp] theorem adr_ptr (id off : Nat) : adr G (.ptr id off) = match G id with
    | some (.var _ cs) => decide (off < cs.length)
    | _ => false := by
  unfold adr
  simp only [rdAt]
  cases G id with
  | none => rfl
  | some o =>
    cases o <;> try rfl
    rename_i cs
    simp only
    by_cases h : off < cs.length
    · have : (cs.drop off).length ≠ 0 := by rw [List.length_drop]; omega
      cases hd : cs.drop off with
      | nil => rw [hd] at this; simp at this
      | cons a r => simp [h]
    · rw [List.drop_eq_nil_of_le (by omega)]; simp [h]
end
section
variable {P : Program} {s : Sl} {G : Hp} {nx : Nat}
@[simp] theorem o_move (x : Operand) : evOp P s G nx (.move x) = some (evX s x, G, nx) := rfl
@[simp] theorem o_assign (x : Operand) : evOp P s G nx (.assign x) = some (evX s x, G, nx) := rfl
@[simp] theorem o_pick (c a b : Operand) : evOp P s G nx (.pick c a b) = match evX s c with
    | .v (.bool t) => some (if t = true then evX s a else evX s b, G, nx)
    | _ => none := rfl
@[simp] theorem o_alloc (t : TypeId) : evOp P s G nx (.alloc t) = match zrI P t with
    | some z => some (.ptr nx 0, G.upd nx (.var t (z.map .v)), nx + 1)
    | none => none := rfl
@[simp] theorem o_box (t : TypeId) (x : Operand) : evOp P s G nx (.box t x) = if (evX s x).cells.all AV.one = true then some (.ptr nx 0, G.upd nx (.var t (evX s x).cells), nx + 1) else none := rfl
@[simp] theorem o_build (t : TypeId) (ps : Array (Nat × Operand)) : evOp P s G nx (.build t ps) = match zrI P t, plI P t with
    | some z, some _ => match evBuild P s t (z.map .v) ps.toList with
      | some cs => some (.agg cs, G, nx)
      | none => none
    | _, _ => none := rfl
@[simp] theorem o_buildSlice (t : TypeId) (n : Nat) (ps : Array (Nat × Operand)) : evOp P s G nx (.buildSlice t n ps) = match elI P t with
    | some (e, k, _, _) => if ps.toList.map (·.1) = List.range n ∧ n * k ≤ 16777216 ∧ n ≤ 16777216 ∧ ps.toList.all (fun p => decide ((evX s p.2).cells.length = k) && (evX s p.2).cells.all AV.one) = true then
        match treesOf P G (ps.toList.flatMap fun p => (evX s p.2).cells) with
        | some (ts, G') => some (.row nx n, G'.upd nx (.row e ts), nx + 1)
        | none => none
      else none
    | none => none := rfl
@[simp] theorem o_load (t : TypeId) (a : Operand) : evOp P s G nx (.load t a) = (evLoad P G t (evX s a)).map fun v => (v, G, nx) := rfl
@[simp] theorem o_store (t : TypeId) (a v : Operand) : evOp P s G nx (.store t a v) = (evStore P G t (evX s a) (evX s v)).map fun G' => (.any, G', nx) := rfl
@[simp] theorem o_nilCheck (x : Operand) : evOp P s G nx (.nilCheck x) = if adr G (evX s x) = true then some (evX s x, G, nx) else match evX s x with
    | .fn f cs => some (.fn f cs, G, nx)
    | _ => none := rfl
@[simp] theorem o_binOp (op : BinOp) (t : TypeId) (x y : Operand) (z : TypeId) : evOp P s G nx (.binOp op t x y z) = match conc (evX s x), conc (evX s y) with
    | some a, some b => (evBin P op t a b).map fun r => (.v r, G, nx)
    | _, _ => none := rfl
@[simp] theorem o_unOp (op : UnOp) (t : TypeId) (x : Operand) : evOp P s G nx (.unOp op t x) = match conc (evX s x) with
    | some a => (evUn op a).map fun r => (.v r, G, nx)
    | none => none := rfl
attribute [simp] evOp_fieldAddr evBuild evUn
@[simp] theorem o_field (t : TypeId) (x : Operand) (f : Nat) : evOp P s G nx (.field t x f) = match flI P t f, evX s x with
    | some (off, b, k), .agg cs => if off + k ≤ cs.length then some (.mk b ((cs.drop off).take k), G, nx) else none
    | _, _ => none := rfl
@[simp] theorem o_indexAddr (t : TypeId) (x i : Operand) : evOp P s G nx (.indexAddr t x i) = (evIndexAddr P G t (evX s x) (evX s i)).map fun v => (v, G, nx) := rfl
@[simp] theorem o_extract (x : Operand) (i : Nat) : evOp P s G nx (.extract x i) = match evX s x with
    | .tup vs => match vs[i]? with
      | some v => some (v, G, nx)
      | none => none
    | _ => none := rfl
@[simp] theorem bin_int (P : Program) (op : BinOp) (t : TypeId) (k : IntKind) (a b : Int) : evBin P op t (.int k a) (.int k b) = match op with
      | .add => some (.int k (k.wrap (a + b)))
      | .sub => some (.int k (k.wrap (a - b)))
      | .mul => some (.int k (k.wrap (a * b)))
      | .quo => if b = 0 then none else some (.int k (k.wrap (a.tdiv b)))
      | .rem => if b = 0 then none else some (.int k (a.tmod b))
      | .and => some (.int k (bits .and k a b))
      | .or => some (.int k (bits .or k a b))
      | .xor => some (.int k (bits .xor k a b))
      | .eql => some (.bool (decide (a = b)))
      | .neq => some (.bool (!decide (a = b)))
      | .lss => some (.bool (decide (a < b)))
      | .leq => some (.bool (decide (a ≤ b)))
      | .gtr => some (.bool (decide (a > b)))
      | .geq => some (.bool (decide (a ≥ b)))
      | _ => none := by
  cases op <;> simp [evBin, Bool.beq_eq_decide_eq] <;> first | rfl | (by_cases h : a = b <;> simp [h])
theorem wrap64 {n : Int} (h1 : -9223372036854775808 ≤ n) (h2 : n < 9223372036854775808) : IntKind.i64.wrap n = n := by
  simp [IntKind.wrap, IntKind.bits, IntKind.signed]
  omega
theorem wrapS {j : Nat} (h : j < 9223372036854775807) : IntKind.i64.wrap ((j : Int) + 1) = ((j + 1 : Nat) : Int) := by
  rw [wrap64 (by omega) (by omega)]; omega
theorem nth_mem {α : Type} [Inhabited α] {l : List α} {i : Nat} (h : i < l.length) : nth l i ∈ l := by rw [nth_eq h]; exact List.getElem_mem h
theorem ne_nth {α : Type} [Inhabited α] {x y : List α} {i : Nat} (hn : ¬ nth x i = nth y i) : ¬ x = y := fun e => hn (by rw [e])
theorem take_nth {α : Type} [Inhabited α] {x y : List α} {i : Nat} (hi : i < x.length) (hj : i < y.length) (h : x.take i = y.take i) (hn : nth x i = nth y i) : x.take (i + 1) = y.take (i + 1) := by
  rw [List.take_add_one, List.take_add_one, h, List.getElem?_eq_getElem hi, List.getElem?_eq_getElem hj]
  rw [nth_eq hi, nth_eq hj] at hn
  rw [hn]
theorem eq_of_take {α : Type} {x y : List α} {i : Nat} (hl : x.length = y.length) (hi : ¬ i < x.length) (h : x.take i = y.take i) : x = y := by
  rwa [List.take_of_length_le (by omega), List.take_of_length_le (by omega)] at h
structure Br (t : Bool) (A B : Prop) : Prop where
  yes : t = true → A
  no : t = false → B
def BrA (a : AV) (A B : Prop) : Prop := (∃ t, a = .v (.bool t) ∧ Br t A B) ∨ (a = .bl ∧ A ∧ B)
@[simp] theorem BrA_bl (A B : Prop) : BrA .bl A B = (A ∧ B) := by simp [BrA]
@[simp] theorem BrA_v (t : Bool) (A B : Prop) : BrA (.v (.bool t)) A B = Br t A B := by
  simp only [BrA, eq_iff_iff]
  constructor
  · rintro (⟨t', h, hb⟩ | ⟨h, _⟩)
    · injection h with h; injection h with h; rw [h]; exact hb
    · cases h
  · exact fun h => .inl ⟨t, rfl, h⟩
theorem aw_condP {N : Nat} {K : Exit → KS} {c : Operand} {a b r : Code} (h : ∀ A B : Prop, (AW P N (.seq a r) K s G nx → A) → (AW P N (.seq b r) K s G nx → B) → BrA (evX s c) A B) : AW P N (.seq (.cond c a b) r) K s G nx := by
  rcases h _ _ id id with ⟨t, h1, h2, h3⟩ | ⟨h1, h2, h3⟩
  · exact aw_cond t h1 h2 h3
  · exact .inr ⟨h1, h2, h3⟩
end
end Go.Proofs.YtomidniaekeafaaAbs
