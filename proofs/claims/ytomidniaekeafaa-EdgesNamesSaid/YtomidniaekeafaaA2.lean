/- The abstract machine's operations but calls. -/
import Derived.Test.YtomidniaekeafaaA1
import Derived.Laws.StructEq
import Derived.Laws.Strings
namespace Go.Proofs.YtomidniaekeafaaAbs
open Go Go.RowKit

section
variable (P : Program)
/-- A type's make: is it an aggregate, how many cells. -/
def tyI (t : TypeId) : Option (Bool × Nat) :=
  match P.underlying t, P.info? t with
  | some (.struct _), some i => if i.size = 0 then none else some (true, i.size)
  | some (.array _ _), some i => if i.size = 0 then none else some (true, i.size)
  | some _, some i => if i.size = 1 then some (false, 1) else none
  | _, _ => none
/-- A slice type's element: its type, cells, bytes, zero cells. -/
def elI (t : TypeId) : Option (TypeId × Nat × Nat × List Value) :=
  match P.underlying t with
  | some (.slice e) => match P.info? e with
    | some i => match i.zero with
      | some z => if 0 < i.size ∧ z.cells.size = i.size ∧ z.cells.all (·.oneCell') = true then some (e, i.size, i.bytes, z.cells.toList) else none
      | none => none
    | none => none
  | _ => none
def flI (s : TypeId) (f : Nat) : Option (Nat × Bool × Nat) :=
  match P.underlying s with
  | some (.struct fs) => match fs[f]? with
    | some fd => match tyI P fd.type with
      | some (b, k) => some (fd.offset, b, k)
      | none => none
    | none => none
  | _ => none
def zrI (t : TypeId) : Option (List Value) :=
  match P.info? t with
  | some i => match i.zero with
    | some z => if z.cells.all (·.oneCell') = true then some z.cells.toList else none
    | none => none
  | none => none
end

def AV.cells : AV → List AV
  | .agg cs => cs
  | a => [a]
def AV.one : AV → Bool
  | .any | .und | .agg _ | .tup _ => false
  | _ => true
def AV.mk (b : Bool) (cs : List AV) : AV := if b then .agg cs else cs.headD .any
def conc1 : AV → Option Value
  | .v x => some x
  | _ => none
def conc : AV → Option Value
  | .v x => some x
  | .agg cs => match cs.mapM conc1 with
    | some xs => some (.agg xs.toArray)
    | none => none
  | _ => none
def splice (cs : List AV) (off : Nat) (new : List AV) : List AV := cs.take off ++ new ++ cs.drop (off + new.length)
/-- The cells from an address on. -/
def rdAt (G : Hp) : AV → Option (List AV)
  | .ptr id off => match G id with
    | some (.var _ cs) => some (cs.drop off)
    | _ => none
  | .ea (.sl _ cs) off => some (cs.drop off)
  | .cp cs off => some (cs.drop off)
  | .ea (.row id _) off => match G id with
    | some (.row _ cs) => some (cs.drop off)
    | some (.frz _ cs) => some (cs.drop off)
    | _ => none
  | _ => none
def evLoad (P : Program) (G : Hp) (t : TypeId) (a : AV) : Option AV :=
  match tyI P t, rdAt G a with
  | some (b, k), some cs => if k ≤ cs.length then some (.mk b (cs.take k)) else none
  | _, _ => none

section
variable {P : Program} {E : En} {w : World}
theorem tyI_spec {t : TypeId} {b : Bool} {k : Nat} (h : tyI P t = some (b, k)) : (∀ w, (isAgg t).run P w = .ok b w) ∧ (∀ w, (sizeOf t).run P w = .ok k w) ∧ 0 < k ∧ (b = false → k = 1) ∧ P.cellsOf t = k ∧ (P.info? t).map (·.size) = some k ∧ (P.underlying t).isSome = true := by
  unfold tyI at h
  cases hi : P.info? t with
  | none => rw [hi] at h; cases hu : P.underlying t <;> rw [hu] at h <;> (try cases ‹TypeDesc›) <;> simp at h
  | some i =>
    cases hu : P.underlying t with
    | none => rw [hu] at h; simp at h
    | some d =>
      have h1 : ∀ w, (isAgg t).run P w = .ok (match d with | .struct _ | .array _ _ => true | _ => false) w := by
        intro w
        unfold isAgg
        rw [Sem.run_bind, run_underlying hu w]
        cases d <;> simp
      have h2 : ∀ w, (sizeOf t).run P w = .ok i.size w := by intro w; simp [sizeOf, typeInfo, hi]
      have h3 : P.cellsOf t = i.size := by simp [Program.cellsOf, hi]
      rw [hi, hu] at h
      cases d <;> simp at h <;> (obtain ⟨h4, rfl, rfl⟩ := h) <;> (refine ⟨fun w => h1 w, fun w => ?_, ?_, ?_, ?_, ?_, by simp⟩) <;> first | (rw [h2 w]; simp_all; done) | (simp_all; done) | omega
theorem VR.cells_one {a : AV} {u : Value} (ha : a.one = true) (h : VR P E w a u) : u.oneCell' = true := by
  cases h with
  | any => simp [AV.one] at ha
  | und => simp [AV.one] at ha
  | tree h => exact h.one
  | agg => simp [AV.one] at ha
  | tup => simp [AV.one] at ha
  | ptr _ h _ => exact h
  | row _ h _ _ => exact h
  | ea _ h _ => exact h
  | mp _ h _ => exact h
  | fn => rfl
  | bl => rfl
  | cp => rfl
theorem VR.sl_inv {n : Nat} {cs : List AV} {u : Value} (h : VR P E w (.sl n cs) u) : TR E.M w (.sl n cs) u := by
  cases h with
  | tree h => exact h
theorem VR.v_inv {x u : Value} (h : VR P E w (.v x) u) : u = x ∧ x.oneCell' = true := by
  cases h with
  | tree h => cases h with | v h => exact ⟨rfl, h⟩
theorem VR.ptr_inv {id off : Nat} {u : Value} {b : Nat} (h : VR P E w (.ptr id off) u) (hb : E.φ id = some b) : u = .pointer (some ⟨b, off, none⟩) := by
  cases h with
  | tree h => cases h
  | ptr _ _ h => exact h b hb
theorem VR.row_inv {id n : Nat} {u : Value} {b : Nat} (h : VR P E w (.row id n) u) (hb : E.φ id = some b) : ∃ cap e, u = .slice (some ⟨b, 0, none⟩) n cap ∧ n ≤ cap ∧ cap ≤ maxLen ∧ w.shape? b = some (e, cap * P.cellsOf e) := by
  cases h with
  | tree h => cases h
  | row _ _ h _ => exact h b hb
theorem VR.row_nil {id n : Nat} {u : Value} (h : VR P E w (.row id n) u) (hb : E.N id) : u = .slice none 0 0 ∧ n = 0 := by
  cases h with
  | tree h => cases h
  | row _ _ _ h => exact h hb
theorem VR.ea_inv {base : AV} {off : Nat} {u : Value} (h : VR P E w (.ea base off) u) : ∃ u0, VR P E w base u0 ∧ ∀ ad n cap, u0 = .slice (some ad) n cap → u = .pointer (some (ad.add off)) := by
  cases h with
  | tree h => cases h
  | ea h0 _ h => exact ⟨_, h0, h⟩
theorem VR.agg_inv {cs : List AV} {u : Value} (h : VR P E w (.agg cs) u) : ∃ us : List Value, u = .agg us.toArray ∧ us.length = cs.length ∧ (∀ (i : Nat) a x, cs[i]? = some a → us[i]? = some x → VR P E w a x) ∧ ∀ x ∈ us, x.oneCell' = true := by
  cases h with
  | tree h => cases h
  | agg hl h h1 => exact ⟨_, rfl, hl, h, h1⟩
theorem VR.tup_inv {cs : List AV} {u : Value} (h : VR P E w (.tup cs) u) : ∃ us : List Value, u = .tuple us.toArray ∧ us.length = cs.length ∧ ∀ (i : Nat) a x, cs[i]? = some a → us[i]? = some x → VR P E w a x := by
  cases h with
  | tree h => cases h
  | tup hl h => exact ⟨_, rfl, hl, h⟩
theorem VR.fn_inv {f : Nat} {cs : List AV} {u : Value} (h : VR P E w (.fn f cs) u) : ∃ us : List Value, u = .func (.func f) #[] us.toArray ∧ us.length = cs.length ∧ ∀ (i : Nat) a x, cs[i]? = some a → us[i]? = some x → VR P E w a x := by
  cases h with
  | tree h => cases h
  | fn hl h => exact ⟨_, rfl, hl, h⟩
theorem add_add (a : Addr) (i j : Nat) : (a.add i).add j = a.add (i + j) := by
  unfold Addr.add
  by_cases hi : i = 0
  · subst hi; simp
  · by_cases hj : j = 0
    · subst hj; simp [hi]
    · simp [hi, hj, Nat.add_assoc]
theorem add_lit (b o k : Nat) : (⟨b, o, none⟩ : Addr).add k = ⟨b, o + k, none⟩ := by unfold Addr.add; split <;> simp_all
theorem cell_of_cells {b : Nat} {us : Array Value} {t : TypeId} {fr : Nat × Nat} (h : w.heap[b]? = some (.cells us t fr)) (i : Nat) : w.cell? ⟨b, i, none⟩ = us[i]? := by simp [World.cell?, h]
/-- What an address leads to. -/
theorem rd_sound {G : Hp} (hR : Rel P E w G) {a : AV} {u : Value} (ha : VR P E w a u) {cs : List AV} (h : rdAt G a = some cs) (h0 : 0 < cs.length) :
    ∃ ad, u = .pointer (some ad) ∧ ∃ us : List Value, us.length = cs.length ∧ (∀ i x, us[i]? = some x → w.cell? (ad.add i) = some x) ∧ (∀ (i : Nat) c x, cs[i]? = some c → us[i]? = some x → VR P E w c x) ∧ ∀ x ∈ us, x.oneCell' = true := by
  match a, ha, h with
  | .ptr id off, ha, h =>
    simp only [rdAt] at h
    cases hG : G id with
    | none => simp [hG] at h
    | some o =>
      cases o <;> simp [hG] at h
      rename_i t cs0
      obtain ⟨b, hb, us, h1, h2, h3, h4⟩ := hR.obj' hG rfl (fun e he => by cases he)
      refine ⟨_, ha.ptr_inv hb, us.drop off, ?_, fun i x hx => ?_, fun i c x hc hx => ?_, fun x hx => h3 x (List.mem_of_mem_drop hx)⟩
      · rw [← h, List.length_drop, List.length_drop, h2]
      · rw [add_lit, cell_of_cells h1]
        rw [List.getElem?_drop] at hx
        simpa using hx
      · rw [← h, List.getElem?_drop] at hc
        rw [List.getElem?_drop] at hx
        exact h4 _ c x hc hx
  | .ea (.sl n cs0) off, ha, h =>
    simp only [rdAt, Option.some.injEq] at h
    obtain ⟨u0, h1, h2⟩ := ha.ea_inv
    have hl : 0 < cs0.length := by rw [← h, List.length_drop] at h0; omega
    cases h1.sl_inv with
    | nil => simp at hl
    | @sl _ _ ad cap us hn _ hb hlen hc hr =>
      refine ⟨_, h2 _ _ _ rfl, us.drop off, ?_, fun i x hx => ?_, fun i c x hcc hx => ?_, fun x hx => ?_⟩
      · rw [← h, List.length_drop, List.length_drop, hlen]
      · rw [add_add]; rw [List.getElem?_drop] at hx; exact hc _ x hx
      · rw [← h, List.getElem?_drop] at hcc
        rw [List.getElem?_drop] at hx
        exact .tree (hr _ c x hcc hx)
      · obtain ⟨i, hi, rfl⟩ := List.mem_iff_getElem.1 (List.mem_of_mem_drop hx)
        exact (hr i _ _ (List.getElem?_eq_getElem (by omega)) (List.getElem?_eq_getElem hi)).one
  | .cp cs0 off, ha, h =>
    simp only [rdAt, Option.some.injEq] at h
    cases ha with
    | tree h => cases h
    | @cp _ us ad _ hb hl _ hc hr =>
      refine ⟨_, rfl, us.drop off, ?_, fun i x hx => ?_, fun i c x hcc hx => ?_, fun x hx => ?_⟩
      · rw [← h, List.length_drop, List.length_drop, hl]
      · rw [add_add]; rw [List.getElem?_drop] at hx; exact hc _ x hx
      · rw [← h, List.getElem?_drop] at hcc
        rw [List.getElem?_drop] at hx
        exact .tree (hr _ c x hcc hx)
      · obtain ⟨i, hi, rfl⟩ := List.mem_iff_getElem.1 (List.mem_of_mem_drop hx)
        exact (hr i _ _ (List.getElem?_eq_getElem (by omega)) (List.getElem?_eq_getElem hi)).one
  | .ea (.row id n) off, ha, h =>
    obtain ⟨u0, h1, h2⟩ := ha.ea_inv
    simp only [rdAt] at h
    have key : ∃ (o : AObj) (e : TypeId) (cs0 : List AV), G id = some o ∧ o.alive = true ∧ (o = .row e cs0 ∨ o = .frz e cs0) ∧ cs = cs0.drop off ∧ ∀ b, OR P E w b o → ∃ us : List Value, w.heap[b]? = some (.cells us.toArray e (0, 0)) ∧ cs0.length ≤ us.length ∧ ∀ (i : Nat) a u, cs0[i]? = some a → us[i]? = some u → TR E.M w a u := by
      cases hG : G id with
      | none => simp [hG] at h
      | some o =>
        cases o <;> simp [hG] at h
        · exact ⟨_, _, _, rfl, rfl, .inl rfl, h.symm, fun b hb => hb⟩
        · exact ⟨_, _, _, rfl, rfl, .inr rfl, h.symm, fun b hb => hb⟩
    obtain ⟨o, e, cs0, hG, hal, hoo, rfl, hO⟩ := key
    obtain ⟨b, hb, ho⟩ := hR.obj' hG hal (fun e' he => by
      rcases hoo with rfl | rfl
      · injection he with _ he; subst he; simp at h0
      · cases he)
    obtain ⟨us, h3, h4, h5⟩ := hO b ho
    obtain ⟨cap, e', rfl, hn, hm, hs⟩ := h1.row_inv hb
    refine ⟨_, h2 _ _ _ rfl, (us.take cs0.length).drop off, ?_, fun i x hx => ?_, fun i c x hcc hx => ?_, fun x hx => ?_⟩
    · rw [List.length_drop, List.length_drop, List.length_take]; omega
    · rw [add_lit, add_lit, cell_of_cells h3]
      rw [List.getElem?_drop, List.getElem?_take] at hx
      split at hx
      · simpa using hx
      · simp at hx
    · rw [List.getElem?_drop] at hcc
      rw [List.getElem?_drop, List.getElem?_take] at hx
      split at hx
      · exact .tree (h5 _ c x hcc hx)
      · simp at hx
    · obtain ⟨i, hi, rfl⟩ := List.mem_iff_getElem.1 (List.mem_of_mem_drop hx)
      rw [List.length_take] at hi
      have hx2 : (us.take cs0.length)[i]? = some (us.take cs0.length)[i] := List.getElem?_eq_getElem (by rw [List.length_take]; omega)
      rw [List.getElem?_take, if_pos (by omega)] at hx2
      exact (h5 i _ _ (List.getElem?_eq_getElem (by omega)) hx2).one
theorem load_sound {G : Hp} (hR : Rel P E w G) {a val : AV} {u : Value} {t : TypeId} (ha : VR P E w a u) (h : evLoad P G t a = some val) :
    ∃ x, (Instr.loadAt t u).run P w = .ok x w ∧ VR P E w val x := by
  unfold evLoad at h
  cases hT : tyI P t with
  | none => simp [hT] at h
  | some bk =>
    obtain ⟨b, k⟩ := bk
    obtain ⟨h1, h2, h3, h4, h5, h6, h7⟩ := tyI_spec hT
    cases hr : rdAt G a with
    | none => simp [hT, hr] at h
    | some cs =>
      simp only [hT, hr] at h
      split at h
      · rename_i hk
        obtain ⟨ad, rfl, us, hl, hc, hv, hone⟩ := rd_sound hR ha hr (by omega)
        injection h with h
        have hload : b = true → (Instr.loadAt t (.pointer (some ad))).run P w = .ok (.agg (us.take k).toArray) w := by
          rintro rfl
          have hlc := run_loadCells_list (P := P) w ad (us.take k) (fun j v hj => by
            rw [List.getElem?_take] at hj
            split at hj
            · exact hc j v hj
            · simp at hj)
          rw [List.length_take, Nat.min_eq_left (by omega)] at hlc
          simp [Instr.loadAt, Instr.sureAddr, loadVar, Sem.run_bind, h1, h2, hlc]
        cases b with
        | true =>
          refine ⟨_, hload rfl, ?_⟩
          rw [← h]
          simp only [AV.mk, if_true]
          refine .agg (by rw [List.length_take, List.length_take, hl]) (fun i c x hcc hx => ?_) (fun x hx => hone x (List.mem_of_mem_take hx))
          rw [List.getElem?_take] at hcc hx
          split at hcc
          · rename_i hi
            rw [if_pos hi] at hx
            exact hv i c x hcc hx
          · simp at hcc
        | false =>
          have hk1 := h4 rfl
          subst hk1
          have hu0 : us[0]? = some us[0] := List.getElem?_eq_getElem (by omega)
          have hc0 : cs[0]? = some cs[0] := List.getElem?_eq_getElem (by omega)
          refine ⟨us[0], ?_, ?_⟩
          · have := hc 0 _ hu0
            simp [Instr.loadAt, Instr.sureAddr, loadVar, Sem.run_bind, h1]
            have h0 : ad.add 0 = ad := by simp [Addr.add]
            rw [h0] at this
            simp [this]
          · rw [← h]
            have : AV.mk false (cs.take 1) = cs[0] := by
              cases cs with
              | nil => simp at hk
              | cons c r => rfl
            rw [this]
            exact hv 0 _ _ hc0 hu0
      · simp at h
end
end Go.Proofs.YtomidniaekeafaaAbs
