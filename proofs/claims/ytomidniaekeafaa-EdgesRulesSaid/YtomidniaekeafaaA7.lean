/- Soundness of the plain operations. -/
import Derived.Test.YtomidniaekeafaaA6
namespace Go.Proofs.YtomidniaekeafaaAbs
open Go Go.RowKit

theorem foldl_set : ∀ (new : List Value) (cells : List Value) (off j : Nat), off + j + new.length ≤ cells.length →
    (new.zipIdx j).foldl (fun (cs : Array Value) (p : Value × Nat) => cs.setIfInBounds (off + p.2) p.1) cells.toArray = (cells.take (off + j) ++ new ++ cells.drop (off + j + new.length)).toArray
  | [], cells, off, j, _ => by simp
  | v :: r, cells, off, j, h => by
    simp only [List.length_cons] at h
    simp only [List.zipIdx_cons, List.foldl_cons]
    have e1 : cells.toArray.setIfInBounds (off + j) v = (cells.set (off + j) v).toArray := by simp
    rw [e1, foldl_set r _ off (j + 1) (by simp; omega)]
    congr 1
    have e2 : off + (j + 1) = off + j + 1 := by omega
    have e3 : off + j + 1 + r.length = off + j + (v :: r).length := by simp; omega
    rw [e2, e3, List.drop_set_of_lt (by simp), List.take_add_one, List.take_set_of_le (by omega), List.getElem?_set_self (by omega)]
    simp
theorem fill_step {place : Nat → Option (Nat × Nat)} {cells : List Value} {i off k : Nat} {v : Value} {rest : List (Nat × Value)} (hp : place i = some (off, k)) (hk : v.cells.size = k) (hl : off + k ≤ cells.length) :
    Instr.fill place cells.toArray ((i, v) :: rest) = Instr.fill place (cells.take off ++ v.cells.toList ++ cells.drop (off + k)).toArray rest := by
  rw [Instr.fill]
  simp only [hp]
  rw [if_neg (by simp [hk]; omega)]
  congr 1
  rw [← Array.foldl_toList]
  have := foldl_set v.cells.toList cells off 0 (by rw [Array.length_toList]; omega)
  simp only [Nat.add_zero, Array.length_toList, hk] at this
  rw [← this]
  simp [Array.toList_zipIdx]

section
variable {P : Program} {E : En} {w : World} {G : Hp} {s : Sl} {ρ : Operand → Value}
theorem mapM_places : ∀ (fs : List Field) (places : List (Nat × Nat)), fs.mapM (fun f => (P.info? f.type).map fun i => (f.offset, i.size)) = some places → ∀ (i : Nat) f, fs[i]? = some f → ∃ ti, P.info? f.type = some ti ∧ places[i]? = some (f.offset, ti.size)
  | [], _, _, i, f, h => by simp at h
  | g :: fs, places, h, i, f, hf => by
    simp only [List.mapM_cons, Option.bind_eq_bind, Option.bind_eq_some_iff, Option.pure_def, Option.map_eq_some_iff] at h
    obtain ⟨p, ⟨ti, h1, rfl⟩, ps, h2, h3⟩ := h
    injection h3 with h3
    subst h3
    cases i with
    | zero => simp at hf; subst hf; exact ⟨ti, h1, rfl⟩
    | succ i => exact mapM_places fs ps h2 i f (by simpa using hf)
theorem build_sound {t : TypeId} {fs : Array Field} {places : List (Nat × Nat)} (hu : P.underlying t = some (.struct fs)) (hpl : fs.toList.mapM (fun f => (P.info? f.type).map fun i => (f.offset, i.size)) = some places) :
    ∀ (ps : List (Nat × Operand)) (cs r : List AV) (us : List Value), (∀ x, VR P E w (evX s x) (ρ x)) → All2 (VR P E w) cs us → (∀ x ∈ us, x.oneCell' = true) → evBuild P s t cs ps = some r →
      ∃ us', Instr.fill (places[·]?) us.toArray (ps.map fun p => (p.1, ρ p.2)) = some us'.toArray ∧ All2 (VR P E w) r us' ∧ ∀ x ∈ us', x.oneCell' = true
  | [], cs, r, us, _, h, h1, hb => by
    simp [evBuild] at hb; subst hb
    exact ⟨us, by simp [Instr.fill], h, h1⟩
  | (i, x) :: ps, cs, r, us, hx, h, h1, hb => by
    simp only [evBuild] at hb
    split at hb
    · rename_i off b k hf
      split at hb
      · rename_i hc
        obtain ⟨hk, hl, hone⟩ := hc
        obtain ⟨fs', fd, hu', hfd, rfl, hty⟩ := flI_spec hf
        rw [hu] at hu'
        injection hu' with hu'
        injection hu' with hu'
        subst hu'
        obtain ⟨ti, h2, h3⟩ := mapM_places _ _ hpl i fd (by simpa using hfd)
        have hts := (tyI_spec hty).2.2.2.2.2.1
        simp [h2] at hts
        obtain ⟨h4, h5⟩ := (hx x).cells2 hone
        have hsz : (ρ x).cells.size = k := by have := h4.1; rw [Array.length_toList] at this; omega
        have hlu : us.length = cs.length := h.1
        have hall := ((h.take fd.offset).app h4).app (h.drop (fd.offset + k))
        have e1 : splice cs fd.offset (evX s x).cells = cs.take fd.offset ++ (evX s x).cells ++ cs.drop (fd.offset + k) := by simp [splice, hk]
        rw [e1] at hb
        obtain ⟨us', h6, h7, h8⟩ := build_sound hu hpl ps _ r _ hx hall (fun y hy => by
          simp only [List.mem_append] at hy
          rcases hy with (hy | hy) | hy
          · exact h1 y (List.mem_of_mem_take hy)
          · exact h5 y hy
          · exact h1 y (List.mem_of_mem_drop hy)) hb
        refine ⟨us', ?_, h7, h8⟩
        rw [List.map_cons, fill_step (off := fd.offset) (k := k) (by rw [h3, hts]) hsz (by omega)]
        exact h6
      · simp at hb
    · simp at hb
theorem elI_spec {t e k by' : Nat} {z : List Value} (h : elI P t = some (e, k, by', z)) : P.underlying t = some (.slice e) ∧ ∃ i v, P.info? e = some i ∧ i.zero = some v ∧ i.size = k ∧ i.bytes = by' ∧ v.cells.toList = z ∧ 0 < k ∧ v.cells.size = k ∧ (∀ x ∈ z, x.oneCell' = true) ∧ (∀ w, (sizeOf e).run P w = .ok k w) ∧ (∀ w, (zeroValue e).run P w = .ok v w) ∧ P.cellsOf e = k := by
  unfold elI at h
  split at h
  · rename_i e' hu
    split at h
    · rename_i i hi
      split at h
      · rename_i v hv
        split at h
        · rename_i hc
          simp only [Option.some.injEq, Prod.mk.injEq] at h
          obtain ⟨rfl, rfl, rfl, rfl⟩ := h
          exact ⟨hu, i, v, hi, hv, rfl, rfl, rfl, hc.1, hc.2.1, fun x hx => (Array.all_eq_true_iff_forall_mem.1 hc.2.2) x (by simpa using hx), fun w => by simp [sizeOf, typeInfo, hi], fun w => by simp [zeroValue, typeInfo, hi, hv], by simp [Program.cellsOf, hi]⟩
        · simp at h
      · simp at h
    · simp at h
  · simp at h
theorem fill_row (k : Nat) : ∀ (vs : List (Nat × Value)) (j : Nat) (us : List Value), (∀ p ∈ vs, p.2.cells.size = k) → vs.map (·.1) = (List.range vs.length).map (· + j) → us.length = (j + vs.length) * k →
    Instr.fill (fun i => some (i * k, k)) us.toArray vs = some (us.take (j * k) ++ vs.flatMap fun p => p.2.cells.toList).toArray
  | [], j, us, _, _, hl => by
    simp at hl
    simp [Instr.fill, List.take_of_length_le (Nat.le_of_eq hl)]
  | (i, v) :: r, j, us, hs, hi, hl => by
    simp only [List.map_cons, List.length_cons, List.range_succ_eq_map, List.map_map, List.cons.injEq] at hi
    obtain ⟨rfl, hi⟩ := hi
    simp only [Nat.zero_add, List.length_cons] at *
    have hv := hs _ (List.mem_cons_self ..)
    simp only at hv
    have hle : j * k + k ≤ us.length := by rw [hl, ← Nat.succ_mul]; exact Nat.mul_le_mul_right _ (by omega)
    rw [fill_step (off := j * k) (k := k) rfl hv hle]
    rw [fill_row k r (j + 1) _ (fun p hp => hs p (List.mem_cons_of_mem _ hp)) (by rw [hi]; congr 1; funext x; simp; omega) (by
      simp only [List.length_append, List.length_take, List.length_drop, Array.length_toList, hv]
      have : (j + 1 + r.length) * k = us.length := by rw [hl]; congr 1; omega
      omega)]
    congr 2
    simp only [List.flatMap_cons, ← List.append_assoc]
    congr 1
    have e : (j + 1) * k = j * k + k := by rw [Nat.add_mul, Nat.one_mul]
    have hlen : (us.take (j * k) ++ v.cells.toList).length = (j + 1) * k := by simp [hv]; omega
    rw [← hlen, List.take_left]
theorem all2_flat {α : Type} {R : AV → Value → Prop} (f : α → List AV) (g : α → List Value) : ∀ (l : List α), (∀ x ∈ l, All2 R (f x) (g x)) → All2 R (l.flatMap f) (l.flatMap g)
  | [], _ => .nil
  | x :: l, h => by
    simp only [List.flatMap_cons]
    exact (h x (List.mem_cons_self ..)).app (all2_flat f g l fun y hy => h y (List.mem_cons_of_mem _ hy))
/-- A new row of the call's own. -/
theorem row_sound (hR : Rel P E w G) {nx : Nat} (hn : G nx = none) {e : TypeId} {n k : Nat} {ts : List AV} {us : List Value} (hk : P.cellsOf e = k) (hl : us.length = n * k) (hm : n ≤ maxLen) (h : All2 (TR E.M w) ts us) :
    ∃ E', VR P E' (w.alloc (.cells us.toArray e)) (.row nx n) (.slice (some ⟨w.heap.size, 0, none⟩) n n) ∧ Rel P E' (w.alloc (.cells us.toArray e)) (G.upd nx (.row e ts)) ∧ Ext E.W w (w.alloc (.cells us.toArray e)) ∧ En.Le w E E' := by
  have hle := En.le_add hR hn
  have hext := Ext.alloc E.W w (.cells us.toArray e)
  have hnew := heap_alloc_new w (.cells us.toArray e)
  refine ⟨E.add nx w.heap.size, .row (show (E.add nx w.heap.size).K nx from .inl rfl) rfl (fun b hb => ?_) (fun hN => absurd rfl hN.1), hR.new hn _ rfl _ ⟨us, hnew, Nat.le_of_eq h.1.symm, fun i a u ha hu => (h.2 i a u ha hu).ext hext.toM hle.M⟩, hext, hle⟩
  simp [En.add] at hb
  subst hb
  refine ⟨n, e, rfl, Nat.le_refl _, hm, ?_⟩
  simp only [World.shape?]
  rw [hnew]
  simp [hl, hk]
theorem bin_one {op : BinOp} {t : TypeId} {a b r : Value} (h : evBin P op t a b = some r) : r.oneCell' = true := by
  unfold evBin at h
  split at h
  · split at h
    · cases op <;> dsimp only at h <;> first
        | (injection h with h; subst h; rfl)
        | (split at h <;> first | (simp at h; done) | (injection h with h; subst h; rfl))
        | simp at h
    · simp at h
  · cases op <;> dsimp only at h <;> first
      | (injection h with h; subst h; rfl)
      | (split at h <;> first | (simp at h; done) | (injection h with h; subst h; rfl))
      | simp at h
  · split at h
    · cases op <;> dsimp only at h <;> first
        | (injection h with h; subst h; rfl)
        | simp at h
    · simp at h
  · split at h
    · cases op <;> dsimp only at h <;> first
        | (simp at h; done)
        | (obtain ⟨q, _, rfl⟩ := Option.map_eq_some_iff.1 h; rfl)
    · simp at h
  · simp at h
theorem un_one {op : UnOp} {a r : Value} (h : evUn op a = some r) : r.oneCell' = true := by
  unfold evUn at h
  split at h <;> first | (injection h with h; subst h; rfl) | simp at h
end
end Go.Proofs.YtomidniaekeafaaAbs
