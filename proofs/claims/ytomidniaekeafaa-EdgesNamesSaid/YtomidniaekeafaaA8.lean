/- One plain operation. -/
import Derived.Test.YtomidniaekeafaaA7
namespace Go.Proofs.YtomidniaekeafaaAbs
open Go Go.RowKit

section
variable {P : Program} {E : En} {w : World} {G : Hp} {s : Sl} {a : Act}
theorem Out.val (hR : Rel P E w G) {val : AV} {u : Value} (hv : VR P E w val u) : Out P E w (.ok (.value u) w) val G := ⟨w, E, u, .inl rfl, hv, hR, Ext.refl _ _, En.Le.refl _ _⟩
theorem VR.mk {b : Bool} {k off : Nat} {cs : List AV} {us : List Value} (h : All2 (VR P E w) cs us) (h1 : ∀ x ∈ us, x.oneCell' = true) (hk : off + k ≤ cs.length) (hb : b = false → k = 1) (hk0 : 0 < k) :
    VR P E w (.mk b ((cs.drop off).take k)) (if b = true then .agg ((us.drop off).take k).toArray else (us[off]?.getD undef)) := by
  cases b with
  | true =>
    have h2 := (h.drop off).take k
    exact .agg h2.1 h2.2 (fun x hx => h1 x (List.mem_of_mem_drop (List.mem_of_mem_take hx)))
  | false =>
    have := hb rfl
    subst this
    have hl := h.1
    have e1 : (cs.drop off).take 1 = [cs[off]'(by omega)] := by
      rw [List.drop_eq_getElem_cons (by omega)]; rfl
    rw [e1]
    simp only [AV.mk, Bool.false_eq_true, if_false, List.headD_cons]
    rw [List.getElem?_eq_getElem (by omega)]
    exact h.2 off _ _ (List.getElem?_eq_getElem (by omega)) (List.getElem?_eq_getElem (by omega))
theorem field_sound {t : TypeId} {f off k : Nat} {b : Bool} {cs : List AV} {u : Value} (h : flI P t f = some (off, b, k)) (hv : VR P E w (.agg cs) u) (hk : off + k ≤ cs.length) :
    ∃ x, (Instr.field t u f).run P w = .ok x w ∧ VR P E w (.mk b ((cs.drop off).take k)) x := by
  obtain ⟨fs, fd, hu, hf, rfl, ht⟩ := flI_spec h
  obtain ⟨h1, h2, h3, h4, _⟩ := tyI_spec ht
  obtain ⟨us, rfl, hl, hvs, ho⟩ := hv.agg_inv
  have hmk := VR.mk (off := fd.offset) (k := k) (b := b) (⟨hl, hvs⟩ : All2 (VR P E w) cs us) ho hk h4 h3
  refine ⟨_, ?_, hmk⟩
  cases b with
  | true =>
    simp [Instr.field, run_underlying hu, hf, asAgg, part, h1, h2]
  | false =>
    have : us[fd.offset]? = some us[fd.offset] := List.getElem?_eq_getElem (by have := h4 rfl; omega)
    simp [Instr.field, run_underlying hu, hf, asAgg, part, h1, this]
theorem index_sound (hR : Rel P E w G) {t : TypeId} {x i val : AV} {ux ui : Value} (hx : VR P E w x ux) (hi : VR P E w i ui) (h : evIndexAddr P G t x i = some val) :
    ∃ y, (Instr.indexAt t ux ui).run P w = .ok y w ∧ VR P E w val y := by
  unfold evIndexAddr at h
  split at h
  · rename_i e k b z q n hel
    obtain ⟨hu, ti, v, hi1, hi2, hi3, hi4, hi5, hi6, hi7, hi8, hi9, hi10, hi11⟩ := elI_spec hel
    obtain ⟨rfl, _⟩ := hi.v_inv
    have run : ∀ (ad : Addr) (m cap : Nat), 0 ≤ n → n < m → (Instr.indexAt t (.slice (some ad) m cap) (.int q n)).run P w = .ok (.pointer (some (ad.add (n.toNat * k)))) w := by
      intro ad m cap h0 h1
      simp [Instr.indexAt, asIntOf, run_underlying hu, h0, h1, hi9]
    split at h
    · rename_i m cs
      split at h
      · rename_i hc
        obtain ⟨h0, h1, h2⟩ := hc
        injection h with h
        subst h
        cases hx.sl_inv with
        | nil => simp at h2
        | @sl _ _ ad cap us hn _ hb hl hcc hr =>
          exact ⟨_, run ad m cap h0 h1, .ea hx rfl (fun ad' n' cap' he => by injection he with he; injection he with he; rw [he])⟩
      · simp at h
    · rename_i id m
      split at h
      · rename_i o hG
        split at h
        · rename_i hc
          obtain ⟨h0, h1, h2⟩ := hc
          injection h with h
          subst h
          have hφ : ∃ b, E.φ id = some b := by
            rcases hR.obj id o hG h2 with ⟨b, hφ, _⟩ | ⟨hN, _⟩
            · exact ⟨b, hφ⟩
            · have := (hx.row_nil hN).2; omega
          obtain ⟨b', hφ⟩ := hφ
          obtain ⟨cap, e', rfl, _⟩ := hx.row_inv hφ
          exact ⟨_, run _ m cap h0 h1, .ea hx rfl (fun ad' n' cap' he => by injection he with he; injection he with he; rw [he])⟩
        · simp at h
      · simp at h
    · simp at h
  · simp at h
theorem bnd_sound (hx : ∀ x, VR P E w (evX s x) (a.eval x)) {lo : Option Operand} {d l : Nat} (h : bnd s d lo = some l) : (lo.isNone = true ∧ l = d) ∨ ∃ k, lo.map a.eval = some (.int k (l : Int)) := by
  unfold bnd at h
  split at h
  · injection h with h; exact .inl ⟨rfl, h.symm⟩
  · rename_i x
    split at h
    · rename_i k n he
      split at h
      · rename_i h0
        injection h with h
        have := hx x
        rw [he] at this
        obtain ⟨h1, _⟩ := this.v_inv
        refine .inr ⟨k, ?_⟩
        simp only [Option.map_some, h1]
        congr 2
        omega
      · simp at h
    · simp at h
theorem bounds_run {lo hi : Option Value} {len cap l h : Nat} {sl : Bool} (hl : (lo = none ∧ l = 0) ∨ ∃ k, lo = some (.int k (l : Int))) (hh : (hi = none ∧ h = len) ∨ ∃ k, hi = some (.int k (h : Int))) (h1 : l ≤ h) (h2 : h ≤ cap) :
    (Instr.sliceBounds sl len cap lo hi none).run P w = .ok (l, h, cap) w := by
  unfold Instr.sliceBounds
  rcases hl with ⟨rfl, rfl⟩ | ⟨k1, rfl⟩ <;> rcases hh with ⟨rfl, rfl⟩ | ⟨k2, rfl⟩ <;> simp [run_sliceBound w, h1, h2]
theorem opt_none {lo : Option Operand} {d l : Nat} (h : (lo.isNone = true ∧ l = d) ∨ ∃ k, lo.map a.eval = some (.int k (l : Int))) : (lo.map a.eval = none ∧ l = d) ∨ ∃ k, lo.map a.eval = some (.int k (l : Int)) := by
  rcases h with ⟨h1, h2⟩ | h
  · cases lo with
    | none => exact .inl ⟨rfl, h2⟩
    | some x => simp at h1
  · exact .inr h
theorem slice_sound (hR : Rel P E w G) (hx : ∀ x, VR P E w (evX s x) (a.eval x)) {t : TypeId} {x val : AV} {ux : Value} {lo hi : Option Operand} {G' : Hp} (hv : VR P E w x ux) (h : evSlice P G t x (fun d => bnd s d lo) (fun d => bnd s d hi) = some (val, G')) :
    ∃ y E', (Instr.sliceAt t ux (lo.map a.eval) (hi.map a.eval) none).run P w = .ok y w ∧ VR P E' w val y ∧ Rel P E' w G' ∧ En.Le w E E' := by
  unfold evSlice at h
  split at h
  · rename_i b
    obtain ⟨rfl, _⟩ := hv.v_inv
    split at h
    · rename_i l hh hl1 hh1
      split at h
      · rename_i hc
        obtain ⟨h0, h1, h2⟩ := hc
        simp only [Option.some.injEq, Prod.mk.injEq] at h
        obtain ⟨rfl, rfl⟩ := h
        have hu := isStr_spec h0
        have hb := bounds_run (P := P) (w := w) (sl := false) (len := b.size) (cap := b.size) (opt_none (bnd_sound hx hl1)) (opt_none (bnd_sound hx hh1)) h1 h2
        refine ⟨_, E, ?_, .tree (.v rfl), hR, En.Le.refl _ _⟩
        simp [Instr.sliceAt, run_underlying hu, Instr.slice, hb]
      · simp at h
    · simp at h
  · split at h
    · rename_i e k by' z n cs hel htr
      obtain ⟨hu, ti, v, hi1, hi2, hi3, hi4, hi5, hi6, hi7, hi8, hi9, hi10, hi11⟩ := elI_spec hel
      split at h
      · rename_i l hh hl1 hh1
        split at h
        · rename_i hc
          obtain ⟨h1, h2, h3⟩ := hc
          simp only [Option.some.injEq, Prod.mk.injEq] at h
          obtain ⟨rfl, rfl⟩ := h
          obtain ⟨E', hR', p1, p2, pF, pN, p3, p4⟩ := tree_sound hR hv htr
          have hle := En.le_of w p1 p2 pF pN p3
          have fin : ∀ (A : Option Addr) (cap : Nat), ux = .slice A n cap → n ≤ cap → (∀ m : Nat, m = cap → ∀ B, B = (if m = l then A else A.map (·.add (l * k))) → TR E'.M w (.sl (hh - l) ((cs.drop (l * k)).take ((hh - l) * k))) (.slice B (hh - l) (m - l))) →
              ∃ y E'', (Instr.sliceAt t ux (lo.map a.eval) (hi.map a.eval) none).run P w = .ok y w ∧ VR P E'' w (.sl (hh - l) ((cs.drop (l * k)).take ((hh - l) * k))) y ∧ Rel P E'' w (frzOf G x) ∧ En.Le w E E'' := by
            rintro A cap rfl hn hT
            have hb := bounds_run (P := P) (w := w) (sl := true) (len := n) (cap := cap) (opt_none (bnd_sound hx hl1)) (opt_none (bnd_sound hx hh1)) h1 (by omega)
            refine ⟨_, E', ?_, .tree (hT cap rfl _ rfl), hR', hle⟩
            simp [Instr.sliceAt, run_underlying hu, Instr.slice, hb, hi9]
          cases p4 with
          | @nil _ A cap hn =>
            refine fin A _ rfl hn (fun m _ B _ => ?_)
            rw [List.drop_nil, List.take_nil]
            exact .nil _ (by omega)
          | @sl _ _ ad cap us hn h0 hb hl hcc hr =>
            refine fin (some ad) _ rfl hn (fun m hm B hB => ?_)
            by_cases hemp : 0 < ((cs.drop (l * k)).take ((hh - l) * k)).length
            · have hlt : l < hh := by
                rw [List.length_take] at hemp
                rcases Nat.lt_or_ge l hh with h | h
                · exact h
                · have : hh - l = 0 := by omega
                  rw [this] at hemp; simp at hemp
              have hB' : B = some (ad.add (l * k)) := by rw [hB, if_neg (by omega)]; rfl
              rw [hB']
              have hle2 : l * k + (hh - l) * k ≤ cs.length := by
                rw [h3, ← Nat.add_mul]; exact Nat.mul_le_mul_right _ (by omega)
              have hall : All2 (TR E'.M w) cs us := ⟨hl, hr⟩
              have h2' := (hall.drop (l * k)).take ((hh - l) * k)
              refine .sl (us := (us.drop (l * k)).take ((hh - l) * k)) (by omega) hemp (by rw [add_block]; exact hb) h2'.1 (fun i u hu' => ?_) h2'.2
              rw [List.getElem?_take] at hu'
              split at hu'
              · rw [List.getElem?_drop] at hu'
                rw [add_add]
                exact hcc _ u hu'
              · simp at hu'
            · rw [List.eq_nil_of_length_eq_zero (Nat.le_zero.1 (Nat.not_lt.1 hemp))]
              exact .nil _ (by omega)
        · simp at h
      · simp at h
    · simp at h
end
end Go.Proofs.YtomidniaekeafaaAbs
