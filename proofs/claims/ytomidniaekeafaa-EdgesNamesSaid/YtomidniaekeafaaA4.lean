/- Stores, and the plain operations. -/
import Derived.Test.YtomidniaekeafaaA3
namespace Go.Proofs.YtomidniaekeafaaAbs
open Go Go.RowKit

section
variable {P : Program} {E : En} {w : World} {G : Hp}
/-- Two lists, element by element. -/
def All2 {α β : Type} (R : α → β → Prop) (xs : List α) (ys : List β) : Prop := ys.length = xs.length ∧ ∀ (i : Nat) a b, xs[i]? = some a → ys[i]? = some b → R a b
theorem All2.nil {α β : Type} {R : α → β → Prop} : All2 R [] [] := ⟨rfl, fun i a b h => by simp at h⟩
theorem All2.cons {α β : Type} {R : α → β → Prop} {x : α} {y : β} {xs : List α} {ys : List β} (h : R x y) (hs : All2 R xs ys) : All2 R (x :: xs) (y :: ys) :=
  ⟨by simp [hs.1], fun i a b ha hb => by
    cases i with
    | zero => simp at ha hb; subst ha; subst hb; exact h
    | succ i => simp at ha hb; exact hs.2 i a b ha hb⟩
theorem All2.uncons {α β : Type} {R : α → β → Prop} {x : α} {xs : List α} {l : List β} (h : All2 R (x :: xs) l) : ∃ y ys, l = y :: ys ∧ R x y ∧ All2 R xs ys := by
  cases l with
  | nil => have := h.1; simp at this
  | cons y ys => exact ⟨y, ys, rfl, h.2 0 x y rfl rfl, by simpa using h.1, fun i a b ha hb => h.2 (i + 1) a b (by simpa using ha) (by simpa using hb)⟩
theorem All2.imp {α β : Type} {R R' : α → β → Prop} {xs : List α} {ys : List β} (h : All2 R xs ys) (hi : ∀ a b, R a b → R' a b) : All2 R' xs ys := ⟨h.1, fun i a b ha hb => hi a b (h.2 i a b ha hb)⟩
theorem All2.app {α β : Type} {R : α → β → Prop} : ∀ {xs xs' : List α} {ys ys' : List β}, All2 R xs ys → All2 R xs' ys' → All2 R (xs ++ xs') (ys ++ ys')
  | [], _, ys, _, h, h' => by
    have : ys = [] := List.eq_nil_of_length_eq_zero (by simpa using h.1)
    subst this; simpa using h'
  | x :: xs, _, ys, _, h, h' => by
    obtain ⟨y, ys, rfl, h1, h2⟩ := h.uncons
    exact .cons h1 (h2.app h')
theorem All2.take {α β : Type} {R : α → β → Prop} {xs : List α} {ys : List β} (h : All2 R xs ys) (n : Nat) : All2 R (xs.take n) (ys.take n) :=
  ⟨by rw [List.length_take, List.length_take, h.1], fun i a b ha hb => by
    rw [List.getElem?_take] at ha hb
    split at ha
    · rename_i hi; rw [if_pos hi] at hb; exact h.2 i a b ha hb
    · simp at ha⟩
theorem All2.drop {α β : Type} {R : α → β → Prop} {xs : List α} {ys : List β} (h : All2 R xs ys) (n : Nat) : All2 R (xs.drop n) (ys.drop n) :=
  ⟨by rw [List.length_drop, List.length_drop, h.1], fun i a b ha hb => by
    rw [List.getElem?_drop] at ha hb
    exact h.2 _ a b ha hb⟩

theorem VR.cells2 {a : AV} {u : Value} (ha : a.cells.all AV.one = true) (h : VR P E w a u) : All2 (VR P E w) a.cells u.cells.toList ∧ ∀ x ∈ u.cells.toList, x.oneCell' = true := by
  have one : a.one = true → u.cells.toList = [u] := fun h1 => by
    have := h.cells_one h1
    cases u <;> first | rfl | (simp [Value.oneCell'] at this)
  cases a with
  | agg cs =>
    obtain ⟨us, rfl, hl, hv, h1⟩ := h.agg_inv
    exact ⟨⟨by simpa [Value.cells, AV.cells] using hl, fun i a b ha hb => hv i a b ha (by simpa [Value.cells] using hb)⟩, fun x hx => h1 x (by simpa [Value.cells] using hx)⟩
  | any => simp [AV.cells, AV.one] at ha
  | und => simp [AV.cells, AV.one] at ha
  | tup vs => simp [AV.cells, AV.one] at ha
  | _ =>
    all_goals
      rw [one (by simpa [AV.cells] using ha)]
      exact ⟨.cons h .nil, fun x hx => by rw [List.mem_singleton.1 hx]; exact h.cells_one (by simpa [AV.cells] using ha)⟩
theorem tree_sound (hR : Rel P E w G) {a t : AV} {u : Value} (h : VR P E w a u) (ht : treeOf P G a = some t) :
    ∃ E', Rel P E' w (frzOf G a) ∧ E'.φ = E.φ ∧ E'.K = E.K ∧ E'.F = E.F ∧ E'.N = E.N ∧ (∀ b, E'.W b → E.W b) ∧ TR E'.M w t u := by
  cases a with
  | v x => simp [treeOf] at ht; subst ht; obtain ⟨rfl, h1⟩ := h.v_inv; exact ⟨E, hR, rfl, rfl, rfl, rfl, fun _ h => h, .v h1⟩
  | sl n cs => simp [treeOf] at ht; subst ht; exact ⟨E, hR, rfl, rfl, rfl, rfl, fun _ h => h, h.sl_inv⟩
  | row id n =>
    simp only [treeOf] at ht
    cases hG : G id with
    | none => simp [hG] at ht
    | some o =>
      cases o <;> simp [hG] at ht
      · rename_i e cs
        obtain ⟨hl, rfl⟩ := ht
        cases cs with
        | nil =>
          refine ⟨E, by simpa only [frzOf, hG] using hR, rfl, rfl, rfl, rfl, fun _ h => h, ?_⟩
          have := h.row_tree hR (.inl hG) hl (fun _ => False) (fun _ h => h.elim) (fun _ _ h => h)
          rw [List.take_nil] at this ⊢
          cases this with
          | nil A hn => exact .nil A hn
          | sl _ h0 => simp at h0
        | cons c cs =>
          obtain ⟨b, hφ, ho⟩ := hR.obj' hG rfl (fun e he => by cases he)
          refine ⟨E.less b, ?_, rfl, rfl, rfl, rfl, fun _ h => h.2, h.row_tree hR (.inl hG) hl _ (fun _ h => ?_) (fun b' hb' hm => ?_)⟩
          · simp only [frzOf, hG]; exact hR.freeze hφ hG (by simp)
          · rcases h with h | h
            · exact .inl h
            · exact .inr h.2
          · rw [hφ] at hb'
            injection hb' with hb'
            subst hb'
            rcases hm with hm | hm
            · exact hR.nF id b hφ hm
            · exact hm.1 rfl
      · rename_i e cs
        obtain ⟨hl, rfl⟩ := ht
        refine ⟨E, by simpa only [frzOf, hG] using hR, rfl, rfl, rfl, rfl, fun _ h => h, h.row_tree hR (.inr hG) hl _ (fun _ h => h) (fun b' hb' hm => ?_)⟩
        rcases hm with hm | hm
        · exact hR.nF id b' hb' hm
        · obtain ⟨i, o, h1, h2, h3⟩ := (hR.W b').1 hm
          have := hR.inj i id b' h1 hb'
          subst this
          rw [hG] at h2
          injection h2 with h2
          subst h2
          simp [AObj.mut] at h3
  | _ => simp [treeOf] at ht
theorem En.le_of {E E' : En} (w : World) (hφ : E'.φ = E.φ) (hK : E'.K = E.K) (hF : E'.F = E.F) (hN : E'.N = E.N) (hW : ∀ b, E'.W b → E.W b) : En.Le w E E' :=
  ⟨fun i h => by rw [hK]; exact h, fun i b _ h => by rw [hφ] at h; exact h, fun b _ h => hW b h, hF, fun i _ h => by rw [hN] at h; exact h⟩
theorem trees_sound : ∀ {as ts : List AV} {us : List Value} {E : En} {G G' : Hp}, Rel P E w G → All2 (VR P E w) as us → treesOf P G as = some (ts, G') →
    ∃ E', Rel P E' w G' ∧ E'.φ = E.φ ∧ E'.K = E.K ∧ E'.F = E.F ∧ E'.N = E.N ∧ (∀ b, E'.W b → E.W b) ∧ All2 (TR E'.M w) ts us ∧ ts.length = as.length
  | [], ts, us, E, G, G', hR, h, ht => by
    simp [treesOf] at ht
    obtain ⟨rfl, rfl⟩ := ht
    have : us = [] := List.eq_nil_of_length_eq_zero (by simpa using h.1)
    subst this
    exact ⟨E, hR, rfl, rfl, rfl, rfl, fun _ h => h, .nil, rfl⟩
  | a :: as, ts, us, E, G, G', hR, h, ht => by
    obtain ⟨u, us, rfl, h1, h2⟩ := h.uncons
    simp only [treesOf] at ht
    cases hta : treeOf P G a with
    | none => simp [hta] at ht
    | some t =>
      cases htr : treesOf P (frzOf G a) as with
      | none => simp [hta, htr] at ht
      | some r =>
        obtain ⟨ts', G''⟩ := r
        simp [hta, htr] at ht
        obtain ⟨rfl, rfl⟩ := ht
        obtain ⟨E1, hR1, p1, p2, pF, pN, p3, p4⟩ := tree_sound hR h1 hta
        have hle := En.le_of w p1 p2 pF pN p3
        obtain ⟨E2, hR2, q1, q2, qF, qN, q3, q4, q5⟩ := trees_sound hR1 (h2.imp fun a b hab => hab.ext (Ext.refl _ _) hle) htr
        have hle2 := En.le_of w q1 q2 qF qN q3
        exact ⟨E2, hR2, q1.trans p1, q2.trans p2, qF.trans pF, qN.trans pN, fun b hb => p3 b (q3 b hb), .cons (p4.ext (Ext.refl _ _) hle2.M) q4, by simp [q5]⟩

theorem shape_of_cells {w w' : World} {b : Nat} {us us' : Array Value} {t : TypeId} {fr fr' : Nat × Nat} (h : w.heap[b]? = some (.cells us t fr)) (h' : w'.heap[b]? = some (.cells us' t fr')) (hl : us'.size = us.size) : w'.shape? b = w.shape? b := by
  simp [World.shape?, h, h', hl]
theorem store_sound (hR : Rel P E w G) {a v : AV} {ua uv : Value} {t : TypeId} {G' : Hp} (ha : VR P E w a ua) (hv : VR P E w v uv) (h : evStore P G t a v = some G') :
    ∃ w' E', (Instr.storeAt t ua uv).run P w = .ok () w' ∧ Rel P E' w' G' ∧ Ext E.W w w' ∧ En.Le w E E' := by
  unfold evStore at h
  cases hT : tyI P t with
  | none => simp [hT] at h
  | some bk =>
    obtain ⟨bb, k⟩ := bk
    obtain ⟨_, s2, s3, _, _, s6, _⟩ := tyI_spec hT
    simp only [hT] at h
    split at h
    · rename_i hc
      obtain ⟨hk, hone⟩ := hc
      obtain ⟨hcells, hones⟩ := hv.cells2 hone
      have hsz : uv.cells.size = k := by have := hcells.1; rw [Array.length_toList] at this; omega
      -- the common part: the machine's store
      have mach : ∀ (b off : Nat) (cur : List Value) (te : TypeId), w.heap[b]? = some (.cells cur.toArray te (0, 0)) → off + k ≤ cur.length → E.W b →
          ∃ w', (Instr.storeAt t (.pointer (some ⟨b, off, none⟩)) uv).run P w = .ok () w' ∧ w'.heap[b]? = some (.cells (cur.take off ++ uv.cells.toList ++ cur.drop (off + k)).toArray te (0, 0)) ∧ (∀ x, x ≠ b → w'.heap[x]? = w.heap[x]?) ∧ Ext E.W w w' := by
        intro b off cur te hg hl hM
        obtain ⟨w', h1, h2, h3, h4, h5, h6, h7⟩ := run_storeCells_at (P := P) b off te uv.cells.toList 0 cur w hg (by rw [Array.length_toList, hsz]; omega) hones
        refine ⟨w', ?_, ?_, h3, ⟨h4, h5, h6, Nat.le_of_eq h7.symm, fun x hx hm => h3 x (fun e => hm (e ▸ hM)), fun x hx => ?_⟩⟩
        · simp [Instr.storeAt, Instr.sureAddr, storeVar, s2, hsz, h1]
        · rw [h2]; simp [hsz]
        · by_cases hxb : x = b
          · subst hxb
            refine shape_of_cells hg h2 ?_
            simp [hsz]
            omega
          · exact shape_of_heap (h3 x hxb)
      cases a with
      | ptr id off =>
        simp only at h
        cases hG : G id with
        | none => simp [hG] at h
        | some o =>
          cases o <;> simp [hG] at h
          rename_i t0 cs
          obtain ⟨hoff, rfl⟩ := h
          obtain ⟨b, hφ, us, g1, g2, g3, g4⟩ := hR.obj' hG rfl (fun e he => by cases he)
          obtain rfl := ha.ptr_inv hφ
          have hM : E.W b := (hR.W b).2 ⟨id, _, hφ, hG, rfl⟩
          obtain ⟨w', h1, h2, h3, h4⟩ := mach b off us t0 g1 (by omega) hM
          refine ⟨w', E, h1, hR.put hφ hG rfl rfl h4 h3 ⟨_, h2, ?_, ?_, ?_⟩, h4, En.Le.refl w E⟩
          · simp [splice, hsz, hk, g2]
          · intro x hx
            simp only [List.mem_append] at hx
            rcases hx with (hx | hx) | hx
            · exact g3 x (List.mem_of_mem_take hx)
            · exact hones x hx
            · exact g3 x (List.mem_of_mem_drop hx)
          · have hall : All2 (VR P E w) cs us := ⟨g2, g4⟩
            have := ((hall.take off).app hcells).app (hall.drop (off + k))
            rw [← hk] at this ⊢
            intro i a u hi hu
            exact (this.2 i a u hi hu).ext h4 (En.Le.refl w E)
      | ea base off =>
        cases base with
        | row id n =>
          simp only at h
          cases ht : treesOf P G v.cells with
          | none => simp [ht] at h
          | some r =>
            obtain ⟨ts, G1⟩ := r
            simp only [ht] at h
            obtain ⟨E1, hR1, p1, p2, pF, pN, p3, p4, p5⟩ := trees_sound hR hcells ht
            have hle := En.le_of w p1 p2 pF pN p3
            have hk0 : 0 < k := s3
            cases hG : G1 id with
            | none => simp [hG] at h
            | some o =>
              cases o <;> simp [hG] at h
              rename_i e cs
              obtain ⟨hoff, rfl⟩ := h
              obtain ⟨b, hφ, us, g1, g2, g4⟩ := hR1.obj' hG rfl (fun e' he => by injection he with _ he; subst he; simp at hoff; omega)
              have hφ0 : E.φ id = some b := by rw [← p1]; exact hφ
              obtain ⟨u0, q1, q2⟩ := ha.ea_inv
              obtain ⟨cap, e', rfl, _, _, _⟩ := q1.row_inv hφ0
              obtain rfl := q2 _ _ _ rfl
              rw [add_lit]
              simp only [Nat.zero_add]
              have hM1 : E1.W b := (hR1.W b).2 ⟨id, _, hφ, hG, rfl⟩
              obtain ⟨w', h1, h2, h3, h4⟩ := mach b off us e g1 (by omega) (p3 b hM1)
              have h4' : Ext E1.W w w' := ⟨h4.os, h4.tape, h4.output, h4.size, fun x hx hm => h3 x (fun e => hm (e ▸ hM1)), h4.shape⟩
              refine ⟨w', E1, h1, hR1.put hφ hG rfl rfl h4' h3 ⟨_, h2, ?_, ?_⟩, h4, hle⟩
              · simp [splice, hsz, p5, hk]
                omega
              · intro i a u hi hu
                have hlt : i < (splice cs off ts).length := (List.getElem?_eq_some_iff.1 hi).1
                have hall : All2 (TR E1.M w) cs (us.take cs.length) := ⟨by rw [List.length_take]; omega, fun i a u ha hu => by
                  rw [List.getElem?_take] at hu
                  split at hu
                  · exact g4 i a u ha hu
                  · simp at hu⟩
                have h5 := ((hall.take off).app p4).app (hall.drop (off + k))
                have hts : ts.length = k := by rw [p5, hk]
                have e1 : splice cs off ts = cs.take off ++ ts ++ cs.drop (off + k) := by simp [splice, hts]
                rw [e1] at hi hlt
                refine (h5.2 i a u hi ?_).ext h4'.toM (fun _ _ h => h)
                have hlen : (cs.take off ++ ts ++ cs.drop (off + k)).length = cs.length := by simp [hts]; omega
                rw [← hu]
                have hpre : ((us.take cs.length).take off ++ uv.cells.toList ++ (us.take cs.length).drop (off + k)) = (us.take off ++ uv.cells.toList ++ us.drop (off + k)).take cs.length := by
                  rw [List.take_append, List.take_append, List.take_take, List.take_take, List.drop_take]
                  simp only [List.length_append, List.length_take, Array.length_toList, hsz]
                  rw [Nat.min_eq_left (by omega), Nat.min_eq_right (by omega)]
                  congr 2
                  · rw [List.take_of_length_le (by rw [Array.length_toList, hsz]; omega)]
                  · congr 1; omega
                rw [hpre, List.getElem?_take, if_pos (by omega)]
        | _ => simp at h
      | _ => simp at h
    · simp at h
end
end Go.Proofs.YtomidniaekeafaaAbs
