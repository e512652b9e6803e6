/- Every plain operation. -/
import Derived.Test.YtomidniaekeafaaA8
namespace Go.Proofs.YtomidniaekeafaaAbs
open Go Go.RowKit

theorem frzOf_none {G : Hp} {a : AV} {i : Nat} (h : G i = none) : frzOf G a i = none := by
  cases a <;> try exact h
  rename_i id n
  simp only [frzOf]
  cases hG : G id with
  | none => exact h
  | some o =>
    cases o <;> try exact h
    rename_i e cs
    cases cs with
    | nil => exact h
    | cons c cs =>
      by_cases hi : i = id
      · subst hi; rw [h] at hG; cases hG
      · show G.upd id (.frz e (c :: cs)) i = none
        rw [Hp.upd_ne _ _ hi]; exact h
theorem treesOf_none {P : Program} : ∀ {as ts : List AV} {G G' : Hp} {i : Nat}, treesOf P G as = some (ts, G') → G i = none → G' i = none
  | [], ts, G, G', i, h, hn => by simp [treesOf] at h; rw [← h.2]; exact hn
  | a :: as, ts, G, G', i, h, hn => by
    simp only [treesOf] at h
    split at h
    · rename_i t ts' G1 h1 h2
      simp only [Option.some.injEq, Prod.mk.injEq] at h
      obtain ⟨_, rfl⟩ := h
      exact treesOf_none h2 (frzOf_none hn)
    · simp at h
theorem evStore_none {P : Program} {G G' : Hp} {t : TypeId} {a v : AV} {i : Nat} (h : evStore P G t a v = some G') (hn : G i = none) : G' i = none := by
  unfold evStore at h
  split at h
  · simp at h
  · split at h
    · split at h
      · rename_i id off
        split at h
        · rename_i t0 cs hG
          split at h
          · injection h with h
            subst h
            rw [Hp.upd_ne _ _ (fun e => by rw [e, hG] at hn; cases hn)]
            exact hn
          · simp at h
        · simp at h
      · rename_i id n off
        split at h
        · rename_i ts G1 ht
          have h1 := treesOf_none ht hn
          split at h
          · rename_i e cs hG
            split at h
            · injection h with h
              subst h
              rw [Hp.upd_ne _ _ (fun e => by rw [e, hG] at h1; cases h1)]
              exact h1
            · simp at h
          · simp at h
        · simp at h
      · simp at h
    · simp at h

section
variable {P : Program} {E : En} {w : World} {G : Hp} {s : Sl} {a : Act} {nx : Nat}
theorem flat_cells {ps : List (Nat × Operand)} {k : Nat} (hx : ∀ x, VR P E w (evX s x) (a.eval x)) (h : ps.all (fun p => decide ((evX s p.2).cells.length = k) && (evX s p.2).cells.all AV.one) = true) :
    All2 (VR P E w) (ps.flatMap fun p => (evX s p.2).cells) (ps.flatMap fun p => (a.eval p.2).cells.toList) ∧ (∀ p ∈ ps, (a.eval p.2).cells.size = k) ∧ (∀ x ∈ ps.flatMap fun p => (a.eval p.2).cells.toList, x.oneCell' = true) := by
  simp only [List.all_eq_true, Bool.and_eq_true, decide_eq_true_eq] at h
  have hc : ∀ p ∈ ps, All2 (VR P E w) (evX s p.2).cells (a.eval p.2).cells.toList ∧ ∀ x ∈ (a.eval p.2).cells.toList, x.oneCell' = true := fun p hp => (hx p.2).cells2 (by rw [List.all_eq_true]; exact (h p hp).2)
  refine ⟨all2_flat _ _ ps fun p hp => (hc p hp).1, fun p hp => ?_, fun x hx' => ?_⟩
  · have h1 := (hc p hp).1.1
    have h2 := (h p hp).1
    rw [Array.length_toList] at h1
    omega
  · obtain ⟨p, hp, hx2⟩ := List.mem_flatMap.1 hx'
    exact (hc p hp).2 x hx2
set_option maxHeartbeats 1000000 in
theorem op_sound (hR : Rel P E w G) (hx : ∀ x, VR P E w (evX s x) (a.eval x)) (hn : G nx = none) {o : Oper} {val : AV} {G' : Hp} {nx' : Nat} (h : evOp P s G nx o.op = some (val, G', nx')) : Out P E w ((execOp a.eval o).run P w) val G' := by
  unfold evOp at h
  unfold execOp
  cases hop : o.op <;> simp only [hop] at h ⊢
  case move x => simp only [Option.some.injEq, Prod.mk.injEq] at h; obtain ⟨rfl, rfl, rfl⟩ := h; exact Out.val hR (hx x)
  case assign x => simp only [Option.some.injEq, Prod.mk.injEq] at h; obtain ⟨rfl, rfl, rfl⟩ := h; exact Out.val hR (hx x)
  case pick c x y =>
    split at h
    · rename_i t he
      simp only [Option.some.injEq, Prod.mk.injEq] at h; obtain ⟨rfl, rfl, rfl⟩ := h
      have := hx c
      rw [he] at this
      have hc := this.v_inv.1
      cases t
      · exact ⟨w, E, a.eval y, .inl (by simp [hc, asBool]), by simpa using hx y, hR, Ext.refl _ _, En.Le.refl _ _⟩
      · exact ⟨w, E, a.eval x, .inl (by simp [hc, asBool]), by simpa using hx x, hR, Ext.refl _ _, En.Le.refl _ _⟩
    · simp at h
  case alloc t =>
    split at h
    · rename_i z hz
      simp only [Option.some.injEq, Prod.mk.injEq] at h; obtain ⟨rfl, rfl, rfl⟩ := h
      obtain ⟨v, h1, h2, h3, _⟩ := zrI_spec hz
      obtain ⟨E', q1, q2, q3, q4⟩ := var_sound (t := t) hR hn (vs_all2 (P := P) (E := E) (w := w) h3) h3
      refine ⟨_, E', _, .inl ?_, q1, q2, q3, q4⟩
      rw [← h2]
      simp [Instr.alloc, h1, newVar, newRow]
    · simp at h
  case box t x =>
    split at h
    · rename_i hone
      simp only [Option.some.injEq, Prod.mk.injEq] at h; obtain ⟨rfl, rfl, rfl⟩ := h
      obtain ⟨h1, h2⟩ := (hx x).cells2 hone
      obtain ⟨E', q1, q2, q3, q4⟩ := var_sound (t := t) hR hn h1 h2
      refine ⟨_, E', _, .inl ?_, q1, q2, q3, q4⟩
      simp [Instr.box, newVar, newRow]
    · simp at h
  case build t ps =>
    split at h
    · rename_i z places hz hpl0
      obtain ⟨fs, hu, hpl⟩ := plI_spec hpl0
      split at h
      · rename_i cs hb
        simp only [Option.some.injEq, Prod.mk.injEq] at h; obtain ⟨rfl, rfl, rfl⟩ := h
        obtain ⟨v, h1, h2, h3, h4⟩ := zrI_spec hz
        obtain ⟨ti, h5, h6⟩ := Option.bind_eq_some_iff.1 h4
        · obtain ⟨us', q1, q2, q3⟩ := build_sound (ρ := a.eval) hu hpl ps.toList _ _ z hx (vs_all2 h3) h3 hb
          have hbuilt : P.built t (ps.map fun (i, x) => (i, a.eval x)).toList = some us'.toArray := by
            unfold Program.built
            rw [h5, hu]
            simp only [h6, hpl]
            have e1 : v.cells = z.toArray := by rw [← h2]
            have e2 : (ps.map fun (i, x) => (i, a.eval x)).toList = ps.toList.map fun p => (p.1, a.eval p.2) := by simp
            rw [e1, e2]
            simpa using q1
          refine ⟨w, E, _, .inl ?_, .agg q2.1 q2.2 q3, hR, Ext.refl _ _, En.Le.refl _ _⟩
          simp [run_build w t _ _ hbuilt]
      · simp at h
    · simp at h
  case buildSlice t n ps =>
    split at h
    · rename_i e k by' z hel
      obtain ⟨hu, ti, v, hi1, hi2, hi3, hi4, hi5, hi6, hi7, hi8, hi9, hi10, hi11⟩ := elI_spec hel
      split at h
      · rename_i hc
        obtain ⟨hr, hsz, hn', hall⟩ := hc
        split at h
        · rename_i ts G1 ht
          simp only [Option.some.injEq, Prod.mk.injEq] at h; obtain ⟨rfl, rfl, rfl⟩ := h
          obtain ⟨c1, c2, c3⟩ := flat_cells (k := k) hx hall
          obtain ⟨E1, hR1, p1, p2, pF, pN, p3, p4, p5⟩ := trees_sound hR c1 ht
          have hlp : ps.size = n := by have := congrArg List.length hr; simpa using this
          have hfill := fill_row k (ps.toList.map fun p => (p.1, a.eval p.2)) 0 ((Array.range (n * k)).map (v.cells[· % v.cells.size]!)).toList (by
            intro p hp
            obtain ⟨q, hq, rfl⟩ := List.mem_map.1 hp
            exact c2 q hq) (by simp only [List.map_map, List.length_map, Array.length_toList, hlp]; rw [← hr]; simp [Function.comp_def]) (by simp [hlp])
          have hus : (ps.toList.map fun p => (p.1, a.eval p.2)).flatMap (fun p => p.2.cells.toList) = ps.toList.flatMap fun p => (a.eval p.2).cells.toList := by rw [List.flatMap_map]
          rw [hus] at hfill
          simp only [Nat.zero_mul, List.take_zero, List.nil_append, Array.toArray_toList] at hfill
          have hlen : (ps.toList.flatMap fun p => (a.eval p.2).cells.toList).length = n * k := by
            have : ∀ (l : List (Nat × Operand)), (∀ p ∈ l, (a.eval p.2).cells.size = k) → (l.flatMap fun p => (a.eval p.2).cells.toList).length = l.length * k := by
              intro l
              induction l with
              | nil => simp
              | cons p l ih =>
                intro hl
                rw [List.flatMap_cons, List.length_append, ih (fun q hq => hl q (List.mem_cons_of_mem _ hq)), Array.length_toList, hl p (List.mem_cons_self ..), List.length_cons, Nat.add_mul, Nat.one_mul, Nat.add_comm]
            rw [this _ c2, Array.length_toList, hlp]
          obtain ⟨E2, q1, q2, q3, q4⟩ := row_sound hR1 (treesOf_none ht hn) (n := n) hi11 hlen (by unfold maxLen; omega) p4
          have hle := En.le_of w p1 p2 pF pN p3
          refine ⟨_, E2, _, .inl ?_, q1, q2, q3.mono (fun b _ h => p3 b h), hle.trans q4 (Nat.le_refl _)⟩
          have hn0 : ¬ (n * k > 2 ^ 24) := by omega
          by_cases h0 : n * k = 0
          · have e0 : Array.range 0 = #[] := rfl
            rw [h0, e0] at hfill
            simp only [Array.map_empty] at hfill
            simp [Instr.buildSlice, run_underlying hu, hi9, h0, e0, hfill, newRow]
          · simp [Instr.buildSlice, run_underlying hu, hi9, h0, hn0, hi10, hfill, newRow]
        · simp at h
      · simp at h
    · simp at h
  case load t x =>
    obtain ⟨v, hv, he⟩ := Option.map_eq_some_iff.1 h
    simp only [Prod.mk.injEq] at he; obtain ⟨rfl, rfl, rfl⟩ := he
    obtain ⟨y, h1, h2⟩ := load_sound hR (hx x) hv
    exact Out.same hR h1 h2
  case store t x y =>
    obtain ⟨G1, hv, he⟩ := Option.map_eq_some_iff.1 h
    simp only [Prod.mk.injEq] at he; obtain ⟨rfl, rfl, rfl⟩ := he
    obtain ⟨w', E', h1, h2, h3, h4⟩ := store_sound hR (hx x) (hx y) hv
    exact ⟨w', E', undef, .inr ⟨by simp [h1], rfl⟩, .any _, h2, h3, h4⟩
  case nilCheck x =>
    split at h
    · rename_i hadr
      simp only [Option.some.injEq, Prod.mk.injEq] at h; obtain ⟨rfl, rfl, rfl⟩ := h
      obtain ⟨ad, hu⟩ := adr_sound hR (hx x) hadr
      refine ⟨w, E, a.eval x, .inl ?_, hx x, hR, Ext.refl _ _, En.Le.refl _ _⟩
      rw [hu]; simp
    · split at h
      · rename_i f cs he
        simp only [Option.some.injEq, Prod.mk.injEq] at h; obtain ⟨rfl, rfl, rfl⟩ := h
        have hv := hx x
        rw [he] at hv
        obtain ⟨us, hu, _⟩ := hv.fn_inv
        refine ⟨w, E, a.eval x, .inl ?_, hv, hR, Ext.refl _ _, En.Le.refl _ _⟩
        rw [hu]; simp
      · simp at h
  case binOp op t x y yt =>
    split at h
    · rename_i u v hu hv
      obtain ⟨r, hr, he⟩ := Option.map_eq_some_iff.1 h
      simp only [Prod.mk.injEq] at he; obtain ⟨rfl, rfl, rfl⟩ := he
      rw [conc_sound (hx x) hu, conc_sound (hx y) hv]
      exact Out.same hR (bin_sound hr) (.tree (.v (bin_one hr)))
    · simp at h
  case unOp op t x =>
    split at h
    · rename_i u hu
      obtain ⟨r, hr, he⟩ := Option.map_eq_some_iff.1 h
      simp only [Prod.mk.injEq] at he; obtain ⟨rfl, rfl, rfl⟩ := he
      rw [conc_sound (hx x) hu]
      exact Out.same hR (un_sound hr) (.tree (.v (un_one hr)))
    · simp at h
  case convert src dst x =>
    split at h
    · rename_i k n he
      split at h
      · rename_i d k' hs hd
        simp only [Option.some.injEq, Prod.mk.injEq] at h; obtain ⟨rfl, rfl, rfl⟩ := h
        have hv := hx x
        rw [he] at hv
        have hi : P.intKind dst = k' := by simp [Program.intKind, hd]
        have := run_convert_int w src dst k n (by rw [hs]; rfl) (by rw [hi]; exact hd)
        rw [hi] at this
        rw [hv.v_inv.1]
        exact Out.same hR this (.tree (.v rfl))
      · simp at h
    · rename_i b he
      split at h
      · rename_i hs hd
        simp only [Option.some.injEq, Prod.mk.injEq] at h; obtain ⟨rfl, rfl, rfl⟩ := h
        have hv := hx x
        rw [he] at hv
        rw [hv.v_inv.1]
        exact Out.same hR (u := .string b) (by simp [convert, run_underlying hs, run_underlying hd]) (.tree (.v rfl))
      · simp at h
    · simp at h
  case makeFunc f first caps =>
    cases f
    case func f =>
      dsimp only at h
      split at h
      · rename_i hf
        subst hf
        simp only [Option.some.injEq, Prod.mk.injEq] at h; obtain ⟨rfl, rfl, rfl⟩ := h
        refine Out.same hR (u := .func (.func f) #[] (caps.map a.eval)) (by simp [Instr.makeFunc]) ?_
        have : caps.map a.eval = (caps.toList.map a.eval).toArray := by rw [← Array.toList_map, Array.toArray_toList]
        rw [this]
        refine .fn (by simp) (fun i c u hc hu => ?_)
        rw [List.getElem?_map] at hc hu
        cases hi : caps.toList[i]? with
        | none => simp [hi] at hc
        | some x => simp [hi] at hc hu; subst hc; subst hu; exact hx x
      · simp at h
    all_goals simp at h
  case fieldAddr t x f =>
    split at h
    · rename_i off b k hf
      split at h
      · rename_i hadr
        obtain ⟨ad, hu⟩ := adr_sound hR (hx x) hadr
        split at h
        · rename_i id o' he
          simp only [Option.some.injEq, Prod.mk.injEq] at h; obtain ⟨rfl, rfl, rfl⟩ := h
          have hv := hx x
          rw [he, hu] at hv
          rw [hu]
          exact Out.same hR (fieldAt_sound hf ad) hv.ptr_add
        · rename_i b' o' he
          simp only [Option.some.injEq, Prod.mk.injEq] at h; obtain ⟨rfl, rfl, rfl⟩ := h
          have hv := hx x
          rw [he, hu] at hv
          rw [hu]
          exact Out.same hR (fieldAt_sound hf ad) hv.ea_add
        · rename_i b' o' he
          simp only [Option.some.injEq, Prod.mk.injEq] at h; obtain ⟨rfl, rfl, rfl⟩ := h
          have hv := hx x
          rw [he, hu] at hv
          rw [hu]
          exact Out.same hR (fieldAt_sound hf ad) hv.cp_add
        · simp at h
      · simp at h
    · simp at h
  case field t x f =>
    split at h
    · rename_i off b k cs hf he
      split at h
      · rename_i hk
        simp only [Option.some.injEq, Prod.mk.injEq] at h; obtain ⟨rfl, rfl, rfl⟩ := h
        have hv := hx x
        rw [he] at hv
        obtain ⟨y, h1, h2⟩ := field_sound hf hv hk
        exact Out.same hR h1 h2
      · simp at h
    · simp at h
  case indexAddr t x i =>
    obtain ⟨v, hv, he⟩ := Option.map_eq_some_iff.1 h
    simp only [Prod.mk.injEq] at he; obtain ⟨rfl, rfl, rfl⟩ := he
    obtain ⟨y, h1, h2⟩ := index_sound hR (hx x) (hx i) hv
    exact Out.same hR h1 h2
  case index t x i =>
    split at h
    · rename_i b k n he1 he2
      split at h
      · rename_i hb
        split at h
        · rename_i hs
          simp only [Option.some.injEq, Prod.mk.injEq] at h; obtain ⟨rfl, rfl, rfl⟩ := h
          have hv1 := hx x
          have hv2 := hx i
          rw [he1] at hv1
          rw [he2] at hv2
          rw [hv1.v_inv.1, hv2.v_inv.1]
          refine Out.same hR (u := .int .u8 (b[n.toNat]'hb.2).toNat) ?_ (.tree (.v rfl))
          have h1 : b[n.toNat]? = some (b[n.toNat]'hb.2) := getElem?_pos ..
          simp [Instr.index, asIntOf, run_underlying (isStr_spec hs), hb.1, h1]
        · simp at h
      · simp at h
    · simp at h
  case slice t x lo hi mx =>
    cases mx with
    | some m => simp at h
    | none =>
      obtain ⟨r, hv, he⟩ := Option.map_eq_some_iff.1 h
      simp only [Prod.mk.injEq] at he; obtain ⟨rfl, rfl, rfl⟩ := he
      obtain ⟨y, E', h1, h2, h3, h4⟩ := slice_sound (val := r.1) (G' := r.2) hR hx (hx x) hv
      exact ⟨w, E', y, .inl (by simp [h1]), h2, h3, Ext.refl _ _, h4⟩
  case extract x i =>
    split at h
    · rename_i vs he
      split at h
      · rename_i v hvs
        simp only [Option.some.injEq, Prod.mk.injEq] at h; obtain ⟨rfl, rfl, rfl⟩ := h
        have hv := hx x
        rw [he] at hv
        obtain ⟨us, hu, hl, hvu⟩ := hv.tup_inv
        have hi : i < us.length := by rw [hl]; exact (List.getElem?_eq_some_iff.1 hvs).1
        rw [hu]
        refine Out.same hR (u := us[i]) ?_ (hvu i v us[i] hvs (List.getElem?_eq_getElem hi))
        simp [Instr.extract, hi]
      · simp at h
    · simp at h
  all_goals simp at h
end
end Go.Proofs.YtomidniaekeafaaAbs
