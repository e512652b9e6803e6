/- Two operations, in the other order. -/
import Derived.Test.YtomidniaekeafaaC7
namespace Go.Proofs.YtomidniaekeafaaAbs
open Go Go.RowKit

/-- What an operation does. -/
inductive Eff (P : Program) (ops : Array Oper) (o : Oper) (s : Sl) (G : Hp) : AV → Hp → Prop
  | off (hw : wantA ops o s = some false) : Eff P ops o s G .und G
  | op {G' : Hp} {val : AV} {nx nx' : Nat} (hw : wantA ops o s = some true) (hn : G nx = none) (he : evC P s G nx o = some (val, G', nx')) : Eff P ops o s G val G'
  | call {G' : Hp} {f : FuncId} {as ts : List AV} {r : AV} {J : Js} {nx : Nat} (hw : wantA ops o s = some true) (hc : callA s o = some (f, as)) (ha : argsOf P G as = some (ts, G'))
      (hn : ∀ j, nx ≤ j ∧ j - nx < J.length → G j = Option.none) (hk : CallsOK P f ts r J) : Eff P ops o s G (shiftT nx r) (addJ G' nx J)
  | keep {f : FuncId} {as ts : List AV} {r : AV} (hw : wantA ops o s = some true) (hc : callA s o = some (f, as)) (ha : seesA P G as = some ts)
      (hk : CallsOK P f ts r []) (hkeep : flatT r = true) : Eff P ops o s G r G
  | inl {G' : Hp} {f : FuncId} {as : List AV} {v : AV} (hw : wantA ops o s = some true) (hc : callA s o = some (f, as)) (hk : InlOK P f as G v G') (hg : clsOf o = 3 ∨ Grows G G') (hfin : Fin G → Fin G') : Eff P ops o s G v G'
section
variable {P : Program} {N : Nat} {ops : Array Oper} {s s' s1 s2 : Sl} {G G' G1 G2 : Hp}
theorem step_iff {i : Nat} {o : Oper} (hi : ops[i]? = some o) : Step P N ops i s G s' G' ↔ dstOK N o = true ∧ ∃ val, s' = s.put o.dst val ∧ Eff P ops o s G val G' := by
  constructor
  · intro h
    cases h with
    | none h => rw [hi] at h; cases h
    | off h hd hw => rw [hi] at h; injection h with h; subst h; exact ⟨hd, _, rfl, .off hw⟩
    | op h hd hw hn he => rw [hi] at h; injection h with h; subst h; exact ⟨hd, _, rfl, .op hw hn he⟩
    | call h hd hw hc ha hn hk => rw [hi] at h; injection h with h; subst h; exact ⟨hd, _, rfl, .call hw hc ha hn hk⟩
    | keep h hd hw hc ha hk hkeep => rw [hi] at h; injection h with h; subst h; exact ⟨hd, _, rfl, .keep hw hc ha hk hkeep⟩
    | inl h hd hw hc hk hg hf => rw [hi] at h; injection h with h; subst h; exact ⟨hd, _, rfl, .inl hw hc hk hg hf⟩
  · rintro ⟨hd, val, rfl, h⟩
    cases h with
    | off hw => exact .off hi hd hw
    | op hw hn he => exact .op hi hd hw hn he
    | call hw hc ha hn hk => exact .call hi hd hw hc ha hn hk
    | keep hw hc ha hk hkeep => exact .keep hi hd hw hc ha hk hkeep
    | inl hw hc hk hg hf => exact .inl hi hd hw hc hk hg hf
theorem addJ_fin {nx : Nat} {J : Js} (h : Fin G) : Fin (addJ G nx J) := by
  obtain ⟨n, h⟩ := h
  refine ⟨n + nx + J.length, fun i hi => ?_⟩
  show (if nx ≤ i ∧ i - nx < J.length then ofJ J (i - nx) else G i) = none
  rw [if_neg (by omega)]; exact h i (by omega)
theorem Eff.fin {o : Oper} {val : AV} (h : Eff P ops o s G val G') (hf : Fin G) : Fin G' := by
  cases h with
  | off => exact hf
  | @op _ _ nx nx' hw hn he =>
    obtain ⟨n, hf⟩ := hf
    rcases evC_none he with ⟨_, h2⟩ | ⟨_, h2⟩
    · exact ⟨n, fun i hi => h2 i (hf i hi)⟩
    · exact ⟨n + nx + 1, fun i hi => h2 i (by omega) (hf i (by omega))⟩
  | call hw hc ha hn hk =>
    obtain ⟨n, hf⟩ := hf
    exact addJ_fin ⟨n, fun i hi => args_none ha (hf i hi)⟩
  | keep => exact hf
  | inl hw hc hk hg hfin => exact hfin hf
/-- What it looks at is the same. -/
def Same (ops : Array Oper) (o : Oper) (s s' : Sl) : Prop := (∀ x ∈ o.op.operands, evX s' x = evX s x) ∧ wantA ops o s' = wantA ops o s
theorem callA_cls {o : Oper} {r : FuncId × List AV} (h : callA s o = some r) : 2 ≤ clsOf o := by
  unfold callA at h
  split at h
  · rename_i c hop
    split at h
    · rename_i f' hc
      simp only [clsOf, hop, hc]; omega
    · rename_i t hc
      simp only [clsOf, hop, hc]; omega
    · cases h
  · cases h
theorem callA_same {o : Oper} (hs : ∀ x ∈ o.op.operands, evX s' x = evX s x) : callA s' o = callA s o := by
  unfold callA
  split
  · rename_i c hop
    rw [hop] at hs
    have args : c.args.toList.map (evX s') = c.args.toList.map (evX s) := List.map_congr_left fun x hx => hs x (by simp only [Op.operands, Call.operands, Array.mem_append]; exact .inr (by simpa using hx))
    split
    · rw [args]
    · rename_i t hc
      have ht : s' t = s t := hs (.tmp t) (by simp [Op.operands, Call.operands, hc])
      rw [args, ht]
    · rfl
  · rfl
theorem Eff.congr {o : Oper} {val : AV} (hs : Same ops o s s') (h : Eff P ops o s G val G') : Eff P ops o s' G val G' := by
  have hc' := callA_same hs.1
  cases h with
  | off hw => exact .off (hs.2.trans hw)
  | op hw hn he => exact .op (hs.2.trans hw) hn ((evC_congr hs.1).trans he)
  | call hw hc ha hn hk => exact .call (hs.2.trans hw) (hc'.trans hc) ha hn hk
  | keep hw hc ha hk hkeep => exact .keep (hs.2.trans hw) (hc'.trans hc) ha hk hkeep
  | inl hw hc hk hg hf => exact .inl (hs.2.trans hw) (hc'.trans hc) hk hg hf
theorem evC_val {o : Oper} (hc : clsOf o = 0) {val : AV} {nx nx' : Nat} (h : evC P s G nx o = some (val, G', nx')) : G' = G ∧ ∀ G2 nx2, evC P s G2 nx2 o = some (val, G2, nx2) := by
  have as : ∀ x, o.op = .assign x → (x = .const (.slice none 0 0) → False) → ∀ G nx, evC P s G nx o = evOp P s G nx (.assign x) := by
    intro x hop hx G nx
    unfold evC
    split
    · rename_i h1; rw [hop] at h1; cases h1
    · rename_i h1; rw [hop] at h1; injection h1 with h1; exact (hx h1).elim
    · rename_i h1; rw [hop] at h1; cases h1
    · rename_i h1; rw [hop] at h1; cases h1
    · rename_i h1; rw [hop] at h1; cases h1
    · rename_i h1; rw [hop] at h1; cases h1
    · rw [hop]
  have bin : ∀ op t x y z, o.op = .binOp op t x y z → ∀ G nx, evC P s G nx o = match nilCmp P op t (evX s x) (evX s y) with | some v => some (v, G, nx) | none => evOp P s G nx (.binOp op t x y z) := by
    intro op t x y z hop G nx
    unfold evC
    rw [hop]
    rfl
  unfold clsOf at hc
  split at hc <;> rename_i hop <;> try (cases hc; done)
  case h_4 op t x y z =>
    rw [bin op t x y z hop] at h
    simp only [bin op t x y z hop]
    split at h
    · simp only [Option.some.injEq, Prod.mk.injEq] at h
      obtain ⟨rfl, rfl, rfl⟩ := h
      exact ⟨rfl, fun _ _ => rfl⟩
    · exact evOp_val trivial h
  all_goals first
    | (unfold evC at h ⊢; rw [hop] at h ⊢; exact evOp_val trivial h)
    | skip
  · rename_i hx
    simp only [as _ hop hx] at h ⊢
    exact evOp_val trivial h
  · split at hc <;> cases hc
theorem Eff.val {o : Oper} (hc : clsOf o = 0) {val : AV} (h : Eff P ops o s G val G') : G' = G ∧ ∀ G2, Fin G2 → Eff P ops o s G2 val G2 := by
  cases h with
  | off hw => exact ⟨rfl, fun G2 _ => .off hw⟩
  | op hw hn he =>
    obtain ⟨h1, h2⟩ := evC_val hc he
    exact ⟨h1, fun G2 ⟨n, hf⟩ => .op hw (hf n (Nat.le_refl _)) (h2 G2 n)⟩
  | call hw hc' => have := callA_cls hc'; omega
  | keep hw hc' => have := callA_cls hc'; omega
  | inl hw hc' => have := callA_cls hc'; omega
theorem Eff.read {o : Oper} (hc : clsOf o = 1) {val : AV} (h : Eff P ops o s G val G') : G' = G ∧ ∀ G2, Fin G2 → (∀ x ∈ o.op.operands, SameAt G G2 (evX s x)) → Eff P ops o s G2 val G2 := by
  cases h with
  | off hw => exact ⟨rfl, fun G2 _ _ => .off hw⟩
  | op hw hn he =>
    obtain ⟨h1, h2⟩ := evC_read hc he
    exact ⟨h1, fun G2 ⟨n, hf⟩ hs => .op hw (hf n (Nat.le_refl _)) (h2 G2 n hs)⟩
  | call hw hc' => have := callA_cls hc'; omega
  | keep hw hc' => have := callA_cls hc'; omega
  | inl hw hc' => have := callA_cls hc'; omega
theorem Eff.make {o : Oper} (hc : clsOf o = 2) {val : AV} (h : Eff P ops o s G val G') : Grows G G' := by
  cases h with
  | off hw => exact .refl _
  | op hw hn he => exact evC_make hc hn he
  | call hw hc' ha hn hk => exact (Grows.args ha).trans (.addJ fun j hj => args_none ha (hn j hj))
  | keep hw hc' => exact .refl _
  | inl hw hc' hk hg hf => exact hg.resolve_left (by omega)
theorem Eff.grows {o : Oper} (hc : clsOf o ≤ 2) {val : AV} (h : Eff P ops o s G val G') : Grows G G' := by
  rcases Nat.lt_or_ge (clsOf o) 2 with h1 | h1
  · rcases Nat.lt_or_ge (clsOf o) 1 with h2 | h2
    · rw [(h.val (by omega)).1]; exact .refl _
    · rw [(h.read (by omega)).1]; exact .refl _
  · exact h.make (by omega)
def compat (x y : Oper) : Bool := clsOf x == 0 || clsOf y == 0 || (clsOf x == 1 && clsOf y == 1) || (clsOf x == 1 && clsOf y == 2) || (clsOf x == 2 && clsOf y == 1)
theorem looks_same {x y : Oper} {v : AV} (h : ∀ d, x.dst = some d → d ∉ y.looksAt ops) : Same ops y s (s.put x.dst v) := by
  cases hd : x.dst with
  | none => exact ⟨fun _ _ => rfl, rfl⟩
  | some d =>
    have h1 := h d hd
    refine ⟨fun z hz => ?_, ?_⟩
    · cases z with
      | tmp t =>
        show (s.upd d v) t = s t
        refine Sl.upd_ne _ _ fun e => h1 ?_
        subst e
        unfold Oper.looksAt
        exact List.mem_append_left _ (List.mem_filterMap.2 ⟨_, by simpa using hz, rfl⟩)
      | _ => rfl
    · unfold wantA
      cases hg : y.guard with
      | none => rfl
      | some g =>
        obtain ⟨g, b⟩ := g
        simp only
        cases ht : (ops[g]?).bind (·.dst) with
        | none => rfl
        | some t =>
          have : (s.put (some d) v) t = s t := Sl.upd_ne _ _ fun e => h1 (by
            subst e
            unfold Oper.looksAt
            exact List.mem_append_right _ (by simp [hg, ht]))
          simp only [this]
theorem put_comm {d e : Option Tmp} {u v : AV} (h : ∀ t, d = some t → e ≠ some t) : (s.put d u).put e v = (s.put e v).put d u := by
  cases d with
  | none => rfl
  | some d =>
    cases e with
    | none => rfl
    | some e =>
      have : d ≠ e := fun hde => h d rfl (by rw [hde])
      funext t
      simp only [Sl.put, Sl.upd]
      by_cases h1 : t = e <;> by_cases h2 : t = d <;> simp_all
/-- The later one first. -/
theorem swap {i j : Nat} {oi oj : Oper} (hi : ops[i]? = some oi) (hj : ops[j]? = some oj) (hap : oj.apart ops oi = true) (hc : compat oj oi = true) (hf : Fin G) (hK : clsOf oi = 0 ∨ ∀ x ∈ oi.op.operands, ∀ id, rootA (evX s x) = some id → ∃ o, G id = some o)
    (h1 : Step P N ops j s G s1 G1) (h2 : Step P N ops i s1 G1 s2 G2) : ∃ s1' G1', Step P N ops i s G s1' G1' ∧ Step P N ops j s1' G1' s2 G2 := by
  obtain ⟨a1, a2, a3⟩ := Oper.apart_spec hap
  obtain ⟨hd1, u, rfl, e1⟩ := (step_iff hj).1 h1
  obtain ⟨hd2, v, rfl, e2⟩ := (step_iff hi).1 h2
  have si : Same ops oi s (s.put oj.dst u) := looks_same a1
  have si' : Same ops oi (s.put oj.dst u) s := ⟨fun x hx => (si.1 x hx).symm, si.2.symm⟩
  have sj : Same ops oj s (s.put oi.dst v) := looks_same a3
  have e2' := e2.congr si'
  have fin : ∀ {G1' : Hp}, Eff P ops oi s G v G1' → Eff P ops oj s G1' u G2 → ∃ s1' G1', Step P N ops i s G s1' G1' ∧ Step P N ops j s1' G1' ((s.put oj.dst u).put oi.dst v) G2 := by
    intro G1' x1 x2
    exact ⟨_, _, (step_iff hi).2 ⟨hd2, v, rfl, x1⟩, (step_iff hj).2 ⟨hd1, u, put_comm a2, x2.congr sj⟩⟩
  by_cases ci : clsOf oi = 0
  · obtain ⟨q1, q2⟩ := e2'.val ci
    subst q1
    exact fin (q2 G hf) e1
  by_cases cj : clsOf oj = 0
  · obtain ⟨q1, q2⟩ := e1.val cj
    subst q1
    exact fin e2' (q2 G2 (e2.fin hf))
  have hK := hK.resolve_left ci
  simp only [compat, Bool.or_eq_true, Bool.and_eq_true, beq_iff_eq] at hc
  rcases hc with (((hc | hc) | hc) | hc) | hc
  · exact absurd hc cj
  · exact absurd hc ci
  · obtain ⟨q1, _⟩ := e1.read hc.1
    obtain ⟨q2, _⟩ := e2'.read hc.2
    subst q1
    subst q2
    exact fin e2' e1
  · obtain ⟨q1, q2⟩ := e1.read hc.1
    subst q1
    exact fin e2' (q2 G2 (e2.fin hf) fun x _ => (e2'.make hc.2).at _)
  · obtain ⟨q1, q2⟩ := e2'.read hc.2
    subst q1
    exact fin (q2 G hf fun x hx => (e1.make hc.1).back (hK x hx)) e1
end
end Go.Proofs.YtomidniaekeafaaAbs
