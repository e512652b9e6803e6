/- What an operation looks at, and what it leaves: kinds of operations. -/
import Derived.Test.YtomidniaekeafaaC5
namespace Go.Proofs.YtomidniaekeafaaAbs
open Go Go.RowKit

section
variable {P : Program} {s s' : Sl} {G G' G2 : Hp} {nx : Nat}
theorem evBuild_congr {t : TypeId} : ∀ (ps : List (Nat × Operand)) (cs : List AV), (∀ p ∈ ps, evX s' p.2 = evX s p.2) → evBuild P s' t cs ps = evBuild P s t cs ps
  | [], cs, _ => rfl
  | (i, x) :: r, cs, h => by
    have h1 := h (i, x) (by simp)
    simp only at h1
    have ih := fun cs => evBuild_congr (t := t) r cs fun p hp => h p (by simp [hp])
    simp only [evBuild, h1, ih]
theorem evSlice_congr {t : TypeId} {x : AV} {lo hi : Option Operand} (hl : ∀ y, lo = some y → evX s' y = evX s y) (hh : ∀ y, hi = some y → evX s' y = evX s y) :
    evSlice P G t x (fun d => bnd s' d lo) (fun d => bnd s' d hi) = evSlice P G t x (fun d => bnd s d lo) (fun d => bnd s d hi) := by
  have e : ∀ (o : Option Operand) (d : Nat), (∀ y, o = some y → evX s' y = evX s y) → bnd s' d o = bnd s d o := by
    intro o d h
    cases o with
    | none => rfl
    | some y => simp only [bnd, h y rfl]
  have e1 : (fun d => bnd s' d lo) = fun d => bnd s d lo := funext fun d => e lo d hl
  have e2 : (fun d => bnd s' d hi) = fun d => bnd s d hi := funext fun d => e hi d hh
  rw [e1, e2]
theorem evOp_congr {op : Op} (h : ∀ x ∈ op.operands, evX s' x = evX s x) : evOp P s' G nx op = evOp P s G nx op := by
  cases op with
  | build t ps =>
    have h1 : ∀ p ∈ ps.toList, evX s' p.2 = evX s p.2 := fun p hp => h p.2 (by simp only [Op.operands, List.mem_toArray, List.mem_map]; exact ⟨p, hp, rfl⟩)
    simp only [evOp, evBuild_congr ps.toList _ h1]
  | buildSlice t n ps =>
    have h1 : ∀ p ∈ ps.toList, evX s' p.2 = evX s p.2 := fun p hp => h p.2 (by simp only [Op.operands, List.mem_toArray, List.mem_map]; exact ⟨p, hp, rfl⟩)
    have e1 : (ps.toList.flatMap fun p => (evX s' p.2).cells) = ps.toList.flatMap fun p => (evX s p.2).cells := by
      rw [List.flatMap_def, List.flatMap_def]
      congr 1
      exact List.map_congr_left fun p hp => by rw [h1 p hp]
    have e2 : ∀ k, (ps.toList.all fun p => decide ((evX s' p.2).cells.length = k) && (evX s' p.2).cells.all AV.one) = ps.toList.all fun p => decide ((evX s p.2).cells.length = k) && (evX s p.2).cells.all AV.one := by
      intro k
      rw [Bool.eq_iff_iff, List.all_eq_true, List.all_eq_true]
      exact ⟨fun hh p hp => by rw [← h1 p hp]; exact hh p hp, fun hh p hp => by rw [h1 p hp]; exact hh p hp⟩
    simp only [evOp, e1, e2]
  | makeFunc fn first caps =>
    cases fn <;> try rfl
    simp only [evOp]
    split
    · rename_i hf
      have : (caps.toList.map (evX s')) = caps.toList.map (evX s) := List.map_congr_left fun x hx => h x (by simp only [Op.operands, Array.mem_append]; exact .inr (by simpa using hx))
      rw [this]
    · rfl
  | slice t x lo hi mx =>
    cases mx with
    | some _ => rfl
    | none =>
      have hx := h x (by simp [Op.operands])
      simp only [evOp, hx]
      rw [evSlice_congr (fun y hy => h y (by simp [Op.operands, hy])) (fun y hy => h y (by simp [Op.operands, hy]))]
  | _ => first
    | rfl
    | (simp [Op.operands] at h; simp only [evOp, h])
theorem evC_congr {o : Oper} (h : ∀ x ∈ o.op.operands, evX s' x = evX s x) : evC P s' G nx o = evC P s G nx o := by
  unfold evC
  split
  · rename_i c hop
    have hc : ∀ x ∈ c.args.toList, evX s' x = evX s x := fun x hx => h x (by rw [hop]; simp only [Op.operands, Call.operands, Array.mem_append]; exact .inr (by simpa using hx))
    split
    · split
      · rename_i h1 h2
        rw [hc _ (by rw [h1]; simp)]
      · rfl
    · split
      · rename_i h1 h2
        rw [hc _ (by rw [h1]; simp), hc _ (by rw [h1]; simp)]
      · rfl
    · rfl
  · rfl
  · rename_i op t x y z hop
    have hx : evX s' x = evX s x := h x (by rw [hop]; simp [Op.operands])
    have hy : evX s' y = evX s y := h y (by rw [hop]; simp [Op.operands])
    rw [hx, hy, evOp_congr (by rw [hop] at h; exact h)]
  · rfl
  · rename_i t x k ok hop
    rw [h x (by rw [hop]; simp [Op.operands]), h k (by rw [hop]; simp [Op.operands])]
  · rename_i t m k v hop
    rw [h m (by rw [hop]; simp [Op.operands]), h k (by rw [hop]; simp [Op.operands]), h v (by rw [hop]; simp [Op.operands])]
  · exact evOp_congr h
theorem evOp_val {op : Op} {val : AV} {nx' : Nat} (hc : match op with | .move _ | .assign _ | .pick .. | .build .. | .binOp .. | .unOp .. | .convert .. | .makeFunc .. | .field .. | .index .. | .extract .. => True | _ => False) (h : evOp P s G nx op = some (val, G', nx')) :
    G' = G ∧ ∀ G2 nx2, evOp P s G2 nx2 op = some (val, G2, nx2) := by
  cases op <;> try exact hc.elim
  all_goals simp only [evOp] at h ⊢
  all_goals (repeat' split at h)
  all_goals first
    | (simp only [Option.some.injEq, Prod.mk.injEq, reduceCtorEq] at h; obtain ⟨rfl, rfl, rfl⟩ := h; simp_all; done)
    | (simp only [Option.map_eq_some_iff, Prod.mk.injEq] at h; obtain ⟨r, hr, rfl, rfl, rfl⟩ := h; simp_all; done)
    | (cases h; done)
    | skip
end
end Go.Proofs.YtomidniaekeafaaAbs
