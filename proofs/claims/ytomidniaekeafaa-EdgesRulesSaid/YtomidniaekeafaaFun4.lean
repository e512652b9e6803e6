/- maps.Keys upon the call's own heap; names. -/
import Derived.Test.YtomidniaekeafaaFun3
namespace Go.Proofs.YtomidniaekeafaaAbs
set_option linter.unusedSimpArgs false
set_option linter.unusedVariables false
open Go Go.RowKit Go.Proofs Go.Maps Go.Sort Go.Shelf
set_option maxRecDepth 100000
set_option maxHeartbeats 4000000
theorem keys26 {G : Hp} {nx id : Nat} (hf : FreshFrom G nx) : InlOK Try.prog 26 [.mp id] G (.fn 38 [.ptr nx 0]) (G.upd nx (.var 53 [.mp id])) := by
  refine inlOK mixed Try.call26 Try.func26 rfl (by rw [Try.ntmps26]; simp) hf ?_
  rw [Try.ntmps26]
  repeat with_reducible refine aw_assoc ?_
  first | with_reducible refine aw_region0 fun K' hK => ?_ | with_reducible refine aw_toS (aw_region0 fun K' hK => ?_)
  simp []
  refine hK _ _ _ ?_
  clear K' hK
  repeat with_reducible refine aw_assoc ?_
  first | with_reducible refine aw_region0 fun K' hK => ?_ | with_reducible refine aw_toS (aw_region0 fun K' hK => ?_)
  simp []
  refine hK _ _ _ ?_
  clear K' hK
  repeat with_reducible refine aw_assoc ?_
  first | with_reducible refine aw_ret ?_ | with_reducible refine aw_retL ?_ | with_reducible refine aw_skipL ?_
  simp [blockK, loopK, Post, resA, res1, expT, expA, exp1, expM, expL, okT, okA, ok1, rowOf, Try.f26]
def namesOf (M : List Dep) : List Bs := M.map (·.name)
theorem posM_none {M : List Dep} {n : Bs} : posM M n = none ↔ n ∉ namesOf M := by
  unfold posM namesOf
  rw [List.findIdx?_eq_none_iff]
  simp only [decide_eq_false_iff_not, List.mem_map, not_exists, not_and]
theorem putM_names {M : List Dep} (d : Dep) : (d.name ∈ namesOf M ∧ namesOf (putM M d) = namesOf M) ∨ (d.name ∉ namesOf M ∧ namesOf (putM M d) = namesOf M ++ [d.name]) := by
  unfold putM
  cases h : posM M d.name with
  | none => exact .inr ⟨posM_none.1 h, by simp [namesOf]⟩
  | some i =>
    have hin : d.name ∈ namesOf M := by
      rcases Classical.em (d.name ∈ namesOf M) with h1 | h1
      · exact h1
      · rw [posM_none.2 h1] at h; cases h
    refine .inl ⟨hin, ?_⟩
    obtain ⟨h1, h2⟩ := posM_lt h
    unfold namesOf
    apply List.ext_getElem?
    intro j
    rw [List.getElem?_map, List.getElem?_set]
    split
    · rename_i hij; subst hij
      simp [h1]
      rw [← h2, nth_eq h1]
    · simp
theorem stepM_nodup {root : Bool} {M : List Dep} (d : Dep) (h : (namesOf M).Nodup) : (namesOf (stepM root M d)).Nodup := by
  unfold stepM
  split
  · rcases putM_names (M := M) d with ⟨_, e⟩ | ⟨hn, e⟩
    · rw [e]; exact h
    · rw [e, List.nodup_append]
      exact ⟨h, by simp, fun a ha b hb => by simp at hb; subst hb; intro e; subst e; exact hn ha⟩
  · exact h
theorem byM_nodup (root : Bool) (ds : List Dep) : (namesOf (byM root ds)).Nodup := by
  have : ∀ (ds M : List Dep), (namesOf M).Nodup → (namesOf (ds.foldl (stepM root) M)).Nodup := by
    intro ds
    induction ds with
    | nil => intro M h; exact h
    | cons d ds ih => intro M h; exact ih _ (stepM_nodup d h)
  exact this ds [] (by simp [namesOf])
theorem stepM_mem {root : Bool} {M : List Dep} {d x : Dep} (h : x ∈ stepM root M d) : x ∈ M ∨ x = d := by
  unfold stepM at h
  split at h
  · unfold putM at h
    split at h
    · rcases List.mem_or_eq_of_mem_set h with h | h
      · exact .inl h
      · exact .inr h
    · simpa using h
  · exact .inl h
theorem byM_mem {root : Bool} {ds : List Dep} {x : Dep} (h : x ∈ byM root ds) : x ∈ ds := by
  have : ∀ (ds M : List Dep), x ∈ ds.foldl (stepM root) M → x ∈ M ∨ x ∈ ds := by
    intro ds
    induction ds with
    | nil => intro M h; exact .inl h
    | cons d ds ih =>
      intro M h
      rcases ih _ h with h | h
      · rcases stepM_mem h with h | h
        · exact .inl h
        · exact .inr (by simp [h])
      · exact .inr (by simp [h])
  rcases this ds [] h with h | h
  · simp at h
  · exact h
theorem byM_len (root : Bool) (ds : List Dep) : (byM root ds).length ≤ ds.length := by
  have : ∀ (ds M : List Dep), (ds.foldl (stepM root) M).length ≤ M.length + ds.length := by
    intro ds
    induction ds with
    | nil => intro M; simp
    | cons d ds ih =>
      intro M
      have h1 := ih (stepM root M d)
      have h2 : (stepM root M d).length ≤ M.length + 1 := by
        unfold stepM
        split
        · unfold putM; split <;> simp
        · omega
      simp only [List.foldl_cons, List.length_cons]; omega
  have := this ds []
  simpa [byM] using this
def bsL (b : Bs) : List UInt8 := b.data.toList
def sortN (l : List Bs) : List Bs := (sortK (l.map bsL)).map fun k => ⟨k.toArray⟩
def nCells (b : Bs) : List AV := [sV b]
instance : Wid nCells 1 := ⟨fun _ => rfl, by decide⟩
@[simp] theorem nCells_get (b : Bs) : getC (nCells b) 0 1 = some [sV b] := rfl
theorem sortN_perm (l : List Bs) : (sortN l).Perm l := by
  have h1 : (sortK (l.map bsL)).Perm (l.map bsL) := List.mergeSort_perm _ _
  have h2 := h1.map (fun k : List UInt8 => (⟨k.toArray⟩ : Bs))
  have h3 : (l.map bsL).map (fun k : List UInt8 => (⟨k.toArray⟩ : Bs)) = l := by
    rw [List.map_map]
    conv => rhs; rw [← List.map_id l]
    apply List.map_congr_left
    intro b _
    simp [bsL]
  rw [h3] at h2
  exact h2
theorem sorted_own {G : Hp} {p id nx : Nat} {M : List Dep} (hp : G p = some (.var 53 [.mp id])) (hG : G id = some (.map (entM M))) (hnd : (namesOf M).Nodup) (hlen : ∀ d ∈ M, d.name.size ≤ 1000000000) (hmax : M.length ≤ 1000000000000) (hn : G nx = none) :
    InlOK Try.prog 25 [.fn 38 [.ptr p 0]] G (.row nx M.length) (G.upd nx (.row 9 (flat nCells (sortN (namesOf M))))) := by
  have h := sorted_keys (ks := (namesOf M).map bsL) hp hG (by
      unfold entM namesOf
      rw [List.map_map, List.map_map, List.map_map]
      apply List.map_congr_left
      intro d _
      simp [bsL, encStr]) (by
      refine List.pairwise_map.2 (hnd.imp fun hne e => hne ?_)
      exact WideShapes.bytes_inj e) (fun k hk => by
      obtain ⟨b, hb, rfl⟩ := List.mem_map.1 hk
      obtain ⟨d, hd, rfl⟩ := List.mem_map.1 hb
      have := hlen d hd
      show d.name.data.toList.length ≤ 9223372036854775807
      rw [Array.length_toList]
      have h2 : d.name.data.size ≤ 1000000000 := this
      omega) (by simp [namesOf]; omega) hn
  have e1 : ((namesOf M).map bsL).length = M.length := by simp [namesOf]
  rw [e1] at h
  have e2 : ((sortK ((namesOf M).map bsL)).map fun k => AV.v (encStr k)) = flat nCells (sortN (namesOf M)) := by
    unfold flat sortN
    rw [List.flatMap_map]
    generalize sortK _ = l
    induction l with
    | nil => rfl
    | cons k l ih => rw [List.map_cons, List.flatMap_cons, ih]; rfl
  rw [e2] at h
  exact h
end Go.Proofs.YtomidniaekeafaaAbs
