/- edges.Of: what its map holds. -/
import Derived.Test.YtomidniaekeafaaFun2
import Derived.Test.YtomidniaekeafaaKeys
namespace Go.Proofs.YtomidniaekeafaaAbs
set_option linter.unusedSimpArgs false
set_option linter.unusedVariables false
open Go Go.RowKit Go.Proofs
set_option maxRecDepth 100000
set_option maxHeartbeats 4000000
theorem bytes_beq_dec (a b : Bs) : (a == b) = decide (a = b) := by
  rw [Bool.eq_iff_iff, decide_eq_true_eq]
  exact ⟨beq_bytes, fun h => by rw [h]; exact bytes_beq b⟩
/-- A map's entries. -/
def entM (M : List Dep) : List (Value × AV) := M.map fun d => (.string d.name, .agg d.cells)
def posM (M : List Dep) (n : Bs) : Option Nat := M.findIdx? fun d => decide (d.name = n)
theorem findI_ent (n : Bs) : ∀ (M : List Dep) (i : Nat), findI .string (.string n) (entM M) i = some ((posM M n).map (· + i))
  | [], i => rfl
  | d :: M, i => by
    have ih := findI_ent n M (i + 1)
    simp only [entM, List.map_cons, findI, Instr.sameNow, bytes_beq_dec, posM, List.findIdx?_cons] at ih ⊢
    by_cases h : d.name = n
    · simp [h]
    · have h' : ¬ n = d.name := fun e => h e.symm
      simp only [h, h', decide_false, Bool.false_eq_true, if_false]
      rw [ih]
      simp only [Option.map_map]
      congr 2
      funext x
      simp [Function.comp]; omega
@[simp] theorem mapI53 : mapI Try.prog 53 = some (.string, 41) := by kernel_rfl
def depZ : AV := .agg [iV 0, sV ⟨#[]⟩, .v (.slice none 0 0)]
@[simp] theorem zv41 : zvI Try.prog 41 = some depZ := by kernel_rfl
theorem posM_lt {M : List Dep} {n : Bs} {i : Nat} (h : posM M n = some i) : i < M.length ∧ (nth M i).name = n := by
  unfold posM at h
  rw [List.findIdx?_eq_some_iff_getElem] at h
  obtain ⟨h1, h2, _⟩ := h
  exact ⟨h1, by rw [nth_eq h1]; simpa using h2⟩
theorem lookup_some {G : Hp} {id : Nat} {M : List Dep} (hG : G id = some (.map (entM M))) {n : Bs} {i : Nat} (hi : posM M n = some i) (ok : Bool) : evLookup Try.prog G 53 (.mp id) (sV n) ok = some (if ok = true then .tup [.agg (nth M i).cells, .v (.bool true)] else .agg (nth M i).cells) := by
  have hlt := (posM_lt hi).1
  have he : (entM M)[i]? = some (.string (nth M i).name, .agg (nth M i).cells) := by simp [entM, hlt, nth_eq hlt]
  simp only [evLookup, mapI53, hG, zv41, findI_ent, hi, Option.map_some, Nat.add_zero, he]
theorem lookup_none {G : Hp} {id : Nat} {M : List Dep} (hG : G id = some (.map (entM M))) {n : Bs} (hi : posM M n = none) (ok : Bool) : evLookup Try.prog G 53 (.mp id) (sV n) ok = some (if ok = true then .tup [depZ, .v (.bool false)] else depZ) := by
  simp only [evLookup, mapI53, hG, zv41, findI_ent, hi, Option.map_none]
def putM (M : List Dep) (d : Dep) : List Dep := match posM M d.name with
  | some i => M.set i d
  | none => M ++ [d]
theorem update_ent {G : Hp} {id : Nat} {M : List Dep} (hG : G id = some (.map (entM M))) (d : Dep) : evMapUpdate Try.prog G 53 (.mp id) (sV d.name) (.agg d.cells) = some (G.upd id (.map (entM (putM M d)))) := by
  simp only [evMapUpdate, mapI53, hG, keyA, if_true, findI_ent]
  cases h : posM M d.name with
  | none => simp [putM, h, entM]
  | some i => simp [putM, h, entM, List.map_set]
def stepM (root : Bool) (M : List Dep) (d : Dep) : List Dep :=
  if countsF d root = true ∧ (∀ i, posM M d.name = some i → d.kind < (nth M i).kind) then putM M d else M
def byM (root : Bool) (ds : List Dep) : List Dep := ds.foldl (stepM root) []
theorem byM_take (root : Bool) {ds : List Dep} {i : Nat} (h : i < ds.length) : byM root (ds.take (i + 1)) = stepM root (byM root (ds.take i)) (nth ds i) := by
  unfold byM
  rw [List.take_add_one, List.getElem?_eq_getElem h, nth_eq h]
  rw [List.foldl_append]; rfl
end Go.Proofs.YtomidniaekeafaaAbs
