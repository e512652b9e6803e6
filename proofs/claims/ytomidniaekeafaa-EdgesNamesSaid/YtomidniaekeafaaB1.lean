/- append, make, len: the builtins. -/
import Derived.Test.YtomidniaekeafaaA9
import Derived.Laws.AppendOwn
import Derived.Laws.MakeOwn
namespace Go.Proofs.YtomidniaekeafaaAbs
open Go Go.RowKit

/-- What append left: nothing new, the same block, or a new one. -/
inductive App (e : TypeId) (k : Nat) (w : World) (v : Value) (n m : Nat) (all : List Value) (v' : Value) (w' : World) : Prop
  | same (hm : m = 0) (hv : v' = v) (hw : w' = w)
  | room (b cap : Nat) (us us' : List Value) (hv : v = .slice (some ⟨b, 0, none⟩) n cap) (hv' : v' = .slice (some ⟨b, 0, none⟩) (n + m) cap) (hh : w.heap[b]? = some (.cells us.toArray e (0, 0))) (hh' : w'.heap[b]? = some (.cells us'.toArray e (0, 0))) (hl : us'.length = us.length) (ht : us'.take ((n + m) * k) = all) (hn : n + m ≤ cap)
      (ho : ∀ x, x ≠ b → w'.heap[x]? = w.heap[x]?) (h1 : w'.os = w.os) (h2 : w'.tape = w.tape) (h3 : w'.output = w.output) (h4 : w'.heap.size = w.heap.size)
  | new (cap : Nat) (us : List Value) (hv' : v' = .slice (some ⟨w.heap.size, 0, none⟩) (n + m) cap) (hw : w' = w.drew.alloc (.cells us.toArray e)) (hl : us.length = cap * k) (hn : n + m ≤ cap) (hc : cap ≤ maxLen) (ht : us.take ((n + m) * k) = all)

section
variable {P : Program} {E : En} {w : World} {G : Hp} {s : Sl} {a : Act}
theorem app_run {t ty e k by' : Nat} {z : List Value} (hel : elI P t = some (e, k, by', z)) {v : Value} {n : Nat} {xs : List Value}
    (hv : (v = .slice none 0 0 ∧ n = 0 ∧ xs = []) ∨ ∃ b cap us, v = .slice (some ⟨b, 0, none⟩) n cap ∧ w.heap[b]? = some (.cells (List.toArray us) e (0, 0)) ∧ n ≤ cap ∧ cap ≤ maxLen ∧ us.length = cap * k ∧ xs = us.take (n * k))
    {A : Option Addr} {m c : Nat} {news : List Value} (hl : news.length = m * k) (hs : m = 0 ∨ ∃ ad, A = some ad ∧ ∀ j u, news[j]? = some u → w.cell? (ad.add j) = some u) (h1 : ∀ u ∈ news, u.oneCell' = true)
    (h63 : n + m ≤ maxLen) (hbytes : (n + m) * by' ≤ 140737488355328) :
    ∃ v' w', (Builtin.append_ #[t, t] ty #[v, .slice A m c]).run P w = .ok v' w' ∧ App e k w v n m (xs ++ news) v' w' := by
  obtain ⟨hu, ti, zv, hi1, hi2, rfl, rfl, hi5, hi6, hi7, hi8, hi9, hi10, hi11⟩ := elI_spec hel
  have h63' : n + m ≤ 9223372036854775807 := by simpa only [maxLen] using h63
  by_cases hm : m = 0
  · subst hm
    have hnil : ∀ w : World, (Builtin.firstCells ti.size 0 (.slice A 0 c)).run P w = .ok #[] w := by
      intro w
      cases A <;> simp [Builtin.firstCells, loadCells, loadCellsFrom]
    refine ⟨v, w, ?_, .same rfl rfl rfl⟩
    rcases hv with ⟨rfl, rfl, rfl⟩ | ⟨b, cap, us, rfl, hh, hn, hc, hul, rfl⟩
    · simp [Builtin.append_, run_underlying hu, hi9, Builtin.lenOf, hnil]
    · simp [Builtin.append_, run_underlying hu, hi9, Builtin.lenOf, hnil, hn, storeCells]
  · obtain ⟨ad, rfl, hc⟩ := hs.resolve_left hm
    have zc : ∀ c : Nat, (Builtin.zeroCells zv.cells c).toList.length = c * ti.size := fun c => by rw [Array.length_toList, size_zeroCells, hi7]
    rcases hv with ⟨rfl, rfl, rfl⟩ | ⟨b, cap, us, rfl, hh, hn, hcm, hul, rfl⟩
    · have hr := run_append_nil (P := P) w t ty e ti zv hu hi1 hi2 ad m c news hl hc (by omega) (by omega) (by simp only [Nat.zero_add] at hbytes; omega)
      refine ⟨_, _, hr, .new (grownCap w m 0 e) (news ++ (Builtin.zeroCells zv.cells (grownCap w m 0 e - m)).toList) (by simp) ?_ ?_ ?_ ?_ ?_⟩
      · congr 2; simp
      · have := grownCap_ge w m 0 e
        rw [List.length_append, zc, hl, ← Nat.add_mul]
        congr 1; omega
      · simpa using grownCap_ge w m 0 e
      · exact grownCap_le_maxLen w m 0 e (by omega)
      · simp only [Nat.zero_add, List.nil_append]
        rw [← hl, List.take_left]
    · have hxl : (us.take (n * ti.size)).length = n * ti.size := by rw [List.length_take, hul]; exact Nat.min_eq_left (Nat.mul_le_mul_right _ hn)
      by_cases hroom : n + m ≤ cap
      · have hfit : n * ti.size + news.length ≤ us.toArray.size := by rw [List.size_toArray, hl, hul, ← Nat.add_mul]; exact Nat.mul_le_mul_right _ hroom
        have hr := run_append_room (P := P) w t ty e ti hu hi1 b n cap us.toArray hh ad m c news hl hc h1 hroom hfit
        refine ⟨_, _, hr, .room b cap us _ rfl rfl hh (setRow_heap w b _ _ e _ hh) ?_ ?_ hroom (fun x hx => setRow_other w b x _ hx) rfl rfl rfl (by simp)⟩
        · rw [List.size_toArray] at hfit
          simp
          omega
        · have : (us.take (n * ti.size) ++ news).length = (n + m) * ti.size := by rw [List.length_append, hxl, hl, Nat.add_mul]
          rw [← this]
          exact List.take_left
      · have holds : ∀ j u, (us.take (n * ti.size))[j]? = some u → w.cell? ((⟨b, 0, none⟩ : Addr).add j) = some u := fun j u hj => by
          rw [List.getElem?_take] at hj
          split at hj
          · rw [add_lit, cell_of_cells hh]; simpa using hj
          · simp at hj
        have hr := run_append_grow (P := P) w t ty e ti zv hu hi1 hi2 ⟨b, 0, none⟩ n cap _ hxl holds ad m c news hl hc (by omega) (by omega) (growslice_fits (by omega) hbytes)
        refine ⟨_, _, hr, .new (grownCap w (n + m) cap e) (us.take (n * ti.size) ++ news ++ (Builtin.zeroCells zv.cells (grownCap w (n + m) cap e - (n + m))).toList) rfl ?_ ?_ ?_ ?_ ?_⟩
        · congr 2; simp
        · have := grownCap_ge w (n + m) cap e
          rw [List.length_append, List.length_append, zc, hl, hxl, ← Nat.add_mul, ← Nat.add_mul]
          congr 1; omega
        · exact grownCap_ge w (n + m) cap e
        · exact grownCap_le_maxLen w (n + m) cap e h63
        · have : (us.take (n * ti.size) ++ news).length = (n + m) * ti.size := by rw [List.length_append, hxl, hl, Nat.add_mul]
          rw [← this]
          exact List.take_left
end

/-- The base of an append: how many, which cells, which type (none: nil). -/
def baseOf (P : Program) (G : Hp) (e : TypeId) (k : Nat) : AV → Option (Nat × List AV × Option Nat)
  | .v (.slice none 0 0) => some (0, [], none)
  | .row id n => match G id with
    | some (.row e' cs) => if e' = e ∧ cs.length = n * k then some (n, cs, some id) else none
    | _ => none
  | _ => none
def srcOf (P : Program) (G : Hp) : AV → Option (Nat × List AV)
  | .v (.slice none 0 0) => some (0, [])
  | a => match treeOf P G a with
    | some (.sl m ms) => some (m, ms)
    | _ => none
def killId (G : Hp) : Option Nat → Hp
  | none => G
  | some id => G.upd id .dead
def evAppend (P : Program) (G : Hp) (nx : Nat) (t : TypeId) (b x : AV) : Option (AV × Hp × Nat) :=
  match elI P t with
  | none => none
  | some (e, k, by', _) => match baseOf P G e k b, srcOf P G x with
    | some (n, cs, id), some (m, ms) => if ms.length = m * k ∧ (n + m) ≤ 9223372036854775807 ∧ (n + m) * by' ≤ 140737488355328 then
        some (.row nx (n + m), (killId G id).upd nx (.row e (cs ++ ms)), nx + 1) else none
    | _, _ => none
end Go.Proofs.YtomidniaekeafaaAbs
