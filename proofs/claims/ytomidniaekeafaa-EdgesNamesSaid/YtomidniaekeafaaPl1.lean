/- What edges.Of answers, in plain lists. -/
import Derived.Test.YtomidniaekeafaaAsks
namespace Go.Proofs.YtomidniaekeafaaAbs
set_option linter.unusedSimpArgs false
set_option linter.unusedVariables false
open Go Go.RowKit Go.Proofs
def lookM (M : List Dep) (n : Bs) : Option Dep := (posM M n).map (nth M)
theorem lookM_some {M : List Dep} {n : Bs} {d : Dep} (h : lookM M n = some d) : d ∈ M ∧ d.name = n := by
  unfold lookM at h
  obtain ⟨i, hi, rfl⟩ := Option.map_eq_some_iff.1 h
  exact ⟨nth_mem (posM_lt hi).1, (posM_lt hi).2⟩
theorem lookM_none {M : List Dep} {n : Bs} : lookM M n = none ↔ n ∉ namesOf M := by
  unfold lookM
  rw [Option.map_eq_none_iff, posM_none]
theorem lookM_nodup {M : List Dep} (hnd : (namesOf M).Nodup) {d : Dep} (hd : d ∈ M) : lookM M d.name = some d := by
  cases h : lookM M d.name with
  | none => exact absurd (List.mem_map_of_mem hd) (lookM_none.1 h)
  | some x =>
    obtain ⟨hx, hn⟩ := lookM_some h
    obtain ⟨i, hi, rfl⟩ := List.mem_iff_getElem.1 hx
    obtain ⟨j, hj, rfl⟩ := List.mem_iff_getElem.1 hd
    have := (List.getElem?_inj (i := i) (j := j) (by simpa [namesOf] using hi) hnd).1 (by simp [namesOf, hi, hj, hn])
    subst this; rfl
theorem lookM_ext {M : List Dep} (hnd : (namesOf M).Nodup) {n : Bs} {d : Dep} : lookM M n = some d ↔ d ∈ M ∧ d.name = n :=
  ⟨lookM_some, fun ⟨h1, h2⟩ => by subst h2; exact lookM_nodup hnd h1⟩
theorem findD_look {M : List Dep} {n : Bs} {d : Dep} (h : lookM M n = some d) : findD M n = d := by
  unfold lookM at h
  obtain ⟨i, hi, rfl⟩ := Option.map_eq_some_iff.1 h
  simp [findD, hi]
theorem putM_look {M : List Dep} (hnd : (namesOf M).Nodup) (d : Dep) (n : Bs) : lookM (putM M d) n = if n = d.name then some d else lookM M n := by
  have hnd' : (namesOf (putM M d)).Nodup := by
    rcases putM_names (M := M) d with ⟨_, e⟩ | ⟨hn, e⟩
    · rw [e]; exact hnd
    · rw [e, List.nodup_append]
      exact ⟨hnd, by simp, fun a ha b hb => by simp at hb; subst hb; intro e; subst e; exact hn ha⟩
  have hmem : ∀ x, x ∈ putM M d ↔ x = d ∨ (x ∈ M ∧ x.name ≠ d.name) := by
    intro x
    unfold putM
    cases h : posM M d.name with
    | none =>
      have hno := posM_none.1 h
      simp only [List.mem_append, List.mem_singleton]
      constructor
      · rintro (h | h)
        · exact .inr ⟨h, fun e => hno (e ▸ List.mem_map_of_mem h)⟩
        · exact .inl h
      · rintro (h | h)
        · exact .inr h
        · exact .inl h.1
    | some i =>
      obtain ⟨h1, h2⟩ := posM_lt h
      simp only
      constructor
      · intro hx
        obtain ⟨j, hj, rfl⟩ := List.mem_iff_getElem.1 hx
        rw [List.getElem_set]
        split
        · exact .inl rfl
        · rename_i hne
          have hj' : j < M.length := by simpa using hj
          refine .inr ⟨List.getElem_mem hj', fun e => hne ?_⟩
          refine ((List.getElem?_inj (i := i) (j := j) (by simpa [namesOf] using h1) hnd).1 ?_)
          rw [nth_eq h1] at h2
          simp [namesOf, h1, hj', h2, e]
      · rintro (rfl | ⟨hx, hne⟩)
        · exact List.mem_iff_getElem.2 ⟨i, by simpa using h1, by simp⟩
        · obtain ⟨j, hj, rfl⟩ := List.mem_iff_getElem.1 hx
          refine List.mem_iff_getElem.2 ⟨j, by simpa using hj, ?_⟩
          rw [List.getElem_set]
          rw [if_neg]
          intro e
          subst e
          rw [nth_eq h1] at h2
          exact hne h2
  apply Option.ext
  intro x
  rw [lookM_ext hnd', hmem]
  split
  · rename_i hn
    subst hn
    constructor
    · rintro ⟨rfl | ⟨_, h⟩, h2⟩
      · rfl
      · exact absurd h2 h
    · intro h; injection h with h; subst h; exact ⟨.inl rfl, rfl⟩
  · rename_i hn
    rw [lookM_ext hnd]
    constructor
    · rintro ⟨rfl | ⟨h, _⟩, h2⟩
      · exact absurd h2.symm hn
      · exact ⟨h, h2⟩
    · rintro ⟨h, rfl⟩; exact ⟨.inr ⟨h, hn⟩, rfl⟩
/-- Which dependency a name leads to. -/
def selS (root : Bool) (n : Bs) (o : Option Dep) (d : Dep) : Option Dep := if d.name = n ∧ countsF d root = true ∧ (∀ x, o = some x → d.kind < x.kind) then some d else o
def selF (root : Bool) (ds : List Dep) (n : Bs) : Option Dep := ds.foldl (selS root n) none
theorem stepM_look {root : Bool} {M : List Dep} (hnd : (namesOf M).Nodup) (d : Dep) (n : Bs) : lookM (stepM root M d) n = selS root n (lookM M n) d := by
  have hiff : (∀ i, posM M d.name = some i → d.kind < (nth M i).kind) ↔ ∀ x, lookM M d.name = some x → d.kind < x.kind := by
    unfold lookM
    constructor
    · intro h x hx
      obtain ⟨i, hi, rfl⟩ := Option.map_eq_some_iff.1 hx
      exact h i hi
    · intro h i hi
      exact h _ (by rw [hi]; rfl)
  unfold stepM selS
  by_cases hc : countsF d root = true ∧ ∀ i, posM M d.name = some i → d.kind < (nth M i).kind
  · rw [if_pos hc, putM_look hnd]
    by_cases hn : n = d.name
    · rw [if_pos hn, if_pos ⟨hn.symm, hc.1, by subst hn; exact hiff.1 hc.2⟩]
    · rw [if_neg hn, if_neg (fun h => hn h.1.symm)]
  · rw [if_neg hc, if_neg]
    rintro ⟨rfl, h1, h2⟩
    exact hc ⟨h1, hiff.2 h2⟩
theorem byM_look (root : Bool) (ds : List Dep) (n : Bs) : lookM (byM root ds) n = selF root ds n := by
  have : ∀ (ds M : List Dep), (namesOf M).Nodup → lookM (ds.foldl (stepM root) M) n = ds.foldl (selS root n) (lookM M n) := by
    intro ds
    induction ds with
    | nil => intro M _; rfl
    | cons d ds ih =>
      intro M h
      rw [List.foldl_cons, List.foldl_cons, ih _ (stepM_nodup d h), stepM_look h]
  exact this ds [] (by simp [namesOf])
theorem nodup_of (root : Bool) (ds : List Dep) : (namesOf (byM root ds)).Nodup := byM_nodup root ds
theorem mem_names {M : List Dep} {n : Bs} : n ∈ namesOf M ↔ lookM M n ≠ none := by
  rw [Ne, lookM_none]; exact (Classical.not_not).symm
/-- Two asks of one kind have one answer. -/
theorem ofF_congr {root root' : Bool} {ds ds' : List Dep} (rules : List Ru) (h : ∀ n, selF root ds n = selF root' ds' n) : ofF ds rules root = ofF ds' rules root' := by
  have hl : ∀ n, lookM (byM root ds) n = lookM (byM root' ds') n := fun n => by rw [byM_look, byM_look, h]
  have hs : sortN (namesOf (byM root ds)) = sortN (namesOf (byM root' ds')) := by
    refine sortN_eq ((sortN_perm _).trans ?_) (sortN_sorted _)
    exact (List.perm_ext_iff_of_nodup (byM_nodup _ _) (byM_nodup _ _)).2 fun n => by rw [mem_names, mem_names, hl]
  unfold ofF
  rw [hs]
  refine List.map_congr_left fun n hn => ?_
  have hn' : n ∈ namesOf (byM root' ds') := (sortN_perm _).mem_iff.1 hn
  cases h1 : lookM (byM root' ds') n with
  | none => exact absurd h1 (mem_names.1 hn')
  | some d => rw [findD_look h1, findD_look ((hl n).trans h1)]
theorem atF_nil (n : Bs) : atF [] n = none := rfl
theorem edgeOf_nil (d : Dep) : edgeOf [] d = d := rfl
theorem edgeOf_name (rules : List Ru) (d : Dep) : (edgeOf rules d).name = d.name := rfl
theorem edgeOf_kind (rules : List Ru) (d : Dep) : (edgeOf rules d).kind = d.kind := rfl
theorem findD_name {M : List Dep} {n : Bs} (h : n ∈ namesOf M) : (findD M n).name = n ∧ findD M n ∈ M := by
  cases h1 : lookM M n with
  | none => exact absurd h1 (mem_names.1 h)
  | some d => rw [findD_look h1]; have := lookM_some h1; exact ⟨this.2, this.1⟩
theorem ofF_names (ds : List Dep) (rules : List Ru) (root : Bool) : namesOf (ofF ds rules root) = sortN (namesOf (byM root ds)) := by
  unfold ofF namesOf
  rw [List.map_map]
  conv => rhs; rw [← List.map_id (sortN _)]
  refine List.map_congr_left fun n hn => ?_
  have hn' : n ∈ namesOf (byM root ds) := (sortN_perm _).mem_iff.1 hn
  exact (findD_name hn').1
theorem ofF_len (ds : List Dep) (rules : List Ru) (root : Bool) : (ofF ds rules root).length = (byM root ds).length := by
  have := congrArg List.length (ofF_names ds rules root)
  simp only [namesOf, List.length_map] at this
  rw [this, (sortN_perm _).length_eq]; simp
theorem ofF_mem {ds : List Dep} {root : Bool} {d : Dep} : d ∈ ofF ds [] root ↔ d ∈ byM root ds := by
  unfold ofF
  simp only [List.mem_map, edgeOf_nil]
  constructor
  · rintro ⟨n, hn, rfl⟩
    exact (findD_name ((sortN_perm _).mem_iff.1 hn)).2
  · intro h
    refine ⟨d.name, (sortN_perm _).mem_iff.2 (List.mem_map_of_mem h), ?_⟩
    exact findD_look (lookM_nodup (byM_nodup _ _) h)
theorem byM_counts {root : Bool} {ds : List Dep} {d : Dep} (h : d ∈ byM root ds) : countsF d root = true := by
  have : ∀ (ds M : List Dep), (∀ d ∈ M, countsF d root = true) → ∀ d ∈ ds.foldl (stepM root) M, countsF d root = true := by
    intro ds
    induction ds with
    | nil => intro M h; exact h
    | cons d ds ih =>
      intro M h
      refine ih _ fun x hx => ?_
      unfold stepM at hx
      split at hx
      · rename_i hc
        unfold putM at hx
        split at hx
        · rcases List.mem_or_eq_of_mem_set hx with hx | hx
          · exact h x hx
          · rw [hx]; exact hc.1
        · rcases List.mem_append.1 hx with hx | hx
          · exact h x hx
          · rw [List.mem_singleton.1 hx]; exact hc.1
      · exact h x hx
  exact this ds [] (by simp) d h
theorem counts_true {d : Dep} {root : Bool} (h : countsF d root = true) : countsF d true = true := by
  unfold countsF at *
  simp only [Bool.or_eq_true, Bool.and_eq_true, decide_eq_true_eq] at *
  rcases h with h | h
  · exact .inl h
  · exact .inr ⟨h.1, trivial⟩
/-- Edges, asked for once more. -/
theorem byM_self {L : List Dep} (hnd : (namesOf L).Nodup) (hc : ∀ d ∈ L, countsF d true = true) : byM true L = L := by
  have : ∀ (ds M : List Dep), (namesOf (M ++ ds)).Nodup → (∀ d ∈ ds, countsF d true = true) → ds.foldl (stepM true) M = M ++ ds := by
    intro ds
    induction ds with
    | nil => intro M _ _; simp
    | cons d ds ih =>
      intro M hnd hc
      have hno : d.name ∉ namesOf M := by
        unfold namesOf at *
        rw [List.map_append, List.map_cons, List.nodup_append] at hnd
        exact fun h => hnd.2.2 _ h _ (by simp) rfl
      have hp : posM M d.name = none := posM_none.2 hno
      rw [List.foldl_cons]
      have e : stepM true M d = M ++ [d] := by
        unfold stepM
        rw [if_pos ⟨hc d (by simp), fun i hi => by rw [hp] at hi; cases hi⟩]
        simp [putM, hp]
      rw [e, ih _ (by simpa using hnd) (fun x hx => hc x (by simp [hx]))]
      simp
  exact this L [] (by simpa using hnd) hc
theorem ofF_twice (ds : List Dep) (root : Bool) : ofF (ofF ds [] root) [] true = ofF ds [] root := by
  have hn := ofF_names ds [] root
  have hnd : (namesOf (ofF ds [] root)).Nodup := by rw [hn]; exact (sortN_perm _).nodup_iff.2 (byM_nodup _ _)
  have hb : byM true (ofF ds [] root) = ofF ds [] root := byM_self hnd fun d hd => counts_true (byM_counts (ofF_mem.1 hd))
  have hs : sortN (namesOf (ofF ds [] root)) = namesOf (ofF ds [] root) := sortN_self (by rw [hn]; exact sortN_sorted _)
  have e : ofF (ofF ds [] root) [] true = (sortN (namesOf (byM true (ofF ds [] root)))).map fun n => edgeOf [] (findD (byM true (ofF ds [] root)) n) := rfl
  rw [e, hb, hs]
  unfold namesOf
  rw [List.map_map]
  conv => rhs; rw [← List.map_id (ofF ds [] root)]
  refine List.map_congr_left fun d hd => ?_
  exact findD_look (lookM_nodup hnd hd)
theorem ofF_root (ds : List Dep) (rules : List Ru) : ofF ds rules false = ofF (ds.filter fun d => !decide (d.kind = 2)) rules true := by
  refine ofF_congr rules fun n => ?_
  unfold selF
  generalize (none : Option Dep) = o
  induction ds generalizing o with
  | nil => rfl
  | cons d ds ih =>
    rw [List.foldl_cons, ih, List.filter_cons]
    by_cases h2 : d.kind = 2
    · have e : selS false n o d = o := by
        unfold selS; rw [if_neg]; rintro ⟨_, h, _⟩; simp [countsF, h2] at h
      simp [h2, e]
    · have e : countsF d false = countsF d true := by simp [countsF, h2]
      have e' : selS false n o d = selS true n o d := by unfold selS; rw [e]
      simp [h2, e']
/-- Whatever counts has an edge of its name, of no greater kind. -/
theorem selF_le {root : Bool} {ds : List Dep} {d : Dep} (hd : d ∈ ds) (hc : countsF d root = true) : ∃ x, selF root ds d.name = some x ∧ x.kind ≤ d.kind := by
  have keep : ∀ (ds : List Dep) (o : Option Dep) (k : Int), (∃ x, o = some x ∧ x.kind ≤ k) → ∃ x, ds.foldl (selS root d.name) o = some x ∧ x.kind ≤ k := by
    intro ds
    induction ds with
    | nil => intro o k h; exact h
    | cons e ds ih =>
      intro o k h
      refine ih _ k ?_
      obtain ⟨x, rfl, hx⟩ := h
      unfold selS
      split
      · rename_i hh
        exact ⟨e, rfl, Int.le_trans (Int.le_of_lt (hh.2.2 x rfl)) hx⟩
      · exact ⟨x, rfl, hx⟩
  unfold selF
  generalize (none : Option Dep) = o
  induction ds generalizing o with
  | nil => cases hd
  | cons e ds ih =>
    rw [List.foldl_cons]
    rcases List.mem_cons.1 hd with rfl | hd
    · refine keep ds _ _ ?_
      unfold selS
      by_cases hx : ∀ x, o = some x → d.kind < x.kind
      · rw [if_pos ⟨rfl, hc, hx⟩]; exact ⟨d, rfl, Int.le_refl _⟩
      · rw [if_neg (fun h => hx h.2.2)]
        cases o with
        | none => exact absurd (fun x h => by cases h) hx
        | some y =>
          refine ⟨y, rfl, ?_⟩
          rcases Int.lt_or_le d.kind y.kind with h | h
          · exact absurd (fun x hx => by injection hx with hx; subst hx; exact h) hx
          · exact h
    · exact ih hd _
theorem ofF_le {root : Bool} {ds : List Dep} {d : Dep} (hd : d ∈ ds) (hc : countsF d root = true) : ∃ x ∈ ofF ds [] root, x.name = d.name ∧ x.kind ≤ d.kind := by
  obtain ⟨x, h1, h2⟩ := selF_le hd hc
  rw [← byM_look] at h1
  obtain ⟨h3, h4⟩ := lookM_some h1
  exact ⟨x, ofF_mem.2 h3, h4, h2⟩
theorem ofF_from {root : Bool} {ds : List Dep} {d : Dep} (hd : d ∈ ofF ds [] root) : d ∈ ds := byM_mem (ofF_mem.1 hd)
theorem ofF_rise {ds : List Dep} {rules : List Ru} {root : Bool} {i : Nat} (hi : i + 1 < (ofF ds rules root).length) : ltB (nth (ofF ds rules root) i).name (nth (ofF ds rules root) (i + 1)).name = true := by
  have h := sortN_lt (byM_nodup root ds)
  rw [← ofF_names ds rules root] at h
  have h2 := List.pairwise_iff_getElem.1 h i (i + 1) (by simp [namesOf]; omega) (by simpa [namesOf] using hi) (by omega)
  rw [nth_eq (by omega), nth_eq hi]
  simpa [namesOf] using h2
theorem ofF_rules (ds : List Dep) (rules : List Ru) (root : Bool) : ofF ds rules root = (ofF ds [] root).map (edgeOf rules) := by
  unfold ofF
  rw [List.map_map]
  rfl
theorem big_ok {m : Man} (h : bigM m = false) : Dep.okL m.deps ∧ Ru.okL m.rules := by
  simp only [bigM, Bool.or_eq_false_iff, decide_eq_false_iff_not, List.any_eq_false] at h
  obtain ⟨⟨⟨⟨⟨_, _⟩, h1⟩, h2⟩, h3⟩, h4⟩ := h
  have key : ∀ r : Rg, ¬ bigR r = true → r.length < 1000000000000 ∧ ∀ l ∈ r, l.length < 1000000000000 := by
    intro r hr
    simp only [bigR, Bool.or_eq_true, decide_eq_true_eq, List.any_eq_true, not_or, not_exists, not_and] at hr
    refine ⟨by omega, fun l hl => ?_⟩
    have := hr.2 l hl
    simp only [bigA, Bool.or_eq_true, decide_eq_true_eq, not_or] at this
    omega
  refine ⟨⟨by omega, fun d hd => ?_⟩, ⟨by omega, fun d hd => ?_⟩⟩
  · have := h3 d hd
    simp only [bigD, Bool.or_eq_true, decide_eq_true_eq, not_or] at this
    exact ⟨by omega, key _ this.2⟩
  · have := h4 d hd
    simp only [bigU, Bool.or_eq_true, decide_eq_true_eq, not_or] at this
    exact key _ this.2
theorem large_ok {m : Man} {rules : List Ru} (h : largeF m rules = false) : Dep.okL m.deps ∧ Ru.okL m.rules ∧ Ru.okL rules ∧ m.deps.length ≤ 40 := by
  simp only [largeF, Bool.or_eq_false_iff] at h
  have h1 := big_ok h.1
  have h2 := (big_ok h.2).2
  have h3 := h.1
  simp only [bigM, Bool.or_eq_false_iff, decide_eq_false_iff_not] at h3
  exact ⟨h1.1, h1.2, h2, by omega⟩
theorem ofF_okL {ds : List Dep} {root : Bool} (h : Dep.okL ds) : Dep.okL (ofF ds [] root) :=
  ⟨by have := byM_len root ds; have := h.1; rw [ofF_len]; omega, fun d hd => h.2 d (ofF_from hd)⟩
end Go.Proofs.YtomidniaekeafaaAbs
