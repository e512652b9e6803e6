/- ValidEach. -/
import Derived.Test.YtgipehooceecpaaGreatDoorO9
import Derived.Test.YtgipehooceecpaaGreatDoorRows
import Derived.Deep.DeepHandedRow
import Derived.Deep.DeepWitnessRowRef
import Derived.Lib.LaidIn
import Derived.Stop.LaidErr
import Derived.Shelf.Vars
import Derived.MakeChecks
import Derived.OpenShut
import Derived.ChangeBears2
import Derived.Test.YtgipehooceecpaaGreatDoorO3
namespace Go.Proofs.YtgipehooceecpaaGreatDoorAbs
set_option linter.unusedSimpArgs false
set_option linter.unusedVariables false
open Go Go.RowKit Go.Proofs
set_option maxRecDepth 100000
set_option maxHeartbeats 4000000
@[simp] theorem o_makeFunc0 {P : Program} [Gl P] {s : Sl} {G : Hp} {nx : Nat} {f : FuncId} (caps : Array Operand) : evOp P s G nx (.makeFunc (.func f) #[] caps) = some (.fn f (caps.toList.map (evX s)), G, nx) := by simp [evOp]
@[simp] theorem treeOf_fn {P : Program} {G : Hp} (f : FuncId) (cs : List AV) : treeOf P G (.fn f cs) = none := rfl
@[simp] theorem frzOf_fn {G : Hp} (f : FuncId) (cs : List AV) : frzOf G (.fn f cs) = G := rfl
@[simp] theorem isFn_fn (f : FuncId) (cs : List AV) : isFn (.fn f cs) = true := rfl
theorem rng3 : [0, 1, 2] = List.range 3 := rfl
def AccI (G : Hp) (Z ny : Nat) (x : AV) (acc : List Int) : Prop := (x = .v (.slice none 0 0) ∧ acc = []) ∨ ∃ r, x = .row r acc.length ∧ G r = some (.row 3 (flat iC acc)) ∧ Z < r ∧ r < ny ∧ acc ≠ []
def valCodes (root : Man) (L : List Man) (t : List Pl) : List Int := [manCheck root true, idxCheck L, checkN t]
def fineV (root : Man) (L : List Man) (t : List Pl) (i : Int) : Bool := match manVal root L t i with
 | none => false
 | some m => (ofF m.deps root.rules (decide (i = 0))).all (holdsV t i)
def wrongL (root : Man) (L : List Man) (t : List Pl) : List Int := (belowL t 0).filter fun i => !fineV root L t i
def ValSz (root : Man) (L : List Man) (t : List Pl) : Prop := Man.sz root ∧ Man.okS root ∧ Idx.sz L ∧ (∀ m ∈ L, Man.okS m) ∧ OKs t ∧ ∀ p ∈ t, p.ver.pre.size ≤ 1000000
def codeV (root : Man) (L : List Man) (t : List Pl) : Int := orN (valCodes root L t)
def wrongR (root : Man) (L : List Man) (t : List Pl) : AV × Js :=
 if codeV root L t = 0 then (if wrongL root L t = [] then (.tup [.v (.slice none 0 0), iV 0], []) else (.tup [.row 0 (wrongL root L t).length, iV 0], [(3, flat iC (wrongL root L t))])) else (.tup [.row 0 0, iV (codeV root L t)], [(3, [])])
theorem manR_trees {G : Hp} {a b : Nat} {m : Man} (hba : ¬ b = a) (ka : G a = some (.row 35 (flat Dep.cells m.deps))) (kb : G b = some (.row 96 (flat Ru.cells m.rules))) : treesOf Tryz.prog G (m.cellsR (.row a m.deps.length) (.row b m.rules.length)) = some (m.cells, frzOf (frzOf G (.row a m.deps.length)) (.row b m.rules.length)) := by
 have c1 : Tryz.prog.cellsOf 35 = 3 := by kernel_rfl
 have c2 : Tryz.prog.cellsOf 96 = 2 := by kernel_rfl
 have h1 : treeOf Tryz.prog G (.row a m.deps.length) = some (rowT Dep.cells m.deps) := treeOf_of ka c1 rfl
 have h2 : treeOf Tryz.prog (frzOf G (.row a m.deps.length)) (.row b m.rules.length) = some (rowT Ru.cells m.rules) := (treeOf_frzne hba).trans (treeOf_of kb c2 rfl)
 have f : ∀ (x : Value) (G : Hp), frzOf G (.v x) = G := fun _ _ => rfl
 simp only [Man.cellsR, treesOf, treeOf_v, f, h1, h2]
 rfl
theorem manVal_mem {root : Man} {L : List Man} {t : List Pl} {i : Int} {m : Man} (h : manVal root L t i = some m) : m = root ∨ m ∈ L := by
 unfold manVal at h
 split at h
 ·split at h
  ·injection h with h; exact .inl h.symm
  ·exact .inr (List.mem_of_find?_eq_some h)
 ·cases h
theorem ofF_range {ds : List Dep} {rules : List Ru} {b : Bool} {d : Dep} (h : d ∈ ofF ds rules b) : (∃ e ∈ ds, d.range = e.range) ∨ ∃ e ∈ rules, d.range = e.range := by
 obtain ⟨n, hn, rfl⟩ := List.mem_map.1 h
 have hn2 : n ∈ namesOf (byM b ds) := (sortN_perm _).mem_iff.1 hn
 have hfd : findD (byM b ds) n ∈ ds := by
  cases hp : posM (byM b ds) n with
  | none => exact absurd hn2 (posM_none.1 hp)
  | some j =>
   have := posM_lt hp
   simp only [findD, hp]
   exact byM_mem (nth_mem this.1)
 unfold edgeOf
 cases ha : atF rules (findD (byM b ds) n).name with
 | none => exact .inl ⟨_, hfd, rfl⟩
 | some i =>
  have := (List.findIdx?_eq_some_iff_getElem.1 ha).1
  exact .inr ⟨_, nth_mem this, rfl⟩
theorem wrong35_ok (root : Man) (L : List Man) (t : List Pl) (h : ValSz root L t) : CallsOK Tryz.prog 35 [.agg root.cells, rowT Man.cells L, rowT Pl.cells t] (wrongR root L t).1 (wrongR root L t).2 := by
 obtain ⟨hrz, hro, hLz, hLo, ht, hv⟩ := h
 have hLl := hLz.1
 refine callsOK mixed Tryz.call35 Tryz.func35 rfl (by rw [Tryz.ntmps35]; simp) ?_ ?_
 ·rw [Tryz.ntmps35]
  with_reducible refine aR fun K' hK => ?_
  simp
  refine hK _ _ _ ?_; clear K' hK
  refine aw_scopeL ?_
  refine aw_gen (fun s G nx => s 3 = .ptr 0 0 ∧ s 4 = .ptr 1 0 ∧ s 5 = .ptr 2 0 ∧ nx = 4 ∧ G 0 = some (.var 27 root.cells) ∧ G 1 = some (.var 28 [rowT Man.cells L]) ∧ G 2 = some (.var 29 [rowT Pl.cells t])) ?_ ?_
  ·simp
   exact ⟨rfl, rfl⟩
  rintro s G nx ⟨s3, s4, s5, rfl, g0, g1, g2⟩
  with_reducible refine aA ?_
  with_reducible refine aR fun K' hK => ?_
  simp [s3, s4, s5, rng3]
  refine hK _ _ _ ?_; clear K' hK
  with_reducible refine aw_block ?_
  refine aw_loop (fun s G nx => s 3 = .ptr 0 0 ∧ s 4 = .ptr 1 0 ∧ s 5 = .ptr 2 0 ∧ G 0 = some (.var 27 root.cells) ∧ G 1 = some (.var 28 [rowT Man.cells L]) ∧ G 2 = some (.var 29 [rowT Pl.cells t]) ∧ s 20 = .row 4 3 ∧ G 4 = some (.var 97 [.fn 87 [.ptr 0 0], .fn 88 [.ptr 1 0], .fn 89 [.ptr 2 0]]) ∧ s 21 = iV 3 ∧ ∃ i : Nat, s 22 = iV i ∧ i ≤ 3 ∧ orN (valCodes root L t) = orN ((valCodes root L t).drop i)) (fun s _ _ => match s 22 with | .v (.int _ n) => 3 - n.toNat | _ => 0) ?_ ?_
  ·exact ⟨by simp [s3], by simp [s4], by simp [s5], by simp [g0], by simp [g1], by simp [g2], by simp, by simp, by simp, 0, by simp, by omega, by simp⟩
  ·clear s3 s4 s5 g0 g1 g2
   rintro s G nx hf ⟨s3, s4, s5, g0, g1, g2, s20, g4, s21, i, s22, hi, ht2⟩
   have hw : IntKind.i64.wrap (↑i + 1) = ((i + 1 : Nat) : Int) := wrapS (by omega)
   with_reducible refine aR fun K' hK => ?_
   simp [s21, s22]
   refine hK _ _ _ ?_; clear K' hK
   with_reducible refine aC fun A B hA hB => ?_
   simp
   refine ⟨fun hi2 => hA ?_, fun hi2 => hB ?_⟩ <;> clear hA hB A B <;> (try simp at hi2) <;> (try with_reducible refine aK ?_)
   ·have hfin : ∀ c : Int, orN (valCodes root L t) = c → c ≠ 0 → wrongR root L t = (.tup [.row 0 0, iV c], [(3, [])]) := fun c h1 h2 => by rw [wrongR, codeV, h1, if_neg h2]
    have hcases : i = 0 ∨ i = 1 ∨ i = 2 := by omega
    have w1 : IntKind.i64.wrap 1 = 1 := wrap64 (by omega) (by omega)
    have w2 : IntKind.i64.wrap 2 = 2 := wrap64 (by omega) (by omega)
    have w3 : IntKind.i64.wrap 3 = 3 := wrap64 (by omega) (by omega)
    rcases hcases with rfl | rfl | rfl
    ·have hd : orN ((valCodes root L t).drop 0) = if manCheck root true = 0 then orN ((valCodes root L t).drop 1) else manCheck root true := rfl
     with_reducible refine aw_block ?_
     with_reducible refine aR fun K' hK => ?_
     simp [s20, s22, g4]
     refine hK _ _ _ ?_; clear K' hK
     with_reducible refine aR fun K' hK => ?_
     simp
     refine acall_inlK (inlK mixed Tryz.call87 Tryz.func87 rfl (by rw [Tryz.ntmps87]; simp) fun hf => ?_)
     rw [Tryz.ntmps87]
     with_reducible refine aR fun K' hK => ?_
     simp
     refine hK _ _ _ ?_; clear K' hK
     with_reducible refine aR fun K' hK => ?_
     simp [g0]
     refine acall_flat (manCheck_ok root hrz true) rfl (by simp) ?_
     simp
     refine hK _ _ _ ?_; clear K' hK
     with_reducible refine aw_retL ?_
     simp [blockK, loopK, Post, resA, res1, expT, expA, exp1, expM, expL, okT, okA, ok1, rowOf, Tryz.f87]
     refine hK _ _ _ ?_; clear K' hK
     by_cases c : manCheck root true = 0
     ·skip
      with_reducible refine aR fun K' hK => ?_
      simp [c]
      refine hK _ _ _ ?_; clear K' hK
      with_reducible refine aVk (by simp [c]) ?_
      with_reducible refine aw_skipL ?_
      refine blockK_normal ?_
      with_reducible refine aS fun K' hK => ?_
      simp [s22, w1, w2, w3]
      refine hK _ _ _ ?_; clear K' hK
      refine aw_skipL (loopK_normal ?_ ?_)
      ·exact ⟨by simp [s3], by simp [s4], by simp [s5], g0, g1, g2, by simp [s20], g4, by simp [s21], 1, by simp [w1, w2, w3], by omega, by rw [ht2, hd, if_pos c]⟩
      ·simp [s22, w1, w2, w3]
     ·skip
      with_reducible refine aR fun K' hK => ?_
      simp [c]
      refine hK _ _ _ ?_; clear K' hK
      with_reducible refine aU (by simp [c]) ?_
      with_reducible refine aA ?_
      with_reducible refine aR fun K' hK => ?_
      simp
      refine hK _ _ _ ?_; clear K' hK
      rw [hfin _ (by rw [ht2, hd, if_neg c]) c]
      with_reducible refine aw_ret ?_
      simp [blockK, loopK, Post, resA, res1, expT, expA, exp1, expM, expL, okT, okA, ok1, rowOf, Tryz.f35, scopeK]
    ·have hd : orN ((valCodes root L t).drop 1) = if idxCheck L = 0 then orN ((valCodes root L t).drop 2) else idxCheck L := rfl
     with_reducible refine aw_block ?_
     with_reducible refine aR fun K' hK => ?_
     simp [s20, s22, g4]
     refine hK _ _ _ ?_; clear K' hK
     with_reducible refine aR fun K' hK => ?_
     simp
     refine acall_inlK (inlK mixed Tryz.call88 Tryz.func88 rfl (by rw [Tryz.ntmps88]; simp) fun hf => ?_)
     rw [Tryz.ntmps88]
     with_reducible refine aR fun K' hK => ?_
     simp
     refine hK _ _ _ ?_; clear K' hK
     with_reducible refine aR fun K' hK => ?_
     simp [g1]
     refine acall_flat (idxCheck_ok L hLz) rfl (by simp) ?_
     simp
     refine hK _ _ _ ?_; clear K' hK
     with_reducible refine aw_retL ?_
     simp [blockK, loopK, Post, resA, res1, expT, expA, exp1, expM, expL, okT, okA, ok1, rowOf, Tryz.f88]
     refine hK _ _ _ ?_; clear K' hK
     by_cases c : idxCheck L = 0
     ·skip
      with_reducible refine aR fun K' hK => ?_
      simp [c]
      refine hK _ _ _ ?_; clear K' hK
      with_reducible refine aVk (by simp [c]) ?_
      with_reducible refine aw_skipL ?_
      refine blockK_normal ?_
      with_reducible refine aS fun K' hK => ?_
      simp [s22, w1, w2, w3]
      refine hK _ _ _ ?_; clear K' hK
      refine aw_skipL (loopK_normal ?_ ?_)
      ·exact ⟨by simp [s3], by simp [s4], by simp [s5], g0, g1, g2, by simp [s20], g4, by simp [s21], 2, by simp [w1, w2, w3], by omega, by rw [ht2, hd, if_pos c]⟩
      ·simp [s22, w1, w2, w3]
     ·skip
      with_reducible refine aR fun K' hK => ?_
      simp [c]
      refine hK _ _ _ ?_; clear K' hK
      with_reducible refine aU (by simp [c]) ?_
      with_reducible refine aA ?_
      with_reducible refine aR fun K' hK => ?_
      simp
      refine hK _ _ _ ?_; clear K' hK
      rw [hfin _ (by rw [ht2, hd, if_neg c]) c]
      with_reducible refine aw_ret ?_
      simp [blockK, loopK, Post, resA, res1, expT, expA, exp1, expM, expL, okT, okA, ok1, rowOf, Tryz.f35, scopeK]
    ·have hd : orN ((valCodes root L t).drop 2) = if checkN t = 0 then orN ((valCodes root L t).drop 3) else checkN t := rfl
     with_reducible refine aw_block ?_
     with_reducible refine aR fun K' hK => ?_
     simp [s20, s22, g4]
     refine hK _ _ _ ?_; clear K' hK
     with_reducible refine aR fun K' hK => ?_
     simp
     refine acall_inlK (inlK mixed Tryz.call89 Tryz.func89 rfl (by rw [Tryz.ntmps89]; simp) fun hf => ?_)
     rw [Tryz.ntmps89]
     with_reducible refine aR fun K' hK => ?_
     simp
     refine hK _ _ _ ?_; clear K' hK
     with_reducible refine aR fun K' hK => ?_
     simp [g2]
     refine acall_flat (check18_ok t ht) rfl (by simp) ?_
     simp
     refine hK _ _ _ ?_; clear K' hK
     with_reducible refine aw_retL ?_
     simp [blockK, loopK, Post, resA, res1, expT, expA, exp1, expM, expL, okT, okA, ok1, rowOf, Tryz.f89]
     refine hK _ _ _ ?_; clear K' hK
     by_cases c : checkN t = 0
     ·skip
      with_reducible refine aR fun K' hK => ?_
      simp [c]
      refine hK _ _ _ ?_; clear K' hK
      with_reducible refine aVk (by simp [c]) ?_
      with_reducible refine aw_skipL ?_
      refine blockK_normal ?_
      with_reducible refine aS fun K' hK => ?_
      simp [s22, w1, w2, w3]
      refine hK _ _ _ ?_; clear K' hK
      refine aw_skipL (loopK_normal ?_ ?_)
      ·exact ⟨by simp [s3], by simp [s4], by simp [s5], g0, g1, g2, by simp [s20], g4, by simp [s21], 3, by simp [w1, w2, w3], by omega, by rw [ht2, hd, if_pos c]⟩
      ·simp [s22, w1, w2, w3]
     ·skip
      with_reducible refine aR fun K' hK => ?_
      simp [c]
      refine hK _ _ _ ?_; clear K' hK
      with_reducible refine aU (by simp [c]) ?_
      with_reducible refine aA ?_
      with_reducible refine aR fun K' hK => ?_
      simp
      refine hK _ _ _ ?_; clear K' hK
      rw [hfin _ (by rw [ht2, hd, if_neg c]) c]
      with_reducible refine aw_ret ?_
      simp [blockK, loopK, Post, resA, res1, expT, expA, exp1, expM, expL, okT, okA, ok1, rowOf, Tryz.f35, scopeK]
   ·skip
    with_reducible refine aw_exit ?_
    refine loopK_exit (blockK_exit ?_)
    have hi3 : i = 3 := by omega
    subst hi3
    have hc0 : codeV root L t = 0 := by rw [codeV, ht2]; rfl
    have hx0 : checkN t = 0 := by
     have h1 : orN (valCodes root L t) = 0 := hc0
     have h2 : orN (valCodes root L t) = if manCheck root true = 0 then (if idxCheck L = 0 then (if checkN t = 0 then 0 else checkN t) else idxCheck L) else manCheck root true := rfl
     rw [h2] at h1
     split at h1
     ·split at h1
      ·split at h1
       ·assumption
       ·exact h1
      ·rename_i h3; exact absurd h1 h3
     ·rename_i h3; exact absurd h1 h3
    have hn4 := fresh_lt hf g4
    clear hn4
    with_reducible refine aR fun K' hK => ?_
    simp
    refine hK _ _ _ ?_; clear K' hK
    have n0 : ¬ 0 = nx := by have := fresh_lt hf g0; omega
    have n1 : ¬ 1 = nx := by have := fresh_lt hf g1; omega
    have n2 : ¬ 2 = nx := by have := fresh_lt hf g2; omega
    have h4x : 4 < nx := fresh_lt hf g4
    refine aw_label ?_
    with_reducible refine aA ?_
    with_reducible refine aR fun K' hK => ?_
    simp [s5, g2, n2]
    refine acall_new (below28_ok t ht 0) (by simp) ?_
    simp [addJ_one]
    refine acall_inlK (inlK mixed Tryz.call90 Tryz.func90 rfl (by rw [Tryz.ntmps90]; simp) fun hf => ?_)
    rw [Tryz.ntmps90]
    with_reducible refine aR fun K' hK => ?_
    simp
    refine hK _ _ _ ?_; clear K' hK
    with_reducible refine aR fun K' hK => ?_
    simp
    refine hK _ _ _ ?_; clear K' hK
    with_reducible refine aw_retL ?_
    simp [blockK, loopK, Post, resA, res1, expT, expA, exp1, expM, expL, okT, okA, ok1, rowOf, Tryz.f90]
    refine hK _ _ _ ?_; clear K' hK
    refine aw_gen (fun s G ny => s 3 = .ptr 0 0 ∧ s 4 = .ptr 1 0 ∧ s 5 = .ptr 2 0 ∧ s 11 = .ptr nx 0 ∧ s 34 = .fn 142 [.ptr (nx + 2) 0] ∧ ny = nx + 3 ∧ G 0 = some (.var 27 root.cells) ∧ G 1 = some (.var 28 [rowT Man.cells L]) ∧ G 2 = some (.var 29 [rowT Pl.cells t]) ∧ G nx = some (.var 49 [.v (.slice none 0 0)]) ∧ G (nx + 1) = some (.row 3 (flat iC (belowL t 0))) ∧ G (nx + 2) = some (.var 49 [.row (nx + 1) (belowL t 0).length])) ?_ ?_
    ·have a0 : ¬ 0 = nx + 1 := by omega
     have a1 : ¬ 1 = nx + 1 := by omega
     have a2 : ¬ 2 = nx + 1 := by omega
     have a3 : ¬ 1 = nx + 2 := by omega
     have a4 : ¬ 2 = nx + 2 := by omega
     have a5 : ¬ nx = 0 := by omega
     have a6 : ¬ nx = 1 := by omega
     have a7 : ¬ nx = nx + 1 + 1 := by omega
     refine ⟨by simp [s3], by simp [s4], by simp [s5], by simp, by simp, by omega, by simp [n0, g0], by simp [n1, a5, a3, g1], by simp [n2, n1, a4, a5, a6, g2], by simp [a7], by simp, by simp⟩
    clear s3 s4 s5 g0 g1 g2 g4 s20 s21 s22 ht2 hf hw hi hi2
    rintro s G ny ⟨s3, s4, s5, s11, s34, hny, g0, g1, g2, gA, gR, gV⟩
    generalize hA : nx = A at *
    generalize hR : A + 1 = R at *
    generalize hV : A + 2 = V at *
    subst hny
    generalize hZ : A + 3 = Z at *
    have vZ : ¬ V = Z := by omega
    have rZ : ¬ R = Z := by omega
    have aZ : ¬ A = Z := by omega
    have oZ0 : ¬ 0 = Z := by omega
    have oZ1 : ¬ 1 = Z := by omega
    have oZ2 : ¬ 2 = Z := by omega
    with_reducible refine aw_block ?_
    refine aw_range (f := 142) (fn := Tryz.f142) mixed s34 Tryz.call142 Tryz.func142 rfl (by rw [Tryz.ntmps142]; simp) rfl ?_
    rw [Tryz.ntmps142]
    generalize hL : (Lp.mk s 72 _ _ _) = Lq
    have hLs : Lq.s = s := by subst hL; rfl
    have hbl : (belowL t 0).length ≤ 1000000000 := by
     have htl := ht.1
     unfold belowL
     split
     ·unfold belowK
      rw [List.length_map]
      refine Nat.le_trans (List.length_filter_le _ _) ?_
      rw [List.length_range]; exact htl
     ·simp
    have hround : ∀ (p : Int) (x : AV) (acc : List Int) (K : AV → Hp → Nat → Prop) (G : Hp) (ny : Nat), acc.length ≤ 1000000000 → Z < ny → G 0 = some (.var 27 root.cells) → G 1 = some (.var 28 [rowT Man.cells L]) → G 2 = some (.var 29 [rowT Pl.cells t]) → G A = some (.var 49 [x]) → AccI G Z ny x acc → G Z = some (Lq.o .ready none) →
      (∀ G' ny' x', ny ≤ ny' → (∀ k, k < Z → k ≠ A → G' k = G k) → G' Z = some (Lq.o .ready none) → G' A = some (.var 49 [x']) → AccI G' Z ny' x' (acc ++ if fineV root L t p = true then [] else [p]) → K (bV true) G' ny') → YldK Tryz.prog Z [iV p] K G ny := by
     subst hL
     clear g0 g1 g2 gA gR gV
     intro p x acc K G ny hal hZn g0 g1 g2 gA hacc gZ k1
     refine yldK mixed gZ rfl (by simp) rfl rfl fun hf => ?_
     with_reducible refine aS fun K' hK => ?_
     simp
     refine hK _ _ _ ?_; clear K' hK
     refine ⟨rfl, gZ, ?_⟩
     dsimp only
     generalize (Lp.mk s 72 _ _ _) = Lq at gZ k1 ⊢
     with_reducible refine aw_toS (aw_block ?_)
     have hmc := manVal_ok root hro L hLl hLo t ht p
     have hfine : fineV root L t p = match manVal root L t p with
      | none => false
      | some m => (ofF m.deps root.rules (decide (p = 0))).all (holdsV t p) := rfl
     have hmem := fun m (h : manVal root L t p = some m) => manVal_mem h
     generalize manVal root L t p = r at hmc hfine hmem
     cases r with
     | none =>
      with_reducible refine aR fun K' hK => ?_
      simp [s3, s4, s5, oZ0, oZ1, oZ2, g0, g1, g2]
      refine acall_new hmc (by simp) ?_
      simp [manR, addJ_nil]
      refine hK _ _ _ ?_; clear K' hK
      with_reducible refine aA ?_
      with_reducible refine aR fun K' hK => ?_
      simp
      refine hK _ _ _ ?_; clear K' hK
      with_reducible refine aX (by simp) ?_
      have hfine : fineV root L t p = false := hfine
      have an : ¬ A = ny := by omega
      have an1 : ¬ A = ny + 1 := by omega
      have an2 : ¬ A = ny + 2 := by omega
      have an3 : ¬ A = ny + 1 + 1 := by omega
      have zn : ¬ Z = ny := by omega
      have za : ¬ Z = A := by omega
      have zn1 : ¬ Z = ny + 1 := by omega
      have zn2 : ¬ Z = ny + 1 + 1 := by omega
      rcases hacc with ⟨rfl, rfl⟩ | ⟨q, rfl, hq, hZq, hqn, hne⟩
      ·with_reducible refine aA ?_
       with_reducible refine aR fun K' hK => ?_
       simp [s11, gA, aZ, an, an1, an3, treeOf_row, srcOf_row]
       refine hK _ _ _ ?_; clear K' hK
       with_reducible refine aw_exit ?_
       repeat first | with_reducible refine blockK_exit ?_ | with_reducible refine blockK_pass (by decide) ?_
       refine aw_skipL (roundK_normal (by simp [zn, za, zn1, zn2]) ?_)
       refine k1 _ _ (.row (ny + 1 + 1) 1) (by omega) (fun k hk hkA => by repeat rw [Hp.upd_ne _ _ (by omega)]) (by simp) (by simp [aZ]) (.inr ⟨ny + 1 + 1, by simp [hfine], ?_, by omega, by omega, by simp [hfine]⟩)
       rw [hfine]
       rw [Hp.upd_ne _ _ (by omega), Hp.upd_ne _ _ (by omega), Hp.upd_self]; rfl
      ·have b1 : acc.length + 1 ≤ 9223372036854775807 := by omega
       have b2 : (acc.length + 1) * 8 ≤ 140737488355328 := by omega
       have qn : ¬ q = ny := by omega
       have qn1 : ¬ q = ny + 1 := by omega
       have qZ : ¬ q = Z := by omega
       have qA : ¬ q = A := by omega
       have Aq : ¬ A = q := by omega
       have Zq : ¬ Z = q := by omega
       with_reducible refine aA ?_
       with_reducible refine aR fun K' hK => ?_
       simp [s11, gA, hq, aZ, an, an1, an3, qn, qn1, qZ, qA, Aq, b1, b2, treeOf_row, srcOf_row]
       refine hK _ _ _ ?_; clear K' hK
       with_reducible refine aw_exit ?_
       repeat first | with_reducible refine blockK_exit ?_ | with_reducible refine blockK_pass (by decide) ?_
       refine aw_skipL (roundK_normal (by simp [zn, za, zn1, zn2, Zq]) ?_)
       refine k1 _ _ (.row (ny + 1 + 1) (acc.length + 1)) (by omega) (fun k hk hkA => by repeat rw [Hp.upd_ne _ _ (by omega)]) (by simp) (by simp [aZ]) (.inr ⟨ny + 1 + 1, by simp [hfine], ?_, by omega, by omega, by simp [hfine]⟩)
       rw [hfine, Hp.upd_ne _ _ (by omega), Hp.upd_ne _ _ (by omega), Hp.upd_self, if_neg (by simp), ← flat_snoc]; rfl
     | some m =>
      with_reducible refine aR fun K' hK => ?_
      simp [s3, s4, s5, oZ0, oZ1, oZ2, g0, g1, g2]
      refine acall_new hmc (by simp) ?_
      simp [manR, addJ_two, Nat.add_comm 1 ny]
      refine hK _ _ _ ?_; clear K' hK
      with_reducible refine aA ?_
      with_reducible refine aR fun K' hK => ?_
      simp
      refine hK _ _ _ ?_; clear K' hK
      with_reducible refine aYk (by simp) ?_
      refine aw_gen (fun u H nz => u 3 = .ptr 0 0 ∧ u 4 = .ptr 1 0 ∧ u 5 = .ptr 2 0 ∧ u 11 = .ptr A 0 ∧ u 12 = iV p ∧ u 13 = .ptr (ny + 2) 0 ∧ nz = ny + 3 ∧ (∀ k, k < Z → H k = G k) ∧ H Z = some (Lq.o .busy none) ∧ (∀ k, Z < k → k < ny → H k = G k) ∧ H ny = some (.row 35 (flat Dep.cells m.deps)) ∧ H (ny + 1) = some (.row 96 (flat Ru.cells m.rules)) ∧ H (ny + 2) = some (.var 27 (m.cellsR (.row ny m.deps.length) (.row (ny + 1) m.rules.length)))) ?_ ?_
      ·have zn : ¬ Z = ny := by omega
       have zn1 : ¬ Z = ny + 1 := by omega
       have zn2 : ¬ Z = ny + 2 := by omega
       exact ⟨by simp [s3], by simp [s4], by simp [s5], by simp [s11], by simp, by simp, by omega, fun k hk => by repeat rw [Hp.upd_ne _ _ (by omega)], by simp [zn, zn1, zn2], fun k h1 h2 => by repeat rw [Hp.upd_ne _ _ (by omega)], by simp, by simp, by simp⟩
      clear hf
      rintro u H nz ⟨u3, u4, u5, u11, u12, u13, rfl, hHl, hHZ, hHu, hkd, hku, hkm⟩
      have hmz : Man.sz m ∧ Man.okS m := by
       rcases hmem m rfl with rfl | hin
       ·exact ⟨hrz, hro⟩
       ·exact ⟨hLz.2 _ hin, hLo _ hin⟩
      have z0 : ¬ 0 = ny := by omega
      have z1 : ¬ 0 = ny + 1 := by omega
      have z2 : ¬ 0 = ny + 2 := by omega
      have h0 : H 0 = some (.var 27 root.cells) := by rw [hHl 0 (by omega)]; exact g0
      have hT := manR_trees (show ¬ ny + 1 = ny by omega) hkd hku
      with_reducible refine aR fun K' hK => ?_
      simp [u3, u12, u13, hkm, h0]
      refine acall_new (of10_ok m root.rules (decide (p = 0)) hmz.2.1 hro.2) (by simp [hT]) ?_
      simp [addJ_one, hT]
      refine hK _ _ _ ?_; clear K' hK
      have hfine : fineV root L t p = (ofF m.deps root.rules (decide (p = 0))).all (holdsV t p) := hfine
      have hEz : ∀ d ∈ ofF m.deps root.rules (decide (p = 0)), Rg.sz d.range := fun d hd => by
       rcases ofF_range hd with ⟨e, he, h⟩ | ⟨e, he, h⟩
       ·rw [h]; exact (hmz.1.2.2.1.2 e he).2
       ·rw [h]; exact (hrz.2.2.2.2 e he).2
      have hEl : (ofF m.deps root.rules (decide (p = 0))).length ≤ 1000000000 := by
       have h1 := byM_len (decide (p = 0)) m.deps
       have h2 := hmz.1.2.2.1.1
       unfold ofF
       rw [List.length_map, (sortN_perm _).length_eq]
       simp only [namesOf, List.length_map]
       omega
      generalize ofF m.deps root.rules (decide (p = 0)) = E at *
      with_reducible refine aw_toS (aw_block ?_)
      refine aw_loop (fun u H nz => u 5 = .ptr 2 0 ∧ u 11 = .ptr A 0 ∧ u 12 = iV p ∧ (∀ k, k < Z → H k = G k) ∧ H Z = some (Lq.o .busy none) ∧ (∀ k, Z < k → k < ny → H k = G k) ∧ u 55 = .row (ny + 3) E.length ∧ H (ny + 3) = some (.row 35 (flat Dep.cells E)) ∧ u 56 = iV E.length ∧ ny + 4 ≤ nz ∧ ∃ j : Nat, u 57 = iV j ∧ j ≤ E.length ∧ (E.take j).all (holdsV t p) = true) (fun s _ _ => match s 57 with | .v (.int _ n) => E.length - n.toNat | _ => 0) ?_ ?_
      ·have e1 : ¬ Z = ny + 3 := by omega
       have e2 : ¬ Z = ny := by omega
       have e3 : ¬ Z = ny + 1 := by omega
       exact ⟨by simp [u5], by simp [u11], by simp [u12], fun k hk => by rw [Hp.upd_ne _ _ (by omega), frzOf_ne (by omega), frzOf_ne (by omega)]; exact hHl k hk, by simp [e1, e2, e3, hHZ], fun k h1 h2 => by rw [Hp.upd_ne _ _ (by omega), frzOf_ne (by omega), frzOf_ne (by omega)]; exact hHu k h1 h2, by simp, by simp, by simp, by omega, 0, by simp, by omega, by simp⟩
      ·clear u3 u4 u5 u11 u12 u13 hHl hHZ hHu hkd hku hkm h0
       rintro u H nz hf ⟨u5, u11, u12, hHl, hHZ, hHu, u55, hkE, u56, hnz, j, u57, hj, hjt⟩
       have hw : IntKind.i64.wrap (↑j + 1) = ((j + 1 : Nat) : Int) := wrapS (by omega)
       with_reducible refine aR fun K' hK => ?_
       simp [u56, u57]
       refine hK _ _ _ ?_; clear K' hK
       with_reducible refine aC fun A B hA hB => ?_
       simp
       refine ⟨fun hj2 => hA ?_, fun hj2 => hB ?_⟩ <;> clear hA hB A B <;> (try simp at hj2) <;> (try with_reducible refine aK ?_)
       ·have hstep := all_take1 (p := holdsV t p) hj2
        have hdz := hEz _ (nth_mem hj2)
        have hfalse : holdsV t p (nth E j) = false → fineV root L t p = false := fun h => by rw [hfine]; exact all_false hj2 h
        generalize hgd : nth E j = d at *
        have h2 : H 2 = some (.var 29 [rowT Pl.cells t]) := by rw [hHl 2 (by omega)]; exact g2
        have hn2 : ¬ 2 = nz := by omega
        have e3 : ¬ ny + 3 = nz := by omega
        with_reducible refine aw_block ?_
        with_reducible refine aR fun K' hK => ?_
        simp [u55, u57, hj2, hkE, hgd]
        refine hK _ _ _ ?_; clear K' hK
        with_reducible refine aR fun K' hK => ?_
        simp [u5, u12, h2, hn2]
        refine acall_flat (holds30_ok t ht hv p d hdz) rfl (by first | rfl | (simp; done) | (simp; rfl) | (simp; exact ⟨rfl, rfl⟩)) ?_
        by_cases hd : holdsV t p d = true
        ·simp [hd]
         refine hK _ _ _ ?_; clear K' hK
         with_reducible refine aVk (by simp) ?_
         with_reducible refine aw_skipL ?_
         refine blockK_normal ?_
         with_reducible refine aS fun K' hK => ?_
         simp [u57, hw]
         refine hK _ _ _ ?_; clear K' hK
         refine aw_skipL (loopK_normal ?_ ?_)
         ·exact ⟨by simp [u5], by simp [u11], by simp [u12], fun k hk => by rw [Hp.upd_ne _ _ (by omega), Hp.upd_ne _ _ (by omega)]; exact hHl k hk, by rw [Hp.upd_ne _ _ (by omega), Hp.upd_ne _ _ (by omega)]; exact hHZ, fun k h1 h2 => by rw [Hp.upd_ne _ _ (by omega), Hp.upd_ne _ _ (by omega)]; exact hHu k h1 h2, by simp [u55], by rw [Hp.upd_ne _ _ (by omega), Hp.upd_ne _ _ (by omega)]; exact hkE, by simp [u56], by omega, j + 1, by simp [hw], by omega, by rw [hstep, hjt, hd]; rfl⟩
         ·simp [u57, hw]; omega
        ·simp [hd]
         refine hK _ _ _ ?_; clear K' hK
         with_reducible refine aU (by simp) ?_
         have hfine2 : fineV root L t p = false := hfalse (by simpa using hd)
         have hA2 : H A = some (.var 49 [x]) := by rw [hHl A (by omega)]; exact gA
         have an : ¬ A = nz := by omega
         have an1 : ¬ A = nz + 1 := by omega
         have an3 : ¬ A = nz + 1 + 1 := by omega
         have zn : ¬ Z = nz := by omega
         have za : ¬ Z = A := by omega
         have zn1 : ¬ Z = nz + 1 := by omega
         have zn2 : ¬ Z = nz + 1 + 1 := by omega
         rcases hacc with ⟨rfl, rfl⟩ | ⟨q, rfl, hq, hZq, hqn, hne⟩
         ·with_reducible refine aA ?_
          with_reducible refine aR fun K' hK => ?_
          simp [u11, u12, hA2, an, an1, an3, treeOf_row, srcOf_row]
          refine hK _ _ _ ?_; clear K' hK
          with_reducible refine aw_exit ?_
          repeat first | with_reducible refine blockK_exit ?_ | with_reducible refine blockK_pass (by decide) ?_ | with_reducible refine loopK_exit ?_
          refine aw_skipL (roundK_normal (by simp [zn, za, zn1, zn2, hHZ]) ?_)
          refine k1 _ _ (.row (nz + 1 + 1) 1) (by omega) (fun k hk hkA => by (repeat rw [Hp.upd_ne _ _ (by omega)]); exact hHl k hk) (by simp) (by simp [aZ]) (.inr ⟨nz + 1 + 1, by simp [hfine2], ?_, by omega, by omega, by simp [hfine2]⟩)
          rw [hfine2, Hp.upd_ne _ _ (by omega), Hp.upd_ne _ _ (by omega), Hp.upd_self]; rfl
         ·have hq2 : H q = some (.row 3 (flat iC acc)) := by rw [hHu q hZq hqn]; exact hq
          have b1 : acc.length + 1 ≤ 9223372036854775807 := by omega
          have b2 : (acc.length + 1) * 8 ≤ 140737488355328 := by omega
          have qn : ¬ q = nz := by omega
          have qn1 : ¬ q = nz + 1 := by omega
          have qZ : ¬ q = Z := by omega
          have qA : ¬ q = A := by omega
          have Aq : ¬ A = q := by omega
          have Zq : ¬ Z = q := by omega
          with_reducible refine aA ?_
          with_reducible refine aR fun K' hK => ?_
          simp [u11, u12, hA2, hq2, an, an1, an3, qn, qn1, qZ, qA, Aq, b1, b2, treeOf_row, srcOf_row]
          refine hK _ _ _ ?_; clear K' hK
          with_reducible refine aw_exit ?_
          repeat first | with_reducible refine blockK_exit ?_ | with_reducible refine blockK_pass (by decide) ?_ | with_reducible refine loopK_exit ?_
          refine aw_skipL (roundK_normal (by simp [zn, za, zn1, zn2, Zq, hHZ]) ?_)
          refine k1 _ _ (.row (nz + 1 + 1) (acc.length + 1)) (by omega) (fun k hk hkA => by (repeat rw [Hp.upd_ne _ _ (by omega)]); exact hHl k hk) (by simp) (by simp [aZ]) (.inr ⟨nz + 1 + 1, by simp [hfine2], ?_, by omega, by omega, by simp [hfine2]⟩)
          rw [hfine2, Hp.upd_ne _ _ (by omega), Hp.upd_ne _ _ (by omega), Hp.upd_self, if_neg (by simp), ← flat_snoc]; rfl
       ·skip
        with_reducible refine aw_exit ?_
        refine loopK_exit (blockK_exit ?_)
        have hjE : j = E.length := by omega
        subst hjE
        rw [List.take_length] at hjt
        have hfine2 : fineV root L t p = true := by rw [hfine]; exact hjt
        with_reducible refine aw_skipL ?_
        refine blockK_normal ?_
        refine aw_skipL (roundK_normal hHZ ?_)
        refine k1 _ _ x (by omega) (fun k hk hkA => by rw [Hp.upd_ne _ _ (by omega)]; exact hHl k hk) (by simp) (by rw [Hp.upd_ne _ _ (by omega), hHl A (by omega)]; exact gA) ?_
        rw [hfine2, if_pos rfl, List.append_nil]
        rcases hacc with h | ⟨q, hx, hq, hZq, hqn, hne⟩
        ·exact .inl h
        ·exact .inr ⟨q, hx, by rw [Hp.upd_ne _ _ (by omega), hHu q hZq hqn]; exact hq, hZq, by omega, hne⟩
    with_reducible refine aR fun K' hK => ?_
    simp [gV, vZ, rZ, gR]
    refine hK _ _ _ ?_; clear K' hK
    with_reducible refine aw_toS (aw_block ?_)
    refine aw_loop (fun t' G' ny => Z < ny ∧ t' 0 = .yl Z ∧ t' 5 = .row R (belowL t 0).length ∧ t' 6 = iV (belowL t 0).length ∧ G' 0 = some (.var 27 root.cells) ∧ G' 1 = some (.var 28 [rowT Man.cells L]) ∧ G' 2 = some (.var 29 [rowT Pl.cells t]) ∧ G' R = some (.row 3 (flat iC (belowL t 0))) ∧ G' Z = some (Lq.o .ready none) ∧ ∃ (i : Nat) (x : AV), t' 7 = iV i ∧ i ≤ (belowL t 0).length ∧ G' A = some (.var 49 [x]) ∧ AccI G' Z ny x (((belowL t 0).take i).filter fun p => !fineV root L t p)) (fun s _ _ => match s 7 with | .v (.int _ n) => (belowL t 0).length - n.toNat | _ => 0) ?_ ?_
    ·exact ⟨by omega, by simp, by simp, by simp, by simp [oZ0, g0], by simp [oZ1, g1], by simp [oZ2, g2], by simp [rZ, gR], by simp, 0, _, by simp, by omega, by simp [aZ, gA], .inl ⟨rfl, by simp⟩⟩
    ·rintro t' G' ny - ⟨hZn, u0, u5, u6, h0, h1, h2, hR', hZ', i, x, u7, hi, hA', hacc⟩
     have hw : IntKind.i64.wrap (↑i + 1) = ((i + 1 : Nat) : Int) := wrapS (by omega)
     with_reducible refine aR fun K' hK => ?_
     simp [u6, u7]
     refine hK _ _ _ ?_; clear K' hK
     with_reducible refine aC fun A B hA hB => ?_
     simp
     refine ⟨fun hi2 => hA ?_, fun hi2 => hB ?_⟩ <;> clear hA hB A B <;> (try simp at hi2) <;> (try with_reducible refine aK ?_)
     ·have hst : ((belowL t 0).take (i + 1)).filter (fun p => !fineV root L t p) = ((belowL t 0).take i).filter (fun p => !fineV root L t p) ++ if fineV root L t (nth (belowL t 0) i) = true then [] else [nth (belowL t 0) i] := by
       rw [List.take_add_one, List.getElem?_eq_getElem hi2, List.filter_append, ← nth_eq hi2]
       congr 1
       cases hf2 : fineV root L t (nth (belowL t 0) i) <;> simp [hf2]
      with_reducible refine aw_block ?_
      with_reducible refine aR fun K' hK => ?_
      simp [u5, u7, hi2, hR']
      refine hK _ _ _ ?_; clear K' hK
      with_reducible refine aR fun K' hK => ?_
      simp [u0]
      refine ⟨⟨_, _, _, _, _, _, _, hZ'⟩, hround (nth (belowL t 0) i) x _ _ _ _ (Nat.le_trans (List.length_filter_le _ _) (by rw [List.length_take]; omega)) hZn h0 h1 h2 hA' hacc hZ' (fun G2 ny2 x' hn2 hG h5' hA2 hacc2 => ?_)⟩
      simp
      refine hK _ _ _ ?_; clear K' hK
      with_reducible refine aVk (by simp) ?_
      with_reducible refine aw_skipL ?_
      refine blockK_normal ?_
      with_reducible refine aS fun K' hK => ?_
      simp [u7, hw]
      refine hK _ _ _ ?_; clear K' hK
      refine aw_skipL (loopK_normal ?_ ?_)
      ·exact ⟨by omega, by simp [u0], by simp [u5], by simp [u6], by rw [hG 0 (by omega) (by omega)]; exact h0, by rw [hG 1 (by omega) (by omega)]; exact h1, by rw [hG 2 (by omega) (by omega)]; exact h2, by rw [hG R (by omega) (by omega)]; exact hR', h5', i + 1, x', by simp [hw], by omega, hA2, by rw [hst]; exact hacc2⟩
      ·simp [u7, hw]; omega
     ·skip
      with_reducible refine aw_exit ?_
      refine loopK_exit (blockK_exit ?_)
      rw [List.take_of_length_le (by omega)] at hacc
      have hacc : AccI G' Z ny x (wrongL root L t) := hacc
      refine aw_skipL (rangeK_on (.inl rfl) hZ' ?_)
      rw [hLs]
      refine blockK_normal ?_
      rcases hacc with ⟨rfl, hnil⟩ | ⟨r, rfl, hr, hZr, hrn, hne⟩
      ·have hR1 : wrongR root L t = (.tup [.v (.slice none 0 0), iV 0], []) := by rw [wrongR, if_pos hc0, if_pos hnil]
       rw [hR1]
       with_reducible refine aR fun K' hK => ?_
       simp [s11, aZ, hA']
       refine hK _ _ _ ?_; clear K' hK
       with_reducible refine aw_retL ?_
       simp [blockK, loopK, Post, resA, res1, expT, expA, exp1, expM, expL, okT, okA, ok1, rowOf, Tryz.f35, scopeK]
      ·have hR1 : wrongR root L t = (.tup [.row 0 (wrongL root L t).length, iV 0], [(3, flat iC (wrongL root L t))]) := by rw [wrongR, if_pos hc0, if_neg hne]
       rw [hR1]
       have q1 : ¬ r = Z := by omega
       with_reducible refine aR fun K' hK => ?_
       simp [s11, aZ, hA']
       refine hK _ _ _ ?_; clear K' hK
       with_reducible refine aw_retL ?_
       simp [blockK, loopK, Post, resA, res1, expT, expA, exp1, expM, expL, okT, okA, ok1, rowOf, Tryz.f35, scopeK, q1, hr]
 ·unfold wrongR
  split
  ·split <;> rfl
  ·rfl
def validN (root : Man) (L : List Man) (t : List Pl) : Bool := decide (codeV root L t = 0) && decide (wrongL root L t = [])
theorem valid38_ok (root : Man) (L : List Man) (t : List Pl) (h : ValSz root L t) : CallsOK Tryz.prog 38 [.agg root.cells, rowT Man.cells L, rowT Pl.cells t] (bV (validN root L t)) [] := by
 have hW := wrong35_ok root L t h
 refine callsOK mixed Tryz.call38 Tryz.func38 rfl (by rw [Tryz.ntmps38]; simp) ?_ rfl
 rw [Tryz.ntmps38]
 with_reducible refine aR fun K' hK => ?_
 simp
 refine hK _ _ _ ?_; clear K' hK
 by_cases c : codeV root L t = 0
 ·by_cases w : wrongL root L t = []
  ·rw [wrongR, if_pos c, if_pos w] at hW
   with_reducible refine aR fun K' hK => ?_
   simp
   refine acall_new hW (by simp) ?_
   simp [addJ_nil]
   refine hK _ _ _ ?_; clear K' hK
   with_reducible refine aR fun K' hK => ?_
   simp
   refine hK _ _ _ ?_; clear K' hK
   with_reducible refine aw_retL ?_
   simp [blockK, loopK, Post, resA, res1, expT, expA, exp1, expM, expL, okT, okA, ok1, rowOf, Tryz.f38]
   simp [validN, c, w]
  ·rw [wrongR, if_pos c, if_neg w] at hW
   have hl : ¬ (wrongL root L t).length = 0 := fun e => w (List.eq_nil_of_length_eq_zero e)
   with_reducible refine aR fun K' hK => ?_
   simp
   refine acall_new hW (by simp) ?_
   simp [addJ_one]
   refine hK _ _ _ ?_; clear K' hK
   with_reducible refine aR fun K' hK => ?_
   simp [hl, w]
   refine hK _ _ _ ?_; clear K' hK
   with_reducible refine aw_retL ?_
   simp [blockK, loopK, Post, resA, res1, expT, expA, exp1, expM, expL, okT, okA, ok1, rowOf, Tryz.f38]
   simp [validN, c, w]
 ·rw [wrongR, if_neg c] at hW
  with_reducible refine aR fun K' hK => ?_
  simp
  refine acall_new hW (by simp) ?_
  simp [addJ_one]
  refine hK _ _ _ ?_; clear K' hK
  with_reducible refine aR fun K' hK => ?_
  simp [c]
  refine hK _ _ _ ?_; clear K' hK
  with_reducible refine aw_retL ?_
  simp [blockK, loopK, Post, resA, res1, expT, expA, exp1, expM, expL, okT, okA, ok1, rowOf, Tryz.f38]
  simp [validN, c]
set_option maxRecDepth 100000
set_option maxHeartbeats 4000000
def bigI (L : List Man) : Bool := decide (110 < L.length) || L.any bigM
theorem big73_ok (L : List Man) (hl : L.length ≤ 9223372036854775807) : CallsOK Tryz.prog 73 [rowT Man.cells L] (bV (bigI L)) [] := by
 refine callsOK mixed Tryz.call73 Tryz.func73 rfl (by rw [Tryz.ntmps73]; simp) ?_ rfl
 rw [Tryz.ntmps73]
 with_reducible refine aR fun K' hK => ?_
 simp
 refine hK _ _ _ ?_; clear K' hK
 with_reducible refine aA ?_
 with_reducible refine aR fun K' hK => ?_
 simp
 refine hK _ _ _ ?_; clear K' hK
 with_reducible refine aC fun A B hA hB => ?_
 simp
 refine ⟨fun h1 => hA ?_, fun h1 => hB ?_⟩ <;> clear hA hB A B <;> (try simp at h1) <;> (try with_reducible refine aK ?_)
 ·with_reducible refine aA ?_
  with_reducible refine aR fun K' hK => ?_
  simp
  refine hK _ _ _ ?_; clear K' hK
  with_reducible refine aw_ret ?_
  simp [blockK, loopK, Post, resA, res1, expT, expA, exp1, expM, expL, okT, okA, ok1, rowOf, Tryz.f73]
  simp [bigI]; left; omega
 ·with_reducible refine aA ?_
  with_reducible refine aR fun K' hK => ?_
  simp
  refine hK _ _ _ ?_; clear K' hK
  with_reducible refine aw_block ?_
  refine aw_loop (fun s G nx => s 0 = rowT Man.cells L ∧ ∃ i : Nat, s 3 = iV i ∧ i ≤ L.length ∧ (L.take i).any bigM = false) (fun s _ _ => match s 3 with | .v (.int _ n) => L.length - n.toNat | _ => 0) ?_ ?_
  ·exact ⟨by simp, 0, by simp, by omega, by simp⟩
  ·rintro s G nx - ⟨s0, i, s3, hi, ht⟩
   have hw : IntKind.i64.wrap (↑i + 1) = ((i + 1 : Nat) : Int) := wrapS (by omega)
   with_reducible refine aA ?_
   with_reducible refine aR fun K' hK => ?_
   simp [s0, s3]
   refine hK _ _ _ ?_; clear K' hK
   with_reducible refine aC fun A B hA hB => ?_
   simp
   refine ⟨fun hi2 => hA ?_, fun hi2 => hB ?_⟩ <;> clear hA hB A B <;> (try simp at hi2) <;> (try with_reducible refine aK ?_)
   ·skip
    with_reducible refine aw_block ?_
    with_reducible refine aR fun K' hK => ?_
    simp [s0, s3, hi2]
    refine acall_flat (big22_ok (nth L i)) rfl (by simp) ?_
    simp
    refine hK _ _ _ ?_; clear K' hK
    by_cases c : bigM (nth L i) = true
    ·skip
     with_reducible refine aU (by simp [c]) ?_
     with_reducible refine aA ?_
     with_reducible refine aR fun K' hK => ?_
     simp
     refine hK _ _ _ ?_; clear K' hK
     with_reducible refine aw_ret ?_
     simp [blockK, loopK, Post, resA, res1, expT, expA, exp1, expM, expL, okT, okA, ok1, rowOf, Tryz.f73]
     simp only [bigI, Bool.or_eq_true, List.any_eq_true]
     exact .inr ⟨_, nth_mem hi2, c⟩
    ·skip
     with_reducible refine aVk (by simp [c]) ?_
     with_reducible refine aw_skipL ?_
     refine blockK_normal ?_
     with_reducible refine aS fun K' hK => ?_
     simp [s3, hw]
     refine hK _ _ _ ?_; clear K' hK
     refine aw_skipL (loopK_normal ?_ ?_)
     ·exact ⟨by simp [s0], i + 1, by simp [hw], by omega, any_take hi2 ht (by simpa using c)⟩
     ·simp [s3, hw]; omega
   ·skip
    with_reducible refine aw_exit ?_
    refine loopK_exit (blockK_exit ?_)
    rw [List.take_of_length_le (by omega)] at ht
    with_reducible refine aR fun K' hK => ?_
    simp
    refine hK _ _ _ ?_; clear K' hK
    with_reducible refine aw_retL ?_
    simp [blockK, loopK, Post, resA, res1, expT, expA, exp1, expM, expL, okT, okA, ok1, rowOf, Tryz.f73]
    simp only [bigI, ht, Bool.or_false, decide_eq_false_iff_not]; omega
def bigW (root : Man) (L : List Man) (t : List Pl) : Bool := bigM root || (bigI L || bigT t)
theorem big21_ok (root : Man) (L : List Man) (t : List Pl) (hl : L.length ≤ 9223372036854775807) (ht : t.length ≤ 9223372036854775807) : CallsOK Tryz.prog 21 [.agg root.cells, rowT Man.cells L, rowT Pl.cells t] (bV (bigW root L t)) [] := by
 refine callsOK mixed Tryz.call21 Tryz.func21 rfl (by rw [Tryz.ntmps21]; simp) ?_ rfl
 rw [Tryz.ntmps21]
 with_reducible refine aR fun K' hK => ?_
 simp
 refine hK _ _ _ ?_; clear K' hK
 with_reducible refine aR fun K' hK => ?_
 simp
 refine acall_flat (big22_ok root) rfl (by simp) ?_
 by_cases c1 : bigM root = true
 ·simp [c1]
  refine hK _ _ _ ?_; clear K' hK
  with_reducible refine aw_retL ?_
  simp [blockK, loopK, Post, resA, res1, expT, expA, exp1, expM, expL, okT, okA, ok1, rowOf, Tryz.f21]
  simp [bigW, c1]
 ·simp [c1]
  refine acall_flat (big73_ok L hl) rfl (by simp) ?_
  by_cases c2 : bigI L = true
  ·simp [c2]
   refine hK _ _ _ ?_; clear K' hK
   with_reducible refine aw_retL ?_
   simp [blockK, loopK, Post, resA, res1, expT, expA, exp1, expM, expL, okT, okA, ok1, rowOf, Tryz.f21]
   simp [bigW, c2]
  ·simp [c2]
   refine acall_flat (big30_ok t ht) rfl (by simp) ?_
   simp
   refine hK _ _ _ ?_; clear K' hK
   with_reducible refine aw_retL ?_
   simp [blockK, loopK, Post, resA, res1, expT, expA, exp1, expM, expL, okT, okA, ok1, rowOf, Tryz.f21]
   simp [bigW, c1, c2]
set_option maxRecDepth 100000
theorem op3 : Opens Tryz.prog (fun _ : Int => True) (fun n => [iV n]) 3 := (opens_int (k := .i64) (by kernel_rfl)).map id (fun _ _ => trivial) fun _ => rfl
theorem op85 : Opens Tryz.prog (fun _ : Int => True) (fun n => [iV n]) 85 := (opens_int (k := .i64) (by kernel_rfl)).map id (fun _ _ => trivial) fun _ => rfl
theorem op30 : Opens Tryz.prog (fun _ : Int => True) (fun n => [iV n]) 30 := (opens_int (k := .i64) (by kernel_rfl)).map id (fun _ _ => trivial) fun _ => rfl
theorem op9 : Opens Tryz.prog (fun s : Bs => s.size ≤ maxLen) (fun n => [sV n]) 9 := (opens_string (by kernel_rfl)).map id (fun _ h => h) fun _ => rfl
theorem op23 : Opens Tryz.prog (fun v : Ver => v.pre.size ≤ maxLen) Ver.cells 23 :=
 (opens_struct (opensF_cons 1 op3 (opensF_cons 1 op3 (opensF_cons 1 op3 (opensF_cons 1 op9 (opensF_nil (n := 4)) (by kernel_rfl)) (by kernel_rfl)) (by kernel_rfl)) (by kernel_rfl)) (by kernel_rfl) (by kernel_rfl)).map
  (fun x => ⟨x.1, x.2.1, x.2.2.1, x.2.2.2.1⟩) (fun _ h => h.2.2.2.1) fun _ => rfl
theorem op58 : Opens Tryz.prog (fun _ => True) Pl.cells 58 :=
 (opens_struct (opensF_cons 1 op3 (opensF_cons 1 op9 (opensF_cons 4 op23 (opensF_nil (n := 6)) (by kernel_rfl)) (by kernel_rfl)) (by kernel_rfl)) (by kernel_rfl) (by kernel_rfl)).map
  (fun x => ⟨x.1, x.2.1, x.2.2.1⟩) (fun _ _ => trivial) fun _ => rfl
theorem op29 : Opens Tryz.prog (fun l : List Pl => l.length ≤ maxLen) (fun l : List Pl => [rowT Pl.cells l]) 29 := (opens_slice op58 (by kernel_rfl) (by kernel_rfl)).map id (fun _ h => h.1) fun _ => rfl
theorem op87 : Opens Tryz.prog (fun _ => True) Bd.cells 87 :=
 (opens_struct (opensF_cons 1 op85 (opensF_cons 4 op23 (opensF_nil (n := 5)) (by kernel_rfl)) (by kernel_rfl)) (by kernel_rfl) (by kernel_rfl)).map
  (fun x => ⟨x.1, x.2.1⟩) (fun _ _ => trivial) fun _ => rfl
theorem op83 : Opens Tryz.prog (fun l : Alt => l.length ≤ maxLen) Alt.cells 83 := (opens_slice op87 (by kernel_rfl) (by kernel_rfl)).map id (fun _ h => h.1) fun _ => rfl
def Rg.okO (r : Rg) : Prop := r.length ≤ maxLen ∧ ∀ l ∈ r, l.length ≤ maxLen
theorem op31 : Opens Tryz.prog Rg.okO Rg.cells 31 := (opens_slice op83 (by kernel_rfl) (by kernel_rfl)).map id (fun _ h => h) fun _ => rfl
theorem op33 : Opens Tryz.prog Rg.okO Rg.cells 33 :=
 (opens_struct (opensF_cons 1 op31 (opensF_nil (n := 1)) (by kernel_rfl)) (by kernel_rfl) (by kernel_rfl)).map (fun x => x.1) (fun _ h => h.1) fun x => by simp [Rg.cells]
def Dep.okO (d : Dep) : Prop := d.name.size ≤ maxLen ∧ Rg.okO d.range
theorem op35 : Opens Tryz.prog Dep.okO Dep.cells 35 :=
 (opens_struct (opensF_cons 1 op30 (opensF_cons 1 op9 (opensF_cons 1 op33 (opensF_nil (n := 3)) (by kernel_rfl)) (by kernel_rfl)) (by kernel_rfl)) (by kernel_rfl) (by kernel_rfl)).map
  (fun x => ⟨x.1, x.2.1, x.2.2.1⟩) (fun _ h => ⟨h.2.1, h.2.2.1⟩) fun _ => rfl
def Ru.okO (d : Ru) : Prop := d.name.size ≤ maxLen ∧ Rg.okO d.range
theorem op96 : Opens Tryz.prog Ru.okO Ru.cells 96 :=
 (opens_struct (opensF_cons 1 op9 (opensF_cons 1 op33 (opensF_nil (n := 2)) (by kernel_rfl)) (by kernel_rfl)) (by kernel_rfl) (by kernel_rfl)).map
  (fun x => ⟨x.1, x.2.1⟩) (fun _ h => ⟨h.1, h.2.1⟩) fun _ => rfl
theorem op24 : Opens Tryz.prog (fun l : List Dep => l.length ≤ maxLen ∧ ∀ d ∈ l, Dep.okO d) (fun l : List Dep => [rowT Dep.cells l]) 24 := (opens_slice op35 (by kernel_rfl) (by kernel_rfl)).map id (fun _ h => h) fun _ => rfl
theorem op25 : Opens Tryz.prog (fun l : List Ru => l.length ≤ maxLen ∧ ∀ d ∈ l, Ru.okO d) (fun l : List Ru => [rowT Ru.cells l]) 25 := (opens_slice op96 (by kernel_rfl) (by kernel_rfl)).map id (fun _ h => h) fun _ => rfl
theorem op27 : Opens Tryz.prog (fun _ : Man => True) Man.cells 27 :=
 (opens_struct (opensF_cons 1 op9 (opensF_cons 4 op23 (opensF_cons 1 op24 (opensF_cons 1 op25 (opensF_nil (n := 7)) (by kernel_rfl)) (by kernel_rfl)) (by kernel_rfl)) (by kernel_rfl)) (by kernel_rfl) (by kernel_rfl)).map
  (fun x => ⟨x.1, x.2.1, x.2.2.1, x.2.2.2.1⟩) (fun _ _ => trivial) fun _ => rfl
theorem op28 : Opens Tryz.prog (fun l : List Man => l.length ≤ maxLen) (fun l : List Man => [rowT Man.cells l]) 28 := (opens_slice op27 (by kernel_rfl) (by kernel_rfl)).map id (fun _ h => h.1) fun _ => rfl
set_option maxRecDepth 100000
theorem two_of {α : Type} : ∀ {l : List α}, l.length = 2 → ∃ a b, l = [a, b]
 | [a, b], _ => ⟨a, b, rfl⟩
theorem five_of {α : Type} : ∀ {l : List α}, l.length = 5 → ∃ a b c d e, l = [a, b, c, d, e]
 | [a, b, c, d, e], _ => ⟨a, b, c, d, e, rfl⟩
theorem ten_of {α : Type} : ∀ {l : List α}, l.length = 10 → ∃ a b c d e f g h i j, l = [a, b, c, d, e, f, g, h, i, j]
 | [a, b, c, d, e, f, g, h, i, j], _ => ⟨a, b, c, d, e, f, g, h, i, j, rfl⟩
theorem pair212 {enc : TypeId × Value → Unit} {w : World} {base fuel : Nat} {sp : Nat → Bool} {held : Bool} {cs : List Value} {x : DataW Unit × List MemPlace} {n : Int} {b : List UInt8}
  (h : DataW.trod enc Tryz.prog w base sp held fuel 212 cs = some x) (hx : x.1 = .agg [.lit (.int .i64 n), .lit (.string b)]) : cs = [.int .i64 n, .string (ofL b)] := by
 have hu : ∃ fs : Array Field, Tryz.prog.underlying 212 = some (.struct fs) ∧ fs.size = 2 ∧ (fs[0]?.map fun f => (f.type, f.offset)) = some (85, 0) ∧ (fs[1]?.map fun f => (f.type, f.offset)) = some (9, 1) := by
  have hk : (match Tryz.prog.underlying 212 with | some (.struct fs) => fs.size == 2 && ((fs[0]?.map fun f => (f.type, f.offset)) == some (85, 0) && (fs[1]?.map fun f => (f.type, f.offset)) == some (9, 1)) | _ => false) = true := by kernel_rfl
  split at hk
  ·rename_i fs hf
   simp only [Bool.and_eq_true, beq_iff_eq] at hk
   exact ⟨fs, hf, hk.1, hk.2.1, hk.2.2⟩
  ·cases hk
 obtain ⟨fs, hf, h2, f0, f1⟩ := hu
 obtain ⟨xs, m, rfl, rfl, hl, hxl, hat⟩ := DataW.trod_struct hf h
 obtain ⟨g0, hg0, e0⟩ := Option.map_eq_some_iff.1 f0
 obtain ⟨g1, hg1, e1⟩ := Option.map_eq_some_iff.1 f1
 injection e0 with e00 e01
 injection e1 with e10 e11
 have a0 := hat 0 g0 hg0
 have a1 := hat 1 g1 hg1
 rw [e00, e01] at a0
 rw [e10, e11] at a1
 have c85 : Tryz.prog.cellsOf 85 = 1 := by kernel_rfl
 have c9 : Tryz.prog.cellsOf 9 = 1 := by kernel_rfl
 have c212 : Tryz.prog.cellsOf 212 = 2 := by kernel_rfl
 have u85 : Tryz.prog.underlying 85 = some (.int .i64) := by kernel_rfl
 have u9 : Tryz.prog.underlying 9 = some .string := by kernel_rfl
 rw [c85] at a0
 rw [c9] at a1
 rw [c212] at hl
 injection hx with hx
 rw [h2] at hxl
 obtain ⟨x0, x1, rfl⟩ := two_of hxl
 obtain ⟨p, q, rfl⟩ := two_of hl
 simp at a0 a1 hx
 obtain ⟨k, hc0, hx0, _⟩ := DataW.trod_int u85 a0
 obtain ⟨s, hc1, hx1, _⟩ := DataW.trod_string u9 a1
 subst hx0; subst hx1
 simp at hc0 hc1 hx
 subst hc0; subst hc1
 obtain ⟨rfl, h3⟩ := hx
 rw [← h3]
 simp [ofL]
theorem signs_cells {enc : TypeId × Value → Unit} {w : World} {base fuel : Nat} {sp : Nat → Bool} {held : Bool} {cs : List Value} {p : List MemPlace}
  (h : DataW.trod enc Tryz.prog w base sp held fuel 213 cs = some (Proofs.YtgipehooceecpaaGreatDoor.Rows.laid_hogget_span_signs, p)) : cs = signsV := by
 have u213 : Tryz.prog.underlying 213 = some (.array 5 212) := by kernel_rfl
 have c212 : Tryz.prog.cellsOf 212 = 2 := by kernel_rfl
 have c213 : Tryz.prog.cellsOf 213 = 10 := by kernel_rfl
 obtain ⟨xs, m, rfl, hx, hl, hxl, hat⟩ := DataW.trod_array u213 h
 rw [c212] at hat
 rw [c213] at hl
 have hx1 := congrArg Prod.fst hx
 simp only at hx1
 unfold Proofs.YtgipehooceecpaaGreatDoor.Rows.laid_hogget_span_signs at hx1
 injection hx1 with hx1
 obtain ⟨x0, x1, x2, x3, x4, rfl⟩ := five_of hxl
 obtain ⟨d0, d1, d2, d3, d4, d5, d6, d7, d8, d9, rfl⟩ := ten_of hl
 simp at hx1
 obtain ⟨y0, y1, y2, y3, y4⟩ := hx1
 have b0 := pair212 (hat 0 (by omega)) y0.symm
 have b1 := pair212 (hat 1 (by omega)) y1.symm
 have b2 := pair212 (hat 2 (by omega)) y2.symm
 have b3 := pair212 (hat 3 (by omega)) y3.symm
 have b4 := pair212 (hat 4 (by omega)) y4.symm
 simp at b0 b1 b2 b3 b4
 simp [signsV, b0, b1, b2, b3, b4, ofL]
set_option maxRecDepth 100000
theorem maxLen_le {n : Nat} (h : n ≤ maxLen) : n ≤ 9223372036854775807 := h
-- the tables
def laidL : List (String × DataW Unit) := Proofs.YtgipehooceecpaaGreatDoor.Rows.validAloneRow.laid
theorem var_ext {w w' : World} (h : ExtC (fun _ => False) w w') {n : String} {cs : Array Value} (hv : w.var? Tryz.prog n = some cs) : w'.var? Tryz.prog n = some cs := by
 unfold World.var? at hv ⊢
 cases hg : Tryz.prog.globalNamed n with
 | none => rw [hg] at hv; cases hv
 | some g =>
  rw [hg] at hv
  simp only [Option.bind_some] at hv ⊢
  cases ho : w.heap[g]? with
  | none => rw [ho] at hv; cases hv
  | some o =>
   rw [ho] at hv
   cases o <;> simp at hv
   subst hv
   rw [h.same g _ ho rfl (fun h => h)]
theorem cell_ext {w w' : World} (h : ExtC (fun _ => False) w w') {a : Addr} {v : Value} (hv : w.cell? a = some v) : w'.cell? a = some v := by
 unfold World.cell? at hv ⊢
 cases ho : w.heap[a.block]? with
 | none => rw [ho] at hv; cases hv
 | some o =>
  rw [ho] at hv
  cases o <;> simp at hv
  rw [h.same a.block _ ho rfl (fun h => h)]
  simpa using hv
theorem gl_ext {w w' : World} (h : ExtC (fun _ => False) w w') (hg : Gl.ok Tryz.prog w) : Gl.ok Tryz.prog w' := by
 obtain ⟨h1, ⟨a, b, h2⟩, ⟨c, d, h3⟩, ⟨m, h4⟩, h5⟩ := hg
 exact ⟨var_ext h h1, ⟨a, b, var_ext h h2⟩, ⟨c, d, var_ext h h3⟩, ⟨m, cell_ext h h4⟩, fun i v hv => cell_ext h (h5 i v hv)⟩
theorem star : "*" ++ "errors.errorString" = "*errors.errorString" := by decide
theorem row287 (u : TypeId) (h : Tryz.prog.typeName? 3 u = some "*errors.errorString") : u = 287 :=
 typeName_ptr_named (nm := "errors.errorString") (by rw [star]; kernel_rfl) (by kernel_rfl) (by decide) u (by rw [star]; exact h)
theorem und223 : ∃ ms, Tryz.prog.underlying 223 = some (.interface ms) := by
 have h : (Tryz.prog.underlying 223).any (fun | .interface _ => true | _ => false) = true := by kernel_rfl
 cases hu : Tryz.prog.underlying 223 with
 | none => rw [hu] at h; cases h
 | some x => rw [hu] at h; cases x <;> first | exact ⟨_, rfl⟩ | cases h
theorem gl_of {W : World} (hL : laidMetH Tryz.prog laidL W) (hsh : W.ShapedOpen Tryz.prog) : Gl.ok Tryz.prog W := by
 rw [MakeChecks.laidMetH_plain _ _ _ (by kernel_rfl)] at hL
 have h3 := hL.tail.tail
 have h5 := h3.tail.tail
 have h6 := h5.tail
 have h7 := h6.tail
 obtain ⟨ms, hi⟩ := und223
 obtain ⟨a5, s5, v5, _⟩ := laid_sentinel h5 (g := 6) (ti := 223) (tp := 287) (te := 289) (ts := 9) (by kernel_rfl) (by kernel_rfl) hi row287 (by kernel_rfl) Tryz.underlying289 rfl rfl (by kernel_rfl) (by kernel_rfl) (by kernel_rfl)
 obtain ⟨a6, s6, v6, _⟩ := laid_sentinel h6 (g := 5) (ti := 223) (tp := 287) (te := 289) (ts := 9) (by kernel_rfl) (by kernel_rfl) hi row287 (by kernel_rfl) Tryz.underlying289 rfl rfl (by kernel_rfl) (by kernel_rfl) (by kernel_rfl)
 refine ⟨?_, ⟨_, _, v6⟩, ⟨_, _, v5⟩, ?_, ?_⟩
 ·exact Lib.tabIs_of_head (g := 2) (t := 260) (e := 210) (n := 20) (by kernel_rfl) (by kernel_rfl) (by kernel_rfl) (by kernel_rfl) (by kernel_rfl) (by kernel_rfl) h3
 ·exact cell_of_shapedOpen_int (t := 3) (zero := #[.int .i64 0]) hsh (of_decide_eq_true (by kernel_rfl)) (by kernel_rfl) rfl (by kernel_rfl) (by kernel_rfl) (by kernel_rfl)
 ·have hg0 : Tryz.prog.globalNamed "hogget/span.signs" = some 0 := by kernel_rfl
  have hty : (Tryz.prog.globals[0]?).map (·.type) = some 213 := by kernel_rfl
  obtain ⟨ps, ⟨g', t', cs, fuel, p, q, hg', ht', hvar, hd, _, _⟩, _⟩ := h7
  obtain rfl := Option.some.inj (hg0.symm.trans hg')
  obtain rfl := Option.some.inj (hty.symm.trans ht')
  have hcs := signs_cells hd
  intro i v hv
  rw [World.var?_cell hg0 hvar i]
  have : cs[i]? = cs.toList[i]? := by simp
  rw [this, hcs]; exact hv
-- the witness
def litsOf : DataW Unit → List Value
 | .agg l => l.filterMap fun | .lit (.int k n) => some (.int k n) | _ => none
 | _ => []
def lits2Of : DataW Unit → List Value
 | .agg l => l.flatMap litsOf
 | _ => []
noncomputable def low : Nat := (World.holding Tryz.prog default ⟨#[], #[], []⟩).heap.size
noncomputable def laidWorld (os : Os) : World :=
 let w0 := World.holding Tryz.prog os ⟨#[.cells #[.string ⟨#[118, 97, 108, 117, 101, 32, 111, 117, 116, 32, 111, 102, 32, 114, 97, 110, 103, 101]⟩] 289, .cells #[.string ⟨#[105, 110, 118, 97, 108, 105, 100, 32, 115, 121, 110, 116, 97, 120]⟩] 289], #[], []⟩
 let put (h : Array Obj) (g : Nat) (cs : List Value) : Array Obj := h.modify g fun
  | .cells _ t frozen => .cells cs.toArray t frozen
  | o => o
 let h0 := put w0.heap 0 signsV
 let h1 := put h0 2 (litsOf Proofs.YtgipehooceecpaaGreatDoor.Rows.laid_internal_strconv_uint64pow10)
 let h2 := put h1 3 (litsOf Proofs.YtgipehooceecpaaGreatDoor.Rows.laid_unicode_utf8_first)
 let h3 := put h2 4 (lits2Of Proofs.YtgipehooceecpaaGreatDoor.Rows.laid_unicode_utf8_acceptRanges)
 let h4 := put h3 5 [.iface 287 (.pointer (some ⟨low + 1, 0, none⟩))]
 let h5 := put h4 6 [.iface 287 (.pointer (some ⟨low, 0, none⟩))]
 let h6 := put h5 7 (litsOf Proofs.YtgipehooceecpaaGreatDoor.Rows.laid_math_bits_deBruijn32tab)
 let h7 := put h6 8 (litsOf Proofs.YtgipehooceecpaaGreatDoor.Rows.laid_math_bits_deBruijn64tab)
 { w0 with heap := h7 }
theorem laid_met (os : Os) (args : Array Value) : laidMet Tryz.prog laidL ((laidWorld os).forCall (fun _ _ => 0) ⟨#[], args, []⟩).memory :=
 laidMet_of_run' 8 (by kernel_rfl) (by kernel_rfl)
set_option maxRecDepth 100000
set_option maxHeartbeats 400000
structure Cmp {α : Type} (f : α → α → Int) : Prop where
 anti : ∀ a b, f b a = - f a b
 trans : ∀ a b c, f a b < 0 → f b c < 0 → f a c < 0
 cong : ∀ a b c, f a b = 0 → f b c = f a c
def lexN {α : Type} (f g : α → α → Int) (a b : α) : Int := if f a b = 0 then g a b else f a b
theorem Cmp.on {α β : Type} {f : α → α → Int} (hf : Cmp f) (k : β → α) : Cmp (fun a b => f (k a) (k b)) :=
 ⟨fun a b => hf.anti _ _, fun a b c => hf.trans _ _ _, fun a b c => hf.cong _ _ _⟩
theorem cmpI_anti (a b : Int) : cmpI b a = - cmpI a b := by
 unfold cmpI
 rcases Int.lt_trichotomy a b with h | h | h
 ·rw [if_neg (by omega), if_pos h, if_pos h]; rfl
 ·subst h; simp
 ·rw [if_pos h, if_neg (by omega), if_pos h]
theorem cmpI_neg {a b : Int} : cmpI a b < 0 ↔ a < b := by
 unfold cmpI
 rcases Int.lt_trichotomy a b with h | h | h
 ·rw [if_pos h]; exact ⟨fun _ => h, fun _ => by decide⟩
 ·rw [if_neg (by omega), if_neg (by omega)]; exact ⟨fun h => by omega, fun h => by omega⟩
 ·rw [if_neg (by omega), if_pos h]; exact ⟨fun h => by omega, fun h => by omega⟩
theorem cmpI_zero {a b : Int} : cmpI a b = 0 ↔ a = b := by
 unfold cmpI
 rcases Int.lt_trichotomy a b with h | h | h
 ·rw [if_pos h]; exact ⟨fun h => by omega, fun h => by omega⟩
 ·rw [if_neg (by omega), if_neg (by omega)]; exact ⟨fun _ => h, fun _ => rfl⟩
 ·rw [if_neg (by omega), if_pos h]; exact ⟨fun h => by omega, fun h => by omega⟩
theorem cmpB_neg {a b : Bs} : cmpB a b < 0 ↔ ltB a b = true := by
 unfold cmpB
 by_cases h : ltB a b = true
 ·rw [if_pos h]; exact ⟨fun _ => h, fun _ => by decide⟩
 ·rw [if_neg h]
  split
  ·exact ⟨fun h => by omega, fun e => absurd e h⟩
  ·exact ⟨fun h => by omega, fun e => absurd e h⟩
def clsP (a : Bs) : Int := if numP (bsL a) = true then 0 else 1
def numK (a : Bs) : Int := if numP (bsL a) = true then atoiN (bsL a) else 0
def txtK (a : Bs) : Bs := if numP (bsL a) = true then ⟨#[]⟩ else a
def lastP (a : Bs) : Int := if a = ⟨#[]⟩ then 1 else 0
def rowsP (a : Bs) : List Bs := if a = ⟨#[]⟩ then [] else strs (spl (bsL a))
def verL : Ver → Ver → Int := lexN (fun a b => cmpI a.maj b.maj) (lexN (fun a b => cmpI a.min b.min) (lexN (fun a b => cmpI a.pat b.pat) (lexN (fun a b => cmpI (lastP a.pre) (lastP b.pre)) (fun a b => rowsN (rowsP a.pre) (rowsP b.pre)))))
def manL : Man → Man → Int := lexN (fun a b => cmpB a.name b.name) (fun a b => verL a.ver b.ver)
-- bounds
theorem bigR_sz {r : Rg} (h : bigR r = false) : r.length ≤ 20 ∧ (∀ l ∈ r, l.length ≤ 20 ∧ ∀ b ∈ l, b.ver.pre.size ≤ 300) := by
 simp only [bigR, Bool.or_eq_false_iff, decide_eq_false_iff_not, List.any_eq_false] at h
 refine ⟨by omega, fun l hl => ?_⟩
 have h2 : bigA l = false := by simpa using h.2 l hl
 simp only [bigA, Bool.or_eq_false_iff, decide_eq_false_iff_not, List.any_eq_false] at h2
 exact ⟨by omega, fun b hb => by
  have h3 : bigB b = false := by simpa using h2.2 b hb
  simp only [bigB, decide_eq_false_iff_not] at h3
  omega⟩
theorem bigR_rsz {r : Rg} (h : bigR r = false) : Rg.sz r := by
 obtain ⟨h1, h2⟩ := bigR_sz h
 exact ⟨by omega, fun l hl => ⟨by have := (h2 l hl).1; omega, fun b hb => by have := (h2 l hl).2 b hb; omega⟩⟩
theorem bigM_dsz {m : Man} (h : bigM m = false) : m.name.size ≤ 300 ∧ m.ver.pre.size ≤ 300 ∧ (m.deps.length ≤ 40 ∧ ∀ d ∈ m.deps, d.name.size ≤ 300 ∧ bigR d.range = false) ∧ (m.rules.length ≤ 40 ∧ ∀ d ∈ m.rules, d.name.size ≤ 300 ∧ bigR d.range = false) := by
 simp only [bigM, Bool.or_eq_false_iff, decide_eq_false_iff_not, List.any_eq_false] at h
 obtain ⟨⟨⟨⟨⟨h1, h2⟩, h3⟩, h4⟩, h5⟩, h6⟩ := h
 refine ⟨by omega, by omega, ⟨by omega, fun d hd => ?_⟩, by omega, fun d hd => ?_⟩
 ·have := h5 d hd
  simp only [bigD, Bool.or_eq_true, decide_eq_true_eq, not_or, Bool.not_eq_true] at this
  exact ⟨by omega, this.2⟩
 ·have := h6 d hd
  simp only [bigU, Bool.or_eq_true, decide_eq_true_eq, not_or, Bool.not_eq_true] at this
  exact ⟨by omega, this.2⟩
theorem bigM_sz {m : Man} (h : bigM m = false) : Man.sz m := by
 obtain ⟨h1, h2, ⟨h3, h4⟩, h5, h6⟩ := bigM_dsz h
 exact ⟨by omega, by omega, ⟨by omega, fun d hd => ⟨by have := (h4 d hd).1; omega, bigR_rsz (h4 d hd).2⟩⟩, by omega, fun d hd => ⟨by have := (h6 d hd).1; omega, bigR_rsz (h6 d hd).2⟩⟩
theorem bigT_len {t : List Pl} (h : bigT t = false) : t.length ≤ 210 ∧ (t.length ≤ 40 ∨ 200 < t.length) ∧ ∀ p ∈ t, p.name.size ≤ 300 ∧ p.ver.pre.size ≤ 300 := by
 simp only [bigT, Bool.or_eq_false_iff, decide_eq_false_iff_not, List.any_eq_false] at h
 refine ⟨by omega, by omega, fun p hp => ?_⟩
 have := h.2 p hp
 simp only [bigP, bigV, Bool.or_eq_true, decide_eq_true_eq, not_or] at this
 exact ⟨by omega, by omega⟩
theorem bigT_ok {t : List Pl} (h : bigT t = false) : OKs t := by
 obtain ⟨h1, _, h3⟩ := bigT_len h
 exact ⟨by omega, fun p hp => by have := h3 p hp; omega⟩
theorem bigI_sz {L : List Man} (h : bigI L = false) : L.length ≤ 110 ∧ ∀ m ∈ L, bigM m = false := by
 simp only [bigI, Bool.or_eq_false_iff, decide_eq_false_iff_not, List.any_eq_false] at h
 exact ⟨by omega, fun m hm => by simpa using h.2 m hm⟩
set_option maxRecDepth 100000
set_option maxHeartbeats 400000
theorem bigM_okS {m : Man} (h : bigM m = false) : Man.okS m := by
 obtain ⟨h1, h2, ⟨h3, h4⟩, h5, h6⟩ := bigM_dsz h
 refine ⟨⟨by omega, fun d hd => ?_⟩, by omega, fun d hd => ?_⟩
 ·obtain ⟨a, b⟩ := h4 d hd
  obtain ⟨c, e⟩ := bigR_sz b
  exact ⟨by omega, by omega, fun l hl => by have := (e l hl).1; omega⟩
 ·obtain ⟨a, b⟩ := h6 d hd
  obtain ⟨c, e⟩ := bigR_sz b
  exact ⟨by omega, fun l hl => by have := (e l hl).1; omega⟩
theorem bigW_sz {root : Man} {L : List Man} {t : List Pl} (h : bigW root L t = false) : bigM root = false ∧ bigI L = false ∧ bigT t = false := by
 simpa [bigW] using h
theorem valSz_of {root : Man} {L : List Man} {t : List Pl} (h1 : bigM root = false) (h2 : bigI L = false) (h3 : bigT t = false) : ValSz root L t := by
 obtain ⟨a, b⟩ := bigI_sz h2
 obtain ⟨c, _, d⟩ := bigT_len h3
 exact ⟨bigM_sz h1, bigM_okS h1, ⟨by omega, fun m hm => bigM_sz (b m hm)⟩, fun m hm => bigM_okS (b m hm), bigT_ok h3, fun p hp => by have := d p hp; omega⟩
theorem codeV_zero {root : Man} {L : List Man} {t : List Pl} : codeV root L t = 0 ↔ manCheck root true = 0 ∧ idxCheck L = 0 ∧ checkN t = 0 := by
 simp only [codeV, valCodes, orN]
 constructor
 ·intro h
  split at h
  ·split at h
   ·split at h
    ·exact ⟨by assumption, by assumption, by assumption⟩
    ·exact absurd h (by assumption)
   ·exact absurd h (by assumption)
  ·exact absurd h (by assumption)
 ·rintro ⟨h1, h2, h3⟩
  rw [if_pos h1, if_pos h2, if_pos h3]
-- Names
def namedT (t : List Pl) (m : Man) : Bool := t.any fun p => decide (p.name = m.name)
-- Alone
theorem check_root : checkN [rootP] = 0 := by decide +kernel
theorem alone_to (d : Dep) : toN [rootP] 0 d = -1 := by
 unfold toN
 rw [if_neg (by simp), if_neg (by simp)]
 have g := check_iff.1 check_root
 refine res_root g (i := 0) (by simp) ?_ (by decide)
 rw [chF_none]
 intro k hk h1 h2
 have : k = 0 := by simpa using hk
 subst this
 exact absurd h1 (by decide)
theorem alone_holds (d : Dep) : holdsV [rootP] 0 d = decide (d.kind = 3) := by
 have : holdsF [rootP] 0 = true := by decide +kernel
 rw [holdsV, if_pos this, alone_to, if_pos (by decide)]
theorem alone_below : belowL [rootP] 0 = [0] := by decide +kernel
theorem alone_plain {root : Man} {L : List Man} (h1 : manCheck root true = 0) (h2 : idxCheck L = 0) : validN root L [rootP] = (ofF root.deps root.rules true).all fun d => decide (d.kind = 3) := by
 have hc : codeV root L [rootP] = 0 := codeV_zero.2 ⟨h1, h2, check_root⟩
 have hh : holdsF [rootP] 0 = true := by decide +kernel
 have hf : fineV root L [rootP] 0 = (ofF root.deps root.rules true).all fun d => decide (d.kind = 3) := by
  simp only [fineV, manVal, if_pos hh, if_true, decide_true]
  congr 1
  funext d; exact alone_holds d
 rw [validN, hc, wrongL, alone_below]
 simp only [List.filter, hf]
 cases (ofF root.deps root.rules true).all fun d => decide (d.kind = 3) <;> rfl
-- Each
theorem below_all {t : List Pl} {n : Nat} (g : Good t) (hn : n < t.length) : (n : Int) ∈ belowL t 0 := by
 have h := below_mem (i := 0) g (by omega) hn
 have hu : underF t n 0 = true := by
  have : ∀ (m : Nat) (j : Nat), j < m → j < t.length → underF t j 0 = true := by
   intro m
   induction m with
   | zero => exact fun j h => by omega
   | succ m ih =>
    intro j hj hl
    unfold underF
    rw [up_step g.dn hl]
    by_cases h0 : j = 0
    ·subst h0; simp
    ·obtain ⟨p0, p1⟩ := g.par j (by omega) hl
     rw [if_neg (by omega)]
     have := ih (parN t j).toNat (by omega) (by omega)
     unfold underF at this
     rw [List.any_cons, this, Bool.or_true]
  exact this _ n (Nat.lt_succ_self n) hn
 obtain ⟨x, hx, hxe⟩ := List.any_eq_true.1 (h.trans hu)
 simp only [decide_eq_true_eq] at hxe
 rw [← hxe]; exact hx
-- Peers
set_option maxRecDepth 100000
set_option maxHeartbeats 4000000
theorem CallsOK.weakJs {P : Program} [Gl P] {f : FuncId} {xs : List AV} {r : AV} {J J' : Js} (h : CallsOK P f xs r J) (hlen : J.length = J'.length)
  (hJ : ∀ (i : Nat) e cs, J[i]? = some (e, cs) → ∃ ds, J'[i]? = some (e, ds) ∧ WkTL cs ds) : CallsOK P f xs r J' := by
 have e1 : ∀ {i : Nat} {o : AObj}, ofJ J i = some o → ∃ e cs ds, J[i]? = some (e, cs) ∧ o = .row e cs ∧ J'[i]? = some (e, ds) ∧ ofJ J' i = some (.row e ds) ∧ WkTL cs ds := by
  intro i o ho
  unfold ofJ at ho ⊢
  cases hi : J[i]? with
  | none => rw [hi] at ho; cases ho
  | some p =>
   rw [hi] at ho
   simp only [Option.map_some, Option.some.injEq] at ho
   obtain ⟨ds, h1, h2⟩ := hJ i p.1 p.2 hi
   exact ⟨p.1, p.2, ds, rfl, ho.symm, h1, by rw [h1]; rfl, h2⟩
 have e2 : ∀ {i : Nat} {o : AObj}, ofJ J' i = some o → ∃ e cs ds, o = .row e ds ∧ ofJ J i = some (.row e cs) ∧ WkTL cs ds := by
  intro i o ho
  cases hi : J[i]? with
  | none =>
   have : J'[i]? = none := by rw [List.getElem?_eq_none_iff] at hi ⊢; omega
   unfold ofJ at ho
   rw [this] at ho; cases ho
  | some p =>
   obtain ⟨ds, h1, h2⟩ := hJ i p.1 p.2 hi
   unfold ofJ at ho
   rw [h1] at ho
   simp only [Option.map_some, Option.some.injEq] at ho
   exact ⟨p.1, p.2, ds, ho.symm, by unfold ofJ; rw [hi]; rfl, h2⟩
 refine ⟨h.1, h.2.1, fun w us F hF hΓ hx => (h.2.2 w us F hF hΓ hx).mono fun en w' hh => ?_⟩
 obtain ⟨u, E', rfl, hv, hR, hEF, hb, hge⟩ := hh
 refine ⟨u, E', rfl, hv, ⟨hR.inj, fun i b hi => ?_, hR.lt, fun i o hi ha => ?_, fun i => ?_, fun b => ?_, hR.nF, hR.Flt, hR.good⟩, hEF, hb, hge⟩
 ·obtain ⟨o, h1, h2⟩ := hR.dom i b hi
  obtain ⟨e, cs, ds, _, rfl, _, h3, _⟩ := e1 h1
  exact ⟨_, h3, rfl⟩
 ·obtain ⟨e, cs, ds, rfl, h1, hw⟩ := e2 hi
  obtain ⟨hl, hat⟩ := hw.at
  rcases hR.obj i _ h1 rfl with ⟨b, hb, us', q1, q2, q3⟩ | ⟨hN, e', he⟩
  ·refine .inl ⟨b, hb, us', q1, by omega, fun j c x hc hx => ?_⟩
   have hi : j < cs.length := by rw [hl]; exact (List.getElem?_eq_some_iff.1 hc).1
   exact hat j _ c (List.getElem?_eq_getElem hi) hc _ _ _ (q3 j _ x (List.getElem?_eq_getElem hi) hx)
  ·injection he with he1 he2
   subst he2
   cases ds with
   | nil => exact .inr ⟨hN, e, rfl⟩
   | cons _ _ => simp at hl
 ·rw [hR.K i]
  exact ⟨fun ⟨o, h⟩ => by obtain ⟨e, cs, ds, _, _, _, h3, _⟩ := e1 h; exact ⟨_, h3⟩, fun ⟨o, h⟩ => by obtain ⟨e, cs, ds, _, h3, _⟩ := e2 h; exact ⟨_, h3⟩⟩
 ·rw [hR.W b]
  exact ⟨fun ⟨i, o, h1, h2, h3⟩ => by obtain ⟨e, cs, ds, _, rfl, _, h4, _⟩ := e1 h2; exact ⟨i, _, h1, h4, rfl⟩, fun ⟨i, o, h1, h2, h3⟩ => by obtain ⟨e, cs, ds, rfl, h4, _⟩ := e2 h2; exact ⟨i, _, h1, h4, rfl⟩⟩
def freeR : Rg := [[]]
def v1 : Ver := ⟨1, 0, 0, ⟨#[]⟩⟩
def v2 : Ver := ⟨2, 0, 0, ⟨#[]⟩⟩
def twoR : Rg := [[⟨5, v2⟩]]
theorem free_ok : CallsOK Tryz.prog 132 [] (.agg [.row 0 1]) [(83, flat Alt.cells freeR)] := by
 refine CallsOK.weakJ (cs := [.v (.slice none 0 0)]) ?_ (.cons .nil .nil)
 refine callsOK mixed Tryz.call132 Tryz.func132 rfl (by rw [Tryz.ntmps132]; simp) ?_ rfl
 rw [Tryz.ntmps132]
 with_reducible refine aR fun K' hK => ?_
 simp
 refine hK _ _ _ ?_; clear K' hK
 with_reducible refine aR fun K' hK => ?_
 simp
 refine hK _ _ _ ?_; clear K' hK
 with_reducible refine aw_retL ?_
 simp [blockK, loopK, Post, resA, res1, expT, expA, exp1, expM, expL, okT, okA, ok1, rowOf, Tryz.f132]
theorem two_ok : CallsOK Tryz.prog 133 [] (.agg [.row 0 1]) [(83, flat Alt.cells twoR)] := by
 refine callsOK mixed Tryz.call133 Tryz.func133 rfl (by rw [Tryz.ntmps133]; simp) ?_ rfl
 rw [Tryz.ntmps133]
 with_reducible refine aR fun K' hK => ?_
 simp
 refine hK _ _ _ ?_; clear K' hK
 with_reducible refine aR fun K' hK => ?_
 simp
 refine hK _ _ _ ?_; clear K' hK
 with_reducible refine aw_retL ?_
 simp [blockK, loopK, Post, resA, res1, expT, expA, exp1, expM, expL, okT, okA, ok1, rowOf, Tryz.f133]
 rfl
set_option maxRecDepth 100000
set_option maxHeartbeats 4000000
def nA : Bs := ⟨#[97]⟩
def nB : Bs := ⟨#[98]⟩
def nC : Bs := ⟨#[99]⟩
def smallRoot : Man := ⟨⟨#[]⟩, ⟨0, 0, 0, ⟨#[]⟩⟩, [⟨1, nA, freeR⟩, ⟨3, nB, twoR⟩], []⟩
def smallX : List Man := [⟨nA, v1, [⟨4, nC, freeR⟩], []⟩, ⟨nC, v1, [], []⟩]
def gT1 : List Pl := [rootP, ⟨0, nA, v1⟩]
def gT2 : List Pl := [rootP, ⟨0, nA, v1⟩, ⟨0, nC, v1⟩]
def gT3 : List Pl := [rootP, ⟨0, nA, v1⟩, ⟨0, nC, v1⟩, ⟨0, nB, v1⟩]
theorem g_code1 : codeV smallRoot smallX gT1 = 0 := by decide +kernel
theorem g_code2 : codeV smallRoot smallX gT2 = 0 := by decide +kernel
theorem g_code3 : codeV smallRoot smallX gT3 = 0 := by decide +kernel
theorem g_code0 : codeV smallRoot smallX [] = 150 := by decide +kernel
theorem fine_at {root : Man} {L : List Man} {t : List Pl} {i : Int} {m : Man} {E : List Dep} (hm : manVal root L t i = some m) (ho : ofF m.deps root.rules (decide (i = 0)) = E) : fineV root L t i = E.all (holdsV t i) := by
 unfold fineV
 rw [hm]
 simp only [ho]
theorem of_small {ds : List Dep} {b : Bool} {S : List Bs} {E : List Dep} (h1 : namesOf (byM b ds) = S) (h2 : S.Pairwise leB') (h3 : (S.map fun n => edgeOf [] (findD (byM b ds) n)) = E) : ofF ds [] b = E := by
 unfold ofF
 rw [h1, sortN_self h2, h3]
instance (a b : Bs) : Decidable (leB' a b) := by unfold leB'; infer_instance
theorem of_r : ofF smallRoot.deps smallRoot.rules true = smallRoot.deps := of_small (S := [nA, nB]) (by decide +kernel) (by decide +kernel) (by decide +kernel)
theorem of_a : ofF [⟨4, nC, freeR⟩] smallRoot.rules false = [⟨4, nC, freeR⟩] := of_small (S := [nC]) (by decide +kernel) (by decide +kernel) (by decide +kernel)
theorem of_c : ofF [] smallRoot.rules false = [] := of_small (S := []) (by decide +kernel) (by decide +kernel) (by decide +kernel)
theorem g_f0 {t : List Pl} (h : holdsF t 0 = true) : fineV smallRoot smallX t 0 = smallRoot.deps.all (holdsV t 0) := fine_at (m := smallRoot) (by rw [manVal, if_pos h, if_pos rfl]) of_r
theorem g_f1 {t : List Pl} {i : Int} (h : manVal smallRoot smallX t i = some ⟨nA, v1, [⟨4, nC, freeR⟩], []⟩) (hi : decide (i = 0) = false) : fineV smallRoot smallX t i = [(⟨4, nC, freeR⟩ : Dep)].all (holdsV t i) := fine_at h (by rw [hi]; exact of_a)
theorem g_f2 {t : List Pl} {i : Int} (h : manVal smallRoot smallX t i = some ⟨nC, v1, [], []⟩) (hi : decide (i = 0) = false) : fineV smallRoot smallX t i = true := fine_at (E := []) h (by rw [hi]; exact of_c)
theorem g_fine {t : List Pl} {bl : List Int} {W : List Int} (hb : belowL t 0 = bl) (h : (bl.filter fun i => !fineV smallRoot smallX t i) = W) : wrongL smallRoot smallX t = W := by rw [wrongL, hb, h]
theorem g_wrong1 : wrongL smallRoot smallX gT1 = [1] := by
 have f0 : fineV smallRoot smallX gT1 0 = true := (g_f0 (by decide +kernel)).trans (by decide +kernel)
 have f1 : fineV smallRoot smallX gT1 1 = false := (g_f1 (by decide +kernel) (by decide)).trans (by decide +kernel)
 exact g_fine (bl := [0, 1]) (by decide +kernel) (by simp [f0, f1])
theorem g_wrong2 : wrongL smallRoot smallX gT2 = [] := by
 have f0 : fineV smallRoot smallX gT2 0 = true := (g_f0 (by decide +kernel)).trans (by decide +kernel)
 have f1 : fineV smallRoot smallX gT2 1 = true := (g_f1 (by decide +kernel) (by decide)).trans (by decide +kernel)
 have f2 : fineV smallRoot smallX gT2 2 = true := g_f2 (by decide +kernel) (by decide)
 exact g_fine (bl := [0, 1, 2]) (by decide +kernel) (by simp [f0, f1, f2])
theorem g_wrong3 : wrongL smallRoot smallX gT3 = [0, 3] := by
 have f0 : fineV smallRoot smallX gT3 0 = false := (g_f0 (by decide +kernel)).trans (by decide +kernel)
 have f1 : fineV smallRoot smallX gT3 1 = true := (g_f1 (by decide +kernel) (by decide)).trans (by decide +kernel)
 have f2 : fineV smallRoot smallX gT3 2 = true := g_f2 (by decide +kernel) (by decide)
 have f3 : fineV smallRoot smallX gT3 3 = false := by
  have : manVal smallRoot smallX gT3 3 = none := by decide +kernel
  rw [fineV, this]
 exact g_fine (bl := [0, 1, 2, 3]) (by decide +kernel) (by simp [f0, f1, f2, f3])
theorem g_to : toN gT3 1 ⟨1, nC, []⟩ = 2 := by decide +kernel
theorem g_big : bigM smallRoot = false ∧ bigI smallX = false ∧ bigT gT1 = false ∧ bigT gT2 = false ∧ bigT gT3 = false ∧ bigT [] = false := by decide +kernel
theorem g_w1 : wrongR smallRoot smallX gT1 = (.tup [.row 0 1, iV 0], [(3, flat iC [1])]) := by
 rw [wrongR, if_pos g_code1, if_neg (by rw [g_wrong1]; simp), g_wrong1]; rfl
theorem g_w2 : wrongR smallRoot smallX gT2 = (.tup [.v (.slice none 0 0), iV 0], []) := by
 rw [wrongR, if_pos g_code2, if_pos g_wrong2]
theorem g_w3 : wrongR smallRoot smallX gT3 = (.tup [.row 0 2, iV 0], [(3, flat iC [0, 3])]) := by
 rw [wrongR, if_pos g_code3, if_neg (by rw [g_wrong3]; simp), g_wrong3]; rfl
theorem g_v2 : validN smallRoot smallX gT2 = true := by rw [validN, g_code2, g_wrong2]; rfl
theorem g_v0 : validN smallRoot smallX [] = false := by rw [validN, g_code0]; rfl
theorem g_sz1 : ValSz smallRoot smallX gT1 := valSz_of g_big.1 g_big.2.1 g_big.2.2.1
theorem g_sz2 : ValSz smallRoot smallX gT2 := valSz_of g_big.1 g_big.2.1 g_big.2.2.2.1
theorem g_sz3 : ValSz smallRoot smallX gT3 := valSz_of g_big.1 g_big.2.1 g_big.2.2.2.2.1
theorem g_sz0 : ValSz smallRoot smallX [] := valSz_of g_big.1 g_big.2.1 g_big.2.2.2.2.2
theorem flat_rfl_x : flat Man.cells smallX = [sV nA, iV 1, iV 0, iV 0, sV ⟨#[]⟩, .sl 1 [iV 4, sV nC, .sl 1 [.sl 0 []]], .sl 0 [], sV nC, iV 1, iV 0, iV 0, sV ⟨#[]⟩, .sl 0 [], .sl 0 []] := rfl
theorem small_ok79 : CallsOK Tryz.prog 79 [] (.tup [.agg [sV ⟨#[]⟩, iV 0, iV 0, iV 0, sV ⟨#[]⟩, .row 0 2, .v (.slice none 0 0)], .row 1 2]) [(35, flat Dep.cells smallRoot.deps), (27, flat Man.cells smallX)] := by
 refine CallsOK.weakJs (J := [(35, flat Dep.cells smallRoot.deps), (27, [sV nA, iV 1, iV 0, iV 0, sV ⟨#[]⟩, .sl 1 [iV 4, sV nC, .sl 1 [.sl 0 []]], .v (.slice none 0 0), sV nC, iV 1, iV 0, iV 0, sV ⟨#[]⟩, .v (.slice none 0 0), .v (.slice none 0 0)])]) ?_ rfl ?_
 ·refine callsOK mixed Tryz.call79 Tryz.func79 rfl (by rw [Tryz.ntmps79]; simp) ?_ rfl
  rw [Tryz.ntmps79]
  with_reducible refine aR fun K' hK => ?_
  simp
  refine hK _ _ _ ?_; clear K' hK
  with_reducible refine aR fun K' hK => ?_
  simp
  refine hK _ _ _ ?_; clear K' hK
  with_reducible refine aR fun K' hK => ?_
  simp
  refine acall_new free_ok (by simp) ?_
  simp [addJ_one]
  refine acall_new two_ok (by simp) ?_
  simp [addJ_one]
  refine hK _ _ _ ?_; clear K' hK
  refine aw_regionL (some 0) [3, 2] (by decide +kernel) (by decide +kernel) (fun p' hp' => by cases hp'; exact ⟨0, 0, by simp, by simp [rootA]⟩) fun K' hK => ?_
  simp
  refine acall_new free_ok (by simp) ?_
  simp [addJ_one]
  refine hK _ _ _ ?_; clear K' hK
  with_reducible refine aw_retL ?_
  simp [blockK, loopK, Post, resA, res1, expT, expA, exp1, expM, expL, okT, okA, ok1, rowOf, Tryz.f79]
  exact ⟨rfl, rfl, ⟨rfl, rfl⟩, rfl⟩
 ·intro i e cs h
  match i with
  | 0 => simp at h; obtain ⟨rfl, rfl⟩ := h; exact ⟨_, rfl, WkTL.refl _⟩
  | 1 =>
   simp at h; obtain ⟨rfl, rfl⟩ := h
   rw [flat_rfl_x]
   exact ⟨_, rfl, .cons (.refl _) (.cons (.refl _) (.cons (.refl _) (.cons (.refl _) (.cons (.refl _) (.cons (.refl _) (.cons .nil (.cons (.refl _) (.cons (.refl _) (.cons (.refl _) (.cons (.refl _) (.cons (.refl _) (.cons .nil (.cons .nil .nil)))))))))))))⟩
  | i + 2 => simp at h
set_option maxRecDepth 100000
set_option maxHeartbeats 4000000
def smallA : List AV := [sV ⟨#[]⟩, iV 0, iV 0, iV 0, sV ⟨#[]⟩, rowT Dep.cells smallRoot.deps, .v (.slice none 0 0)]
theorem wk_small {P : Program} [Gl P] : Wk P (.agg smallA) (.agg smallRoot.cells) :=
 .agg (.cons (.refl _) (.cons (.refl _) (.cons (.refl _) (.cons (.refl _) (.cons (.refl _) (.cons (.refl _) (.cons .nilRow .nil)))))))
theorem g_wrong1_ok : CallsOK Tryz.prog 35 [.agg smallA, rowT Man.cells smallX, rowT Pl.cells gT1] (.tup [.row 0 1, iV 0]) [(3, flat iC [1])] := by
 have := wrong35_ok _ _ _ g_sz1
 rw [g_w1] at this
 exact this.weak (.cons wk_small (.cons (.refl _) (.cons (.refl _) .nil)))
theorem g_wrong2_ok : CallsOK Tryz.prog 35 [.agg smallA, rowT Man.cells smallX, rowT Pl.cells gT2] (.tup [.v (.slice none 0 0), iV 0]) [] := by
 have := wrong35_ok _ _ _ g_sz2
 rw [g_w2] at this
 exact this.weak (.cons wk_small (.cons (.refl _) (.cons (.refl _) .nil)))
theorem g_wrong3_ok : CallsOK Tryz.prog 35 [.agg smallA, rowT Man.cells smallX, rowT Pl.cells gT3] (.tup [.row 0 2, iV 0]) [(3, flat iC [0, 3])] := by
 have := wrong35_ok _ _ _ g_sz3
 rw [g_w3] at this
 exact this.weak (.cons wk_small (.cons (.refl _) (.cons (.refl _) .nil)))
theorem g_valid2_ok : CallsOK Tryz.prog 38 [.agg smallA, rowT Man.cells smallX, rowT Pl.cells gT2] (bV true) [] := by
 have := valid38_ok _ _ _ g_sz2
 rw [g_v2] at this
 exact this.weak (.cons wk_small (.cons (.refl _) (.cons (.refl _) .nil)))
theorem g_valid0_ok : CallsOK Tryz.prog 38 [.agg smallA, rowT Man.cells smallX, .v (.slice none 0 0)] (bV false) [] := by
 have := valid38_ok _ _ _ g_sz0
 rw [g_v0] at this
 exact this.weak (.cons wk_small (.cons (.refl _) (.cons .nilRow .nil)))
theorem g_to_ok : CallsOK Tryz.prog 28 [rowT Pl.cells gT3, iV 1, .agg [iV 1, sV nC, .v (.slice none 0 0)]] (iV 2) [] := by
 have := to28_ok gT3 g_sz3.2.2.2.2.1 1 ⟨1, nC, []⟩
 rw [g_to] at this
 exact this.weak (.cons (.refl _) (.cons (.refl _) (.cons (.agg (.cons (.refl _) (.cons (.refl _) (.cons .nilRow .nil)))) .nil)))
set_option maxRecDepth 100000
set_option maxHeartbeats 8000000
theorem gives26_ok : CallsOK Tryz.prog 26 [] (bV true) [] := by
 refine callsOK mixed Tryz.call26 Tryz.func26 rfl (by rw [Tryz.ntmps26]; simp) ?_ rfl
 rw [Tryz.ntmps26]
 with_reducible refine aR fun K' hK => ?_
 simp
 refine hK _ _ _ ?_; clear K' hK
 with_reducible refine aR fun K' hK => ?_
 simp
 refine acall_new small_ok79 (by simp) ?_
 simp [addJ_two]
 refine hK _ _ _ ?_; clear K' hK
 with_reducible refine aR fun K' hK => ?_
 simp
 refine hK _ _ _ ?_; clear K' hK
 with_reducible refine aR fun K' hK => ?_
 simp
 refine hK _ _ _ ?_; clear K' hK
 refine aw_gen (fun s G nx => s 1 = .ptr 2 0 ∧ s 2 = .row 1 2 ∧ s 3 = .ptr 3 0 ∧ s 4 = .row 4 2 ∧ nx = 5 ∧ G 0 = some (.row 35 (flat Dep.cells smallRoot.deps)) ∧ G 1 = some (.row 27 (flat Man.cells smallX)) ∧ G 2 = some (.var 27 [sV ⟨#[]⟩, iV 0, iV 0, iV 0, sV ⟨#[]⟩, .row 0 2, .v (.slice none 0 0)]) ∧ G 3 = some (.var 23 v1.cells) ∧ G 4 = some (.row 58 (flat Pl.cells gT1))) ?_ ?_
 ·exact ⟨by simp, by simp, by simp, by simp, by simp, by simp, by simp, by simp, by simp; rfl, by simp; rfl⟩
 rintro s G nx ⟨s1, s2, s3, s4, rfl, g0, g1, g2, g3, g4⟩
 have c35 : Tryz.prog.cellsOf 35 = 3 := by kernel_rfl
 have c27 : Tryz.prog.cellsOf 27 = 7 := by kernel_rfl
 have c58 : Tryz.prog.cellsOf 58 = 6 := by kernel_rfl
 have t0 : treeOf Tryz.prog G (.row 0 2) = some (rowT Dep.cells smallRoot.deps) := treeOf_of g0 c35 rfl
 have t1 : treeOf Tryz.prog G (.row 1 2) = some (rowT Man.cells smallX) := treeOf_of g1 c27 rfl
 have t4 : treeOf Tryz.prog G (.row 4 2) = some (rowT Pl.cells gT1) := treeOf_of g4 c58 rfl
 have sees : ∀ {x T}, treeOf Tryz.prog G x = some T → (∃ i n, x = .row i n) → seesA Tryz.prog G [.agg [sV ⟨#[]⟩, iV 0, iV 0, iV 0, sV ⟨#[]⟩, .row 0 2, .v (.slice none 0 0)], .row 1 2, x] = some [.agg smallA, rowT Man.cells smallX, T] := by
  rintro x T hx ⟨i, n, rfl⟩
  simp only [seesA, seeA, looksA, lookA, t0, t1, hx]
  rfl
 with_reducible refine aR fun K' hK => ?_
 simp [s1, s2, s4, g2]
 refine acall_keep g_wrong1_ok ⟨rfl, rfl⟩ (sees t4 ⟨_, _, rfl⟩) ?_
 simp [addJ_one]
 refine hK _ _ _ ?_; clear K' hK
 with_reducible refine aR fun K' hK => ?_
 simp [s3, s4, g3, g4, treeOf_row, srcOf_row]
 refine hK _ _ _ ?_; clear K' hK
 refine aw_gen (fun s G nx => s 1 = .ptr 2 0 ∧ s 2 = .row 1 2 ∧ s 3 = .ptr 3 0 ∧ s 4 = .row 7 3 ∧ s 5 = .row 5 1 ∧ s 6 = iV 0 ∧ nx = 8 ∧ G 0 = some (.row 35 (flat Dep.cells smallRoot.deps)) ∧ G 1 = some (.row 27 (flat Man.cells smallX)) ∧ G 2 = some (.var 27 [sV ⟨#[]⟩, iV 0, iV 0, iV 0, sV ⟨#[]⟩, .row 0 2, .v (.slice none 0 0)]) ∧ G 3 = some (.var 23 v1.cells) ∧ G 5 = some (.row 3 (flat iC [1])) ∧ G 7 = some (.row 58 (flat Pl.cells gT2))) ?_ ?_
 ·exact ⟨by simp [s1], by simp [s2], by simp [s3], by simp, by simp, by simp, by simp, by simp [g0], by simp [g1], by simp [g2], by simp [g3], by simp, by simp; rfl⟩
 clear sees t0 t1 t4 s1 s2 s3 s4 g0 g1 g2 g3 g4 s G
 rintro s G nx ⟨s1, s2, s3, s4, s5, s6, rfl, g0, g1, g2, g3, g5, g7⟩
 have t0 : treeOf Tryz.prog G (.row 0 2) = some (rowT Dep.cells smallRoot.deps) := treeOf_of g0 c35 rfl
 have t1 : treeOf Tryz.prog G (.row 1 2) = some (rowT Man.cells smallX) := treeOf_of g1 c27 rfl
 have t7 : treeOf Tryz.prog G (.row 7 3) = some (rowT Pl.cells gT2) := treeOf_of g7 c58 rfl
 have sees : seesA Tryz.prog G [.agg [sV ⟨#[]⟩, iV 0, iV 0, iV 0, sV ⟨#[]⟩, .row 0 2, .v (.slice none 0 0)], .row 1 2, .row 7 3] = some [.agg smallA, rowT Man.cells smallX, rowT Pl.cells gT2] := by
  simp only [seesA, seeA, looksA, lookA, t0, t1, t7]
  rfl
 with_reducible refine aR fun K' hK => ?_
 simp [s1, s2, s4, g2]
 refine acall_keep g_wrong2_ok ⟨rfl, rfl⟩ sees ?_
 simp [addJ_nil]
 refine hK _ _ _ ?_; clear K' hK
 with_reducible refine aR fun K' hK => ?_
 simp [s1, s2, s4, g2]
 refine acall_flat g_valid2_ok rfl sees ?_
 simp
 refine hK _ _ _ ?_; clear K' hK
 with_reducible refine aR fun K' hK => ?_
 simp [s3, s4, g3, g7, treeOf_row, srcOf_row]
 refine hK _ _ _ ?_; clear K' hK
 refine aw_gen (fun s G nx => s 1 = .ptr 2 0 ∧ s 2 = .row 1 2 ∧ s 4 = .row 9 4 ∧ s 5 = .row 5 1 ∧ s 6 = iV 0 ∧ s 7 = .v (.slice none 0 0) ∧ s 8 = iV 0 ∧ s 9 = bV true ∧ nx = 10 ∧ G 0 = some (.row 35 (flat Dep.cells smallRoot.deps)) ∧ G 1 = some (.row 27 (flat Man.cells smallX)) ∧ G 2 = some (.var 27 [sV ⟨#[]⟩, iV 0, iV 0, iV 0, sV ⟨#[]⟩, .row 0 2, .v (.slice none 0 0)]) ∧ G 5 = some (.row 3 (flat iC [1])) ∧ G 9 = some (.row 58 (flat Pl.cells gT3))) ?_ ?_
 ·exact ⟨by simp [s1], by simp [s2], by simp, by simp [s5], by simp [s6], by simp, by simp, by simp, by simp, by simp [g0], by simp [g1], by simp [g2], by simp [g5], by simp; rfl⟩
 clear sees t0 t1 t7 s1 s2 s3 s4 s5 s6 g0 g1 g2 g3 g5 g7 s G
 rintro s G nx ⟨s1, s2, s4, s5, s6, s7, s8, s9, rfl, g0, g1, g2, g5, g9⟩
 have t0 : treeOf Tryz.prog G (.row 0 2) = some (rowT Dep.cells smallRoot.deps) := treeOf_of g0 c35 rfl
 have t1 : treeOf Tryz.prog G (.row 1 2) = some (rowT Man.cells smallX) := treeOf_of g1 c27 rfl
 have t9 : treeOf Tryz.prog G (.row 9 4) = some (rowT Pl.cells gT3) := treeOf_of g9 c58 rfl
 have sees : seesA Tryz.prog G [.agg [sV ⟨#[]⟩, iV 0, iV 0, iV 0, sV ⟨#[]⟩, .row 0 2, .v (.slice none 0 0)], .row 1 2, .row 9 4] = some [.agg smallA, rowT Man.cells smallX, rowT Pl.cells gT3] := by
  simp only [seesA, seeA, looksA, lookA, t0, t1, t9]
  rfl
 with_reducible refine aR fun K' hK => ?_
 simp [s1, s2, s4, g2]
 refine acall_keep g_wrong3_ok ⟨rfl, rfl⟩ sees ?_
 simp [addJ_one]
 refine hK _ _ _ ?_; clear K' hK
 refine aw_gen (fun s G nx => s 1 = .ptr 2 0 ∧ s 2 = .row 1 2 ∧ s 4 = .row 9 4 ∧ s 5 = .row 5 1 ∧ s 6 = iV 0 ∧ s 7 = .v (.slice none 0 0) ∧ s 8 = iV 0 ∧ s 9 = bV true ∧ s 10 = .row 10 2 ∧ s 11 = iV 0 ∧ nx = 11 ∧ G 0 = some (.row 35 (flat Dep.cells smallRoot.deps)) ∧ G 1 = some (.row 27 (flat Man.cells smallX)) ∧ G 2 = some (.var 27 [sV ⟨#[]⟩, iV 0, iV 0, iV 0, sV ⟨#[]⟩, .row 0 2, .v (.slice none 0 0)]) ∧ G 5 = some (.row 3 (flat iC [1])) ∧ G 9 = some (.row 58 (flat Pl.cells gT3)) ∧ G 10 = some (.row 3 (flat iC [0, 3]))) ?_ ?_
 ·exact ⟨by simp [s1], by simp [s2], by simp [s4], by simp [s5], by simp [s6], by simp [s7], by simp [s8], by simp [s9], by simp, by simp, by simp, by simp [g0], by simp [g1], by simp [g2], by simp [g5], by simp [g9], by simp⟩
 clear sees t0 t1 t9 s1 s2 s4 s5 s6 s7 s8 s9 g0 g1 g2 g5 g9 s G
 rintro s G nx ⟨s1, s2, s4, s5, s6, s7, s8, s9, s10, s11, rfl, g0, g1, g2, g5, g9, g10⟩
 have c3 : Tryz.prog.cellsOf 3 = 1 := by kernel_rfl
 have d1 : decide (([1] : List Int) = [1]) = true := rfl
 have d2 : decide (([0, 3] : List Int) = [0, 3]) = true := rfl
 have i1 : CallsOK Tryz.prog 37 [rowT iC [1], rowT iC [1]] (bV true) [] := ints27_ok [1] [1] (by simp)
 have i2 : CallsOK Tryz.prog 37 [rowT iC [0, 3], rowT iC [0, 3]] (bV true) [] := ints27_ok [0, 3] [0, 3] (by simp)
 have r1 : ∀ {H : Hp} {i : Nat} {l : List Int}, H i = some (.row 3 (flat iC l)) → treeOf Tryz.prog H (.row i l.length) = some (rowT iC l) := fun h => treeOf_of h c3 rfl
 with_reducible refine aR fun K' hK => ?_
 refine aops_part 6 fun K2 hK2 => ?_
 simp [s5, s6]
 refine acall_flat i1 rfl ?_ ?_
 ·have q1 := r1 (H := G.upd 11 (.row 3 [iV 1])) (i := 5) (l := [1]) (by simp [g5])
  have q2 := r1 (H := G.upd 11 (.row 3 [iV 1])) (i := 11) (l := [1]) (by simp; rfl)
  simp only [seesA, seeA, lookA]
  simp only [List.length_cons, List.length_nil] at q1 q2
  rw [q1, q2]
 simp
 refine hK2 _ _ _ ?_
 clear K2 hK2
 have rng2 : [0, 1] = List.range 2 := rfl
 refine aops_part 21 fun K2 hK2 => ?_
 simp [s7, s8, s9, s10, s11, rng2]
 refine acall_flat i2 rfl ?_ ?_
 ·have q1 := r1 (H := (G.upd 11 (.row 3 [iV 1])).upd 12 (.row 3 [iV 0, iV 3])) (i := 10) (l := [0, 3]) (by simp [g10])
  have q2 := r1 (H := (G.upd 11 (.row 3 [iV 1])).upd 12 (.row 3 [iV 0, iV 3])) (i := 12) (l := [0, 3]) (by simp; rfl)
  simp only [seesA, seeA, lookA]
  simp only [List.length_cons, List.length_nil] at q1 q2
  rw [q1, q2]
 simp
 refine hK2 _ _ _ ?_
 clear K2 hK2
 have t0 : treeOf Tryz.prog ((G.upd 11 (.row 3 [iV 1])).upd 12 (.row 3 [iV 0, iV 3])) (.row 0 2) = some (rowT Dep.cells smallRoot.deps) := treeOf_of (by simp [g0]) c35 rfl
 have t1 : treeOf Tryz.prog ((G.upd 11 (.row 3 [iV 1])).upd 12 (.row 3 [iV 0, iV 3])) (.row 1 2) = some (rowT Man.cells smallX) := treeOf_of (by simp [g1]) c27 rfl
 have t9 : treeOf Tryz.prog ((G.upd 11 (.row 3 [iV 1])).upd 12 (.row 3 [iV 0, iV 3])) (.row 9 4) = some (rowT Pl.cells gT3) := treeOf_of (by simp [g9]) c58 rfl
 refine aops_part 5 fun K2 hK2 => ?_
 simp [s4]
 refine acall_flat g_to_ok rfl ?_ ?_
 ·simp only [seesA, seeA, looksA, lookA, t9]
  rfl
 simp
 refine hK2 _ _ _ ?_
 clear K2 hK2
 simp [s1, s2, g2]
 refine acall_flat g_valid0_ok rfl ?_ ?_
 ·simp only [seesA, seeA, looksA, lookA, t0, t1]
  rfl
 simp
 refine hK _ _ _ ?_; clear K' hK
 with_reducible refine aw_retL ?_
 simp [blockK, loopK, Post, resA, res1, expT, expA, exp1, expM, expL, okT, okA, ok1, rowOf, Tryz.f26]
set_option maxRecDepth 100000
set_option maxHeartbeats 4000000
theorem any_nall {α : Type} (p : α → Bool) : ∀ l : List α, (l.any fun x => !p x) = !l.all p
 | [] => rfl
 | a :: l => by simp only [List.any_cons, List.all_cons, any_nall p l, Bool.not_and]
set_option maxRecDepth 100000
set_option maxHeartbeats 4000000
def RowG {α : Type} (c : α → List AV) (e : TypeId) (N : Nat) (G : Hp) (x : AV) (acc : List α) : Prop := (x = .v (.slice none 0 0) ∧ acc = []) ∨ ∃ r, x = .row r acc.length ∧ N ≤ r ∧ G r = some (.row e (flat c acc))
theorem CallsOK.nilRow {P : Program} [Gl P] {f : FuncId} {xs : List AV} (e : TypeId) (h : CallsOK P f xs (.agg [.v (.slice none 0 0)]) []) : CallsOK P f xs (.agg [.row 0 0]) [(e, [])] := by
 refine ⟨rfl, h.2.1, fun w us F hF hΓ hx => (h.2.2 w us F hF hΓ hx).mono fun en w' hh => ?_⟩
 obtain ⟨u, E', rfl, hv, hR, hEF, hb, hge⟩ := hh
 have hφ : ∀ i, E'.φ i = none := fun i => by
  cases h : E'.φ i with
  | none => rfl
  | some b => obtain ⟨o, ho, _⟩ := hR.dom i b h; simp [ofJ] at ho
 have h0 : ∀ {i : Nat} {o : AObj}, ofJ [(e, [])] i = some o ↔ i = 0 ∧ o = .row e [] := ofJ1
 obtain ⟨vs, rfl, hl, hvs, h1⟩ := hv.agg_inv
 obtain ⟨y, rfl⟩ : ∃ y, vs = [y] := by
  cases vs with
  | nil => simp at hl
  | cons y ys => cases ys with
   | nil => exact ⟨y, rfl⟩
   | cons _ _ => simp at hl
 obtain ⟨rfl, _⟩ := (hvs 0 _ _ rfl rfl).v_inv
 refine ⟨_, { E' with K := fun i => i = 0, N := fun i => i = 0 }, rfl, .agg rfl (fun i c x hc hx => ?_) h1, ⟨fun i j b hi => by rw [show E'.φ i = _ from hi] at *; have := hφ i; simp_all, fun i b hi => by have := hφ i; simp_all, fun i b hi => by have := hφ i; simp_all, fun i o ho ha => ?_, fun i => ?_, fun b => ?_, fun i b hi => by have := hφ i; simp_all, hR.Flt, hR.good⟩, hEF, hb, fun i b hi => by have := hφ i; simp_all⟩
 ·cases i with
  | zero =>
   simp only [List.getElem?_cons_zero, Option.some.injEq] at hc hx
   subst hc; subst hx
   exact .row rfl rfl (fun b hb => by have := hφ 0; simp_all) (fun _ => ⟨rfl, rfl⟩)
  | succ i => simp at hc
 ·obtain ⟨rfl, rfl⟩ := h0.1 ho
  exact .inr ⟨rfl, e, rfl⟩
 ·constructor
  ·intro h; exact ⟨_, h0.2 ⟨h, rfl⟩⟩
  ·rintro ⟨o, ho⟩; exact (h0.1 ho).1
 ·constructor
  ·intro h
   obtain ⟨i, o, h1, _⟩ := (hR.W b).1 h
   have := hφ i; simp_all
  ·rintro ⟨i, o, h1, _⟩
   have := hφ i; simp_all
theorem own86_nil : CallsOK Tryz.prog 86 [.agg (Rg.cells [])] (.agg [.v (.slice none 0 0)]) [] := by
 refine callsOK mixed Tryz.call86 Tryz.func86 rfl (by rw [Tryz.ntmps86]; simp) ?_ rfl
 rw [Tryz.ntmps86]
 with_reducible refine aR fun K' hK => ?_
 simp [Rg.cells]
 refine hK _ _ _ ?_; clear K' hK
 with_reducible refine aR fun K' hK => ?_
 simp
 refine hK _ _ _ ?_; clear K' hK
 with_reducible refine aA ?_
 with_reducible refine aR fun K' hK => ?_
 simp
 refine hK _ _ _ ?_; clear K' hK
 with_reducible refine aw_block ?_
 refine aw_loop (fun s G nx => s 1 = .ptr 0 0 ∧ s 2 = .ptr 1 0 ∧ s 3 = .ptr 2 0 ∧ G 0 = some (.var 33 [rowT Alt.cells []]) ∧ G 1 = some (.var 33 [.v (.slice none 0 0)]) ∧ G 2 = some (.var 33 [.v (.slice none 0 0)]) ∧ s 4 = iV 0) (fun s _ _ => 0) ?_ ?_
 ·exact ⟨by simp, by simp, by simp, by simp, by simp, by simp, by simp⟩
 ·rintro s G nx hf ⟨s1, s2, s3, g0, g1, g2, s4⟩
  with_reducible refine aA ?_
  with_reducible refine aR fun K' hK => ?_
  simp [s1, s4, g0]
  refine hK _ _ _ ?_; clear K' hK
  with_reducible refine aY (by simp) ?_
  with_reducible refine aw_exit ?_
  refine loopK_exit (blockK_exit ?_)
  with_reducible refine aR fun K' hK => ?_
  simp [s2, s3, g1, g2]
  refine hK _ _ _ ?_; clear K' hK
  with_reducible refine aw_retL ?_
  simp [blockK, loopK, Post, resA, res1, expT, expA, exp1, expM, expL, okT, okA, ok1, rowOf, Tryz.f86, s2]
theorem own86_cons (r : Rg) (hne : r ≠ []) (hr : r.length < 1000000000000 ∧ ∀ l ∈ r, l.length < 1000000000000) : CallsOK Tryz.prog 86 [.agg r.cells] (.agg [.row 0 r.length]) [(83, flat Alt.cells r)] := by
 refine callsOK mixed Tryz.call86 Tryz.func86 rfl (by rw [Tryz.ntmps86]; simp) ?_ rfl
 rw [Tryz.ntmps86]
 have hl := hr.1
 with_reducible refine aR fun K' hK => ?_
 simp [Rg.cells]
 refine hK _ _ _ ?_; clear K' hK
 with_reducible refine aR fun K' hK => ?_
 simp
 refine hK _ _ _ ?_; clear K' hK
 with_reducible refine aA ?_
 with_reducible refine aR fun K' hK => ?_
 simp
 refine hK _ _ _ ?_; clear K' hK
 with_reducible refine aw_block ?_
 refine aw_loop (fun s G nx => 3 ≤ nx ∧ s 1 = .ptr 0 0 ∧ s 2 = .ptr 1 0 ∧ s 3 = .ptr 2 0 ∧ G 0 = some (.var 33 [rowT Alt.cells r]) ∧ G 1 = some (.var 33 [.v (.slice none 0 0)]) ∧ ∃ (i : Nat) (x : AV), s 4 = iV i ∧ i ≤ r.length ∧ G 2 = some (.var 33 [x]) ∧ RowG Alt.cells 83 3 G x (r.take i)) (fun s _ _ => match s 4 with | .v (.int _ n) => r.length - n.toNat | _ => 0) ?_ ?_
 ·exact ⟨by omega, by simp, by simp, by simp, by simp, by simp, 0, _, by simp, by omega, by simp, .inl ⟨rfl, by simp⟩⟩
 ·rintro s G nx hf ⟨hnx, s1, s2, s3, g0, g1, i, x, s4, hi, g2, hx⟩
  have o4 := s4
  have hw : IntKind.i64.wrap (↑i + 1) = ((i + 1 : Nat) : Int) := wrapS (by omega)
  with_reducible refine aA ?_
  with_reducible refine aR fun K' hK => ?_
  simp [s1, s4, g0]
  refine hK _ _ _ ?_; clear K' hK
  with_reducible refine aC fun A B hA hB => ?_
  simp
  refine ⟨fun hi2 => hA ?_, fun hi2 => hB ?_⟩ <;> clear hA hB A B <;> (try simp at hi2) <;> (try with_reducible refine aK ?_)
  ·have hA := hr.2 _ (nth_mem hi2)
   have hst : r.take (i + 1) = r.take i ++ [nth r i] := by rw [List.take_add_one, List.getElem?_eq_getElem hi2, ← nth_eq hi2]; rfl
   have htl : (r.take i).length = i := by rw [List.length_take]; omega
   generalize hgl : nth r i = l at *
   have b1 : l.length ≤ 9223372036854775807 := by omega
   have b2 : l.length * 48 ≤ 140737488355328 := by omega
   have b3 : i + 1 ≤ 9223372036854775807 := by omega
   have b4 : (i + 1) * 24 ≤ 140737488355328 := by omega
   have hfl : (flat Bd.cells l).length = l.length * 5 := flat_len
   with_reducible refine aw_block ?_
   with_reducible refine aR fun K' hK => ?_
   simp
   refine hK _ _ _ ?_; clear K' hK
   have n0 : ¬ 0 = nx := by omega
   have n1 : ¬ 1 = nx := by omega
   have n2 : ¬ 2 = nx := by omega
   with_reducible refine aR fun K' hK => ?_
   simp [s1, s4, g0, n0, hi2, hgl, b1, b2, hfl, treeOf_row, srcOf_row]
   refine hK _ _ _ ?_; clear K' hK
   have c87 : Tryz.prog.cellsOf 87 = 5 := by kernel_rfl
   refine aw_gen (fun u H ny => u 1 = .ptr 0 0 ∧ u 2 = .ptr 1 0 ∧ u 3 = .ptr 2 0 ∧ u 4 = iV i ∧ u 5 = .row (nx + 1) l.length ∧ ny = nx + 2 ∧ (∀ k, k < nx → H k = G k) ∧ H (nx + 1) = some (.row 87 (flat Bd.cells l))) ?_ ?_
   ·exact ⟨by simp [s1], by simp [s2], by simp [s3], by simp [s4], by simp, by omega, fun k hk => by repeat rw [Hp.upd_ne _ _ (by omega)], by simp⟩
   rintro u H ny ⟨u1, u2, u3, u4, u5, rfl, hH, hr5⟩
   have h0 : H 0 = some (.var 33 [rowT Alt.cells r]) := by rw [hH 0 (by omega)]; exact g0
   have h1 : H 1 = some (.var 33 [.v (.slice none 0 0)]) := by rw [hH 1 (by omega)]; exact g1
   have h2 : H 2 = some (.var 33 [x]) := by rw [hH 2 (by omega)]; exact g2
   have hT : treeOf Tryz.prog H (.row (nx + 1) l.length) = some (rowT Bd.cells l) := treeOf_of hr5 c87 rfl
   have m0 : ¬ 0 = nx + 1 := by omega
   have z0 : ¬ nx = 0 := by omega
   have z1 : ¬ nx = 1 := by omega
   have w1 : (frzOf H (.row (nx + 1) l.length)) 1 = H 1 := frzOf_ne (by omega)
   have w0 : (frzOf H (.row (nx + 1) l.length)) 0 = H 0 := frzOf_ne (by omega)
   have m1 : ¬ 1 = nx + 1 := by omega
   have m2 : ¬ 2 = nx + 1 := by omega
   have m3 : ¬ 2 = nx + 2 := by omega
   have m4 : ¬ 0 = nx + 2 := by omega
   have m5 : ¬ 1 = nx + 2 := by omega
   have m6 : ¬ 2 = nx + 2 + 1 := by omega
   have m7 : ¬ 0 = nx + 2 + 1 := by omega
   have m8 : ¬ 1 = nx + 2 + 1 := by omega
   rcases hx with ⟨rfl, hnil⟩ | ⟨q, rfl, hq, hG⟩
   ·rw [hnil] at htl hst
    have hi0 : i = 0 := by simpa using htl.symm
    with_reducible refine aS fun K' hK => ?_
    simp [u3, u5, h2, hT, m2, m3, z0, z1, b3, b4, treeOf_row, srcOf_row]
    refine hK _ _ _ ?_; clear K' hK
    with_reducible refine aw_skipL ?_
    refine blockK_normal ?_
    with_reducible refine aS fun K' hK => ?_
    simp [u4, hw]
    refine hK _ _ _ ?_; clear K' hK
    refine aw_skipL (loopK_normal ?_ ?_)
    ·exact ⟨by omega, by simp [u1], by simp [u2], by simp [u3], by simp [m0, m4, m7, h0, w0], by simp [m1, m5, m8, h1, w1], i + 1, .row (nx + 2 + 1) 1, by simp [hw], by omega, by simp [m6], .inr ⟨nx + 2 + 1, by rw [hst]; rfl, by omega, by rw [hst]; simp; rfl⟩⟩
    ·simp [o4, hw, u4]; omega
   ·have hqn : q < nx := fresh_lt hf hG
    have hHq : H q = some (.row 83 (flat Alt.cells (r.take i))) := by rw [hH q hqn]; exact hG
    have k1 : ¬ q = nx + 1 := by omega
    have k2 : ¬ q = nx + 2 := by omega
    have k3 : ¬ nx + 2 = q := by omega
    have k4 : ¬ q = 2 := by omega
    have k5 : ¬ 2 = q := by omega
    have k6 : ¬ 0 = q := by omega
    have k7 : ¬ 1 = q := by omega
    have htl' : min i r.length = i := by omega
    with_reducible refine aS fun K' hK => ?_
    simp [htl', u3, u5, h2, hT, m2, m3, z0, z1, b3, b4, k1, k2, k3, k4, k5, hHq, treeOf_row, srcOf_row]
    refine hK _ _ _ ?_; clear K' hK
    with_reducible refine aw_skipL ?_
    refine blockK_normal ?_
    with_reducible refine aS fun K' hK => ?_
    simp [u4, hw]
    refine hK _ _ _ ?_; clear K' hK
    refine aw_skipL (loopK_normal ?_ ?_)
    ·exact ⟨by omega, by simp [u1], by simp [u2], by simp [u3], by simp [m0, m4, m7, h0, k6, w0], by simp [m1, m5, m8, h1, k7, w1], i + 1, .row (nx + 2 + 1) (i + 1), by simp [hw], by omega, by simp [m6], .inr ⟨nx + 2 + 1, by rw [hst, List.length_append, htl]; rfl, by omega, by rw [hst, ← flat_snoc]; simp; rfl⟩⟩
    ·simp [o4, hw, u4]; omega
  ·skip
   with_reducible refine aw_exit ?_
   refine loopK_exit (blockK_exit ?_)
   rw [List.take_of_length_le (by omega)] at hx
   rcases hx with ⟨rfl, rfl⟩ | ⟨q, rfl, hq, hG⟩
   ·exact absurd rfl hne
   ·have k1 : ¬ q = 1 := by omega
    with_reducible refine aR fun K' hK => ?_
    simp [s2, s3, g1, g2]
    refine hK _ _ _ ?_; clear K' hK
    with_reducible refine aw_retL ?_
    simp [blockK, loopK, Post, resA, res1, expT, expA, exp1, expM, expL, okT, okA, ok1, rowOf, Tryz.f86, k1, hG, s2]
theorem own86_ok (r : Rg) (hr : r.length < 1000000000000 ∧ ∀ l ∈ r, l.length < 1000000000000) : CallsOK Tryz.prog 86 [.agg r.cells] (.agg [.row 0 r.length]) [(83, flat Alt.cells r)] := by
 by_cases h : r = []
 ·subst h; exact own86_nil.nilRow 83
 ·exact own86_cons r h hr
set_option maxRecDepth 100000
set_option maxHeartbeats 4000000
theorem own34_ok (m : Man) (hm : Man.okS m) : CallsOK Tryz.prog 34 [.agg m.cells] (.agg (m.cellsR (.row 0 m.deps.length) (.row 1 m.rules.length))) [(35, flat Dep.cells m.deps), (96, flat Ru.cells m.rules)] := by
 refine callsOK mixed Tryz.call34 Tryz.func34 rfl (by rw [Tryz.ntmps34]; simp) ?_ rfl
 rw [Tryz.ntmps34]
 obtain ⟨⟨hdl, hdd⟩, hrl, hrr⟩ := hm
 have c83 : Tryz.prog.cellsOf 83 = 1 := by kernel_rfl
 with_reducible refine aR fun K' hK => ?_
 simp
 refine hK _ _ _ ?_; clear K' hK
 with_reducible refine aR fun K' hK => ?_
 simp
 refine hK _ _ _ ?_; clear K' hK
 with_reducible refine aA ?_
 with_reducible refine aw_un ?_
 refine aw_cut (fun s G nx => 2 ≤ nx ∧ s 1 = .ptr 0 0 ∧ s 2 = .ptr 1 0 ∧ G 0 = some (.var 27 m.cells) ∧ G 1 = some (.var 27 manN) ∧ ∃ q, s 3 = .row q m.deps.length ∧ 2 ≤ q ∧ q < nx ∧ G q = some (.row 35 (flat Dep.cells m.deps))) ?_ ?_
 ·skip
  with_reducible refine aR fun K' hK => ?_
  simp
  refine hK _ _ _ ?_; clear K' hK
  with_reducible refine aw_toS (aw_block ?_)
  refine aw_loop (fun s G nx => s 1 = .ptr 0 0 ∧ s 2 = .ptr 1 0 ∧ G 0 = some (.var 27 m.cells) ∧ G 1 = some (.var 27 manN) ∧ ∃ i q : Nat, s 4 = iV i ∧ i ≤ m.deps.length ∧ s 3 = .row q i ∧ 2 ≤ q ∧ G q = some (.row 35 (flat Dep.cells (m.deps.take i)))) (fun s _ _ => match s 4 with | .v (.int _ n) => m.deps.length - n.toNat | _ => 0) ?_ ?_
  ·exact ⟨by simp, by simp, by simp, by simp, 0, 2, by simp, by omega, by simp, by omega, by simp⟩
  ·rintro s G nx hf ⟨s1, s2, g0, g1, i, q, s4, hi, s3, hq, hG⟩
   have o4 := s4
   have hw : IntKind.i64.wrap (↑i + 1) = ((i + 1 : Nat) : Int) := wrapS (by omega)
   with_reducible refine aA ?_
   with_reducible refine aR fun K' hK => ?_
   simp [s1, s4, g0]
   refine hK _ _ _ ?_; clear K' hK
   with_reducible refine aC fun A B hA hB => ?_
   simp
   refine ⟨fun hi2 => hA ?_, fun hi2 => hB ?_⟩ <;> clear hA hB A B <;> (try simp at hi2) <;> (try with_reducible refine aK ?_)
   ·have hst : m.deps.take (i + 1) = m.deps.take i ++ [nth m.deps i] := by rw [List.take_add_one, List.getElem?_eq_getElem hi2, ← nth_eq hi2]; rfl
    have hdr := (hdd _ (nth_mem hi2)).2
    have hqn : q < nx := fresh_lt hf hG
    have htl : min i m.deps.length = i := by omega
    have b1 : i + 1 ≤ 9223372036854775807 := by omega
    have b2 : (i + 1) * 48 ≤ 140737488355328 := by omega
    generalize hgd : nth m.deps i = d at *
    have hT : ∀ H : Hp, H nx = some (.row 83 (flat Alt.cells d.range)) → treeOf Tryz.prog H (.row nx d.range.length) = some (rowT Alt.cells d.range) := fun H h => treeOf_of h c83 rfl
    have hT1 := hT (G.upd nx (.row 83 (flat Alt.cells d.range))) (by simp)
    have n0 : ¬ 0 = nx := by omega
    have n1 : ¬ 1 = nx := by omega
    have n2 : ¬ q = nx := by omega
    have n3 : ¬ q = nx + 1 := by omega
    have n4 : ¬ nx + 1 = q := by omega
    have n5 : ¬ 0 = nx + 1 := by omega
    have n6 : ¬ 1 = nx + 1 := by omega
    have n7 : ¬ 0 = nx + 1 + 1 := by omega
    have n8 : ¬ 1 = nx + 1 + 1 := by omega
    have n9 : ¬ 0 = q := by omega
    have na : ¬ 1 = q := by omega
    with_reducible refine aw_block ?_
    with_reducible refine aT fun K' hK => ?_
    simp [s1, s3, s4, g0, hi2, hgd]
    refine acall_new (own86_ok d.range ⟨by omega, fun l hl => by have := hdr.2 l hl; omega⟩) (by first | rfl | (simp [Rg.cells]; done) | (simp [Rg.cells]; rfl) | (simp [Rg.cells]; exact ⟨rfl, rfl⟩)) ?_
    simp [addJ_one, Rg.cells, hT1, n2, n3, n4, hG, htl, b1, b2, treeOf_row, srcOf_row]
    have w0 : frzOf (G.upd nx (.row 83 (flat Alt.cells d.range))) (.row nx d.range.length) 0 = G 0 := by rw [frzOf_ne (by omega), Hp.upd_ne _ _ (by omega)]
    have w1 : frzOf (G.upd nx (.row 83 (flat Alt.cells d.range))) (.row nx d.range.length) 1 = G 1 := by rw [frzOf_ne (by omega), Hp.upd_ne _ _ (by omega)]
    refine hK _ _ _ ?_; clear K' hK
    with_reducible refine aw_skipL ?_
    refine blockK_normal ?_
    with_reducible refine aS fun K' hK => ?_
    simp [s4, hw]
    refine hK _ _ _ ?_; clear K' hK
    refine aw_skipL (loopK_normal ?_ ?_)
    ·exact ⟨by simp [s1], by simp [s2], by simp [n5, n7, n9, w0, g0], by simp [show ¬ nx = 0 by omega, n8, na, w1, g1], i + 1, nx + 1 + 1, by simp [hw], by omega, by simp, by omega, by rw [hst, ← flat_snoc]; simp; rfl⟩
    ·simp [o4, s4, hw]; omega
   ·skip
    with_reducible refine aw_exit ?_
    refine loopK_exit (blockK_exit ?_)
    have hie : i = m.deps.length := by omega
    subst hie
    rw [List.take_length] at hG
    have hqn : q < nx := fresh_lt hf hG
    with_reducible refine aw_end ?_
    exact ⟨by omega, by simp [s1], by simp [s2], by simp [g0], by simp [g1], q, by simp [s3], hq, hqn, hG⟩
 ·rintro s G nx ⟨hnx, s1, s2, g0, g1, q3, s3, hq3, hqn3, hG3⟩
  with_reducible refine aR fun K' hK => ?_
  simp
  refine hK _ _ _ ?_; clear K' hK
  with_reducible refine aA ?_
  with_reducible refine aw_un ?_
  refine aw_cut (fun s' G' nx' => s' 1 = .ptr 0 0 ∧ s' 2 = .ptr 1 0 ∧ G' 0 = some (.var 27 m.cells) ∧ G' 1 = some (.var 27 manN) ∧ s' 3 = .row q3 m.deps.length ∧ G' q3 = some (.row 35 (flat Dep.cells m.deps)) ∧ ∃ q, s' 5 = .row q m.rules.length ∧ 2 ≤ q ∧ G' q = some (.row 96 (flat Ru.cells m.rules))) ?_ ?_
  ·skip
   with_reducible refine aR fun K' hK => ?_
   simp
   refine hK _ _ _ ?_; clear K' hK
   with_reducible refine aw_toS (aw_block ?_)
   have n0 : ¬ 0 = nx := by omega
   have n1 : ¬ 1 = nx := by omega
   have n3 : ¬ q3 = nx := by omega
   refine aw_loop (fun s G nx => s 1 = .ptr 0 0 ∧ s 2 = .ptr 1 0 ∧ G 0 = some (.var 27 m.cells) ∧ G 1 = some (.var 27 manN) ∧ s 3 = .row q3 m.deps.length ∧ G q3 = some (.row 35 (flat Dep.cells m.deps)) ∧ ∃ i q : Nat, s 6 = iV i ∧ i ≤ m.rules.length ∧ s 5 = .row q i ∧ 2 ≤ q ∧ G q = some (.row 96 (flat Ru.cells (m.rules.take i)))) (fun s _ _ => match s 6 with | .v (.int _ n) => m.rules.length - n.toNat | _ => 0) ?_ ?_
   ·exact ⟨by simp [s1], by simp [s2], by simp [g0, n0], by simp [g1, n1], by simp [s3], by simp [hG3, n3], 0, nx, by simp, by omega, by simp, by omega, by simp⟩
   ·clear s1 s2 g0 g1 s3 hG3 hnx hqn3 n0 n1 n3 s G nx
    rintro s G nx hf ⟨s1, s2, g0, g1, s3, hG3, i, q, s6, hi, s5, hq, hG⟩
    have o6 := s6
    have hw : IntKind.i64.wrap (↑i + 1) = ((i + 1 : Nat) : Int) := wrapS (by omega)
    with_reducible refine aA ?_
    with_reducible refine aR fun K' hK => ?_
    simp [s1, s6, g0]
    refine hK _ _ _ ?_; clear K' hK
    with_reducible refine aC fun A B hA hB => ?_
    simp
    refine ⟨fun hi2 => hA ?_, fun hi2 => hB ?_⟩ <;> clear hA hB A B <;> (try simp at hi2) <;> (try with_reducible refine aK ?_)
    ·have hst : m.rules.take (i + 1) = m.rules.take i ++ [nth m.rules i] := by rw [List.take_add_one, List.getElem?_eq_getElem hi2, ← nth_eq hi2]; rfl
     have hdr := hrr _ (nth_mem hi2)
     have hqn : q < nx := fresh_lt hf hG
     have hqn3 : q3 < nx := fresh_lt hf hG3
     have hqq : ¬ q3 = q := fun e => by subst e; rw [hG3] at hG; injection hG with hG; injection hG with hG; cases hG
     have htl : min i m.rules.length = i := by omega
     have b1 : i + 1 ≤ 9223372036854775807 := by omega
     have b2 : (i + 1) * 40 ≤ 140737488355328 := by omega
     generalize hgd : nth m.rules i = d at *
     have hT : ∀ H : Hp, H nx = some (.row 83 (flat Alt.cells d.range)) → treeOf Tryz.prog H (.row nx d.range.length) = some (rowT Alt.cells d.range) := fun H h => treeOf_of h c83 rfl
     have hT1 := hT (G.upd nx (.row 83 (flat Alt.cells d.range))) (by simp)
     have n0 : ¬ 0 = nx := by omega
     have n1 : ¬ 1 = nx := by omega
     have n2 : ¬ q = nx := by omega
     have n3 : ¬ q = nx + 1 := by omega
     have n4 : ¬ nx + 1 = q := by omega
     have n5 : ¬ 0 = nx + 1 := by omega
     have n6 : ¬ 1 = nx + 1 := by omega
     have n7 : ¬ 0 = nx + 1 + 1 := by omega
     have n8 : ¬ 1 = nx + 1 + 1 := by omega
     have n9 : ¬ 0 = q := by omega
     have na : ¬ 1 = q := by omega
     have nb : ¬ q3 = nx + 1 := by omega
     have nc : ¬ q3 = nx + 1 + 1 := by omega
     with_reducible refine aw_block ?_
     with_reducible refine aT fun K' hK => ?_
     simp [s1, s5, s6, g0, hi2, hgd]
     refine acall_new (own86_ok d.range ⟨by omega, fun l hl => by have := hdr.2 l hl; omega⟩) (by first | rfl | (simp [Rg.cells]; done) | (simp [Rg.cells]; rfl) | (simp [Rg.cells]; exact ⟨rfl, rfl⟩)) ?_
     simp [addJ_one, Rg.cells, hT1, n2, n3, n4, hG, htl, b1, b2, treeOf_row, srcOf_row]
     have w0 : frzOf (G.upd nx (.row 83 (flat Alt.cells d.range))) (.row nx d.range.length) 0 = G 0 := by rw [frzOf_ne (by omega), Hp.upd_ne _ _ (by omega)]
     have w1 : frzOf (G.upd nx (.row 83 (flat Alt.cells d.range))) (.row nx d.range.length) 1 = G 1 := by rw [frzOf_ne (by omega), Hp.upd_ne _ _ (by omega)]
     have w3 : frzOf (G.upd nx (.row 83 (flat Alt.cells d.range))) (.row nx d.range.length) q3 = G q3 := by rw [frzOf_ne (by omega), Hp.upd_ne _ _ (by omega)]
     refine hK _ _ _ ?_; clear K' hK
     with_reducible refine aw_skipL ?_
     refine blockK_normal ?_
     with_reducible refine aS fun K' hK => ?_
     simp [s6, hw]
     refine hK _ _ _ ?_; clear K' hK
     refine aw_skipL (loopK_normal ?_ ?_)
     ·exact ⟨by simp [s1], by simp [s2], by simp [n5, n7, n9, w0, g0], by simp [show ¬ nx = 0 by omega, n8, na, w1, g1], by simp [s3], by simp [nb, nc, hqq, w3, hG3], i + 1, nx + 1 + 1, by simp [hw], by omega, by simp, by omega, by rw [hst, ← flat_snoc]; simp; rfl⟩
     ·simp [o6, s6, hw]; omega
    ·skip
     with_reducible refine aw_exit ?_
     refine loopK_exit (blockK_exit ?_)
     have hie : i = m.rules.length := by omega
     subst hie
     rw [List.take_length] at hG
     with_reducible refine aw_end ?_
     exact ⟨by simp [s1], by simp [s2], by simp [g0], by simp [g1], by simp [s3], hG3, q, by simp [s5], hq, hG⟩
  ·clear s1 s2 g0 g1 s3 hG3 hnx hqn3 s G nx
   rintro s G nx ⟨s1, s2, g0, g1, s3, hG3, q, s5, hq, hG⟩
   have hqq : q3 ≠ q := fun e => by subst e; rw [hG3] at hG; injection hG with hG; injection hG with hG; cases hG
   have k0 : ¬ q3 = 0 := by omega
   have k1 : ¬ q3 = 1 := by omega
   have k2 : ¬ q = 0 := by omega
   have k3 : ¬ q = 1 := by omega
   with_reducible refine aR fun K' hK => ?_
   simp [s1, s3, g0, Man.cells]
   refine hK _ _ _ ?_; clear K' hK
   with_reducible refine aR fun K' hK => ?_
   simp [s1, s5, g0, Man.cells]
   refine hK _ _ _ ?_; clear K' hK
   with_reducible refine aR fun K' hK => ?_
   simp [s1, s2, g0, g1, Man.cells]
   refine hK _ _ _ ?_; clear K' hK
   with_reducible refine aw_retL ?_
   simp [blockK, loopK, Post, resA, res1, expT, expA, exp1, expM, expL, okT, okA, ok1, rowOf, Tryz.f34, s2, k0, k1, k2, k3, hG, hG3, hqq, Ne.symm hqq]
   exact ⟨[q3, q], ⟨rfl, rfl⟩, by simp [Man.cellsR], by simp [rowOf, k0, k1, k2, k3, hG, hG3]⟩
set_option maxRecDepth 100000
set_option maxHeartbeats 4000000
theorem counts239_ok (d : Dep) (root : Bool) : CallsOK Tryz.prog 239 [.agg d.cells, bV root] (bV (countsF d root)) [] := by
 refine callsOK mixed Tryz.call239 Tryz.func239 rfl (by rw [Tryz.ntmps239]; simp) ?_ rfl
 rw [Tryz.ntmps239]
 with_reducible refine aR fun K' hK => ?_
 simp
 refine hK _ _ _ ?_; clear K' hK
 by_cases k1 : d.kind = 1
 ·skip
  with_reducible refine aR fun K' hK => ?_
  simp [k1]
  refine hK _ _ _ ?_; clear K' hK
  with_reducible refine aw_retL ?_
  simp [blockK, loopK, Post, resA, res1, expT, expA, exp1, expM, expL, okT, okA, ok1, rowOf, Tryz.f239]
  simp [countsF, k1]
 ·by_cases k3 : d.kind = 3
  ·skip
   with_reducible refine aR fun K' hK => ?_
   simp [k3]
   refine hK _ _ _ ?_; clear K' hK
   with_reducible refine aw_retL ?_
   simp [blockK, loopK, Post, resA, res1, expT, expA, exp1, expM, expL, okT, okA, ok1, rowOf, Tryz.f239]
   simp [countsF, k3]
  ·by_cases k4 : d.kind = 4
   ·skip
    with_reducible refine aR fun K' hK => ?_
    simp [k4]
    refine hK _ _ _ ?_; clear K' hK
    with_reducible refine aw_retL ?_
    simp [blockK, loopK, Post, resA, res1, expT, expA, exp1, expM, expL, okT, okA, ok1, rowOf, Tryz.f239]
    simp [countsF, k4]
   ·by_cases k2 : d.kind = 2
    ·skip
     with_reducible refine aR fun K' hK => ?_
     simp [k2]
     refine hK _ _ _ ?_; clear K' hK
     with_reducible refine aw_retL ?_
     simp [blockK, loopK, Post, resA, res1, expT, expA, exp1, expM, expL, okT, okA, ok1, rowOf, Tryz.f239]
     simp [countsF, k2]
    ·skip
     with_reducible refine aR fun K' hK => ?_
     simp [k1, k2, k3, k4]
     refine hK _ _ _ ?_; clear K' hK
     with_reducible refine aw_retL ?_
     simp [blockK, loopK, Post, resA, res1, expT, expA, exp1, expM, expL, okT, okA, ok1, rowOf, Tryz.f239]
     simp [countsF, k1, k2, k3, k4]
theorem atF_some {rules : List Ru} {name : Bs} {i : Nat} (hi : i < rules.length) (h : (nth rules i).name = name) (hno : ∀ j, j < i → (nth rules j).name ≠ name) : atF rules name = some i := by
 unfold atF
 rw [List.findIdx?_eq_some_iff_getElem]
 refine ⟨hi, by rw [← nth_eq hi]; simpa using h, fun j hj => ?_⟩
 rw [← nth_eq (by omega : j < rules.length)]
 simpa using hno j hj
theorem atF_none {rules : List Ru} {name : Bs} (hno : ∀ j, j < rules.length → (nth rules j).name ≠ name) : atF rules name = none := by
 unfold atF
 rw [List.findIdx?_eq_none_iff]
 intro d hd
 obtain ⟨j, hj, rfl⟩ := List.mem_iff_getElem.1 hd
 rw [← nth_eq hj]; simpa using hno j hj
def ruleR (rules : List Ru) (name : Bs) : AV × Js := match atF rules name with
 | some i => (.tup [.agg [.row 0 (nth rules i).range.length], bV true], [(83, flat Alt.cells (nth rules i).range)])
 | none => (.tup [.agg [.v (.slice none 0 0)], bV false], [])
theorem rule240_ok (rules : List Ru) (name : Bs) (hl : Ru.okL rules) : CallsOK Tryz.prog 240 [rowT Ru.cells rules, sV name] (ruleR rules name).1 (ruleR rules name).2 := by
 have hll := hl.1
 refine callsOK mixed Tryz.call240 Tryz.func240 rfl (by rw [Tryz.ntmps240]; simp) ?_ (by unfold ruleR; split <;> rfl)
 rw [Tryz.ntmps240]
 with_reducible refine aR fun K' hK => ?_
 simp
 refine hK _ _ _ ?_; clear K' hK
 with_reducible refine aA ?_
 with_reducible refine aR fun K' hK => ?_
 simp
 refine hK _ _ _ ?_; clear K' hK
 with_reducible refine aw_block ?_
 refine aw_loop (fun s G nx => nx = 1 ∧ s 0 = rowT Ru.cells rules ∧ s 1 = sV name ∧ s 4 = .ptr 0 0 ∧ G 0 = some (.var 33 [.v (.slice none 0 0)]) ∧ ∃ i : Nat, s 6 = iV i ∧ i ≤ rules.length ∧ ∀ j, j < i → (nth rules j).name ≠ name) (fun s _ _ => match s 6 with | .v (.int _ n) => rules.length - n.toNat | _ => 0) ?_ ?_
 ·exact ⟨by simp, by simp, by simp, by simp, by simp, 0, by simp, by omega, fun j hj => by omega⟩
 ·rintro s G nx hf ⟨rfl, s0, s1, s4, g0, i, s6, hi, hno⟩
  have hw : IntKind.i64.wrap (↑i + 1) = ((i + 1 : Nat) : Int) := wrapS (by omega)
  with_reducible refine aA ?_
  with_reducible refine aR fun K' hK => ?_
  simp [s0, s6]
  refine hK _ _ _ ?_; clear K' hK
  with_reducible refine aC fun A B hA hB => ?_
  simp
  refine ⟨fun hi2 => hA ?_, fun hi2 => hB ?_⟩ <;> clear hA hB A B <;> (try simp at hi2) <;> (try with_reducible refine aK ?_)
  ·have hdr := hl.2 _ (nth_mem hi2)
   with_reducible refine aw_block ?_
   by_cases hn : (nth rules i).name = name
   ·have hv : ruleR rules name = (.tup [.agg [.row 0 (nth rules i).range.length], bV true], [(83, flat Alt.cells (nth rules i).range)]) := by unfold ruleR; rw [atF_some hi2 hn hno]
    rw [hv]
    with_reducible refine aR fun K' hK => ?_
    simp [s0, s1, s6, hi2, hn]
    refine hK _ _ _ ?_; clear K' hK
    with_reducible refine aU (by simp [hn]) ?_
    with_reducible refine aA ?_
    with_reducible refine aR fun K' hK => ?_
    simp [s0, s4, s6, hi2, g0]
    refine acall_new (own86_ok (nth rules i).range ⟨by omega, fun l hl => by have := hdr.2 l hl; omega⟩) (by first | rfl | (simp [Rg.cells]; done) | (simp [Rg.cells]; rfl) | (simp [Rg.cells]; exact ⟨rfl, rfl⟩)) ?_
    simp [addJ_one, g0, s4]
    refine hK _ _ _ ?_; clear K' hK
    with_reducible refine aw_ret ?_
    simp [blockK, loopK, Post, resA, res1, expT, expA, exp1, expM, expL, okT, okA, ok1, rowOf, Tryz.f240, s4]
   ·skip
    with_reducible refine aR fun K' hK => ?_
    simp [s0, s1, s6, hi2, hn]
    refine hK _ _ _ ?_; clear K' hK
    with_reducible refine aVk (by simp [hn]) ?_
    with_reducible refine aw_skipL ?_
    refine blockK_normal ?_
    with_reducible refine aS fun K' hK => ?_
    simp [s6, hw]
    refine hK _ _ _ ?_; clear K' hK
    refine aw_skipL (loopK_normal ?_ ?_)
    ·exact ⟨rfl, by simp [s0], by simp [s1], by simp [s4], by simp [g0], i + 1, by simp [hw], by omega, fun j hj => by
      by_cases h : j = i
      ·subst h; exact hn
      ·exact hno j (by omega)⟩
    ·simp [s6, hw]; omega
  ·skip
   with_reducible refine aw_exit ?_
   refine loopK_exit (blockK_exit ?_)
   have hv : ruleR rules name = (.tup [.agg [.v (.slice none 0 0)], bV false], []) := by unfold ruleR; rw [atF_none fun j hj => hno j (by omega)]
   rw [hv]
   with_reducible refine aR fun K' hK => ?_
   simp [s4, g0]
   refine hK _ _ _ ?_; clear K' hK
   with_reducible refine aw_retL ?_
   simp [blockK, loopK, Post, resA, res1, expT, expA, exp1, expM, expL, okT, okA, ok1, rowOf, Tryz.f240, s4]
theorem find78_ok (L : List Man) (hl : L.length ≤ 1000000000) (hm : ∀ m ∈ L, Man.okS m) (n : Bs) (v : Ver) : CallsOK Tryz.prog 78 [rowT Man.cells L, sV n, .agg v.cells] (manR (findM L n v)).1 (manR (findM L n v)).2 := by
 refine callsOK mixed Tryz.call78 Tryz.func78 rfl (by rw [Tryz.ntmps78]; simp) ?_ (by cases findM L n v <;> rfl)
 rw [Tryz.ntmps78]
 with_reducible refine aR fun K' hK => ?_
 simp
 refine hK _ _ _ ?_; clear K' hK
 with_reducible refine aA ?_
 with_reducible refine aR fun K' hK => ?_
 simp
 refine hK _ _ _ ?_; clear K' hK
 with_reducible refine aw_block ?_
 refine aw_loop (fun s G nx => nx = 2 ∧ s 0 = rowT Man.cells L ∧ s 1 = sV n ∧ s 5 = .ptr 0 0 ∧ s 6 = .ptr 1 0 ∧ G 0 = some (.var 23 v.cells) ∧ G 1 = some (.var 27 manN) ∧ ∃ i : Nat, s 8 = iV i ∧ i ≤ L.length ∧ findM L n v = findM (L.drop i) n v) (fun s _ _ => match s 8 with | .v (.int _ n) => L.length - n.toNat | _ => 0) ?_ ?_
 ·exact ⟨by simp, by simp, by simp, by simp, by simp, by simp, by simp, 0, by simp, by omega, by simp⟩
 ·rintro s G nx hf ⟨rfl, s0, s1, s5, s6, g0, g1, i, s8, hi, ht⟩
  have hw : IntKind.i64.wrap (↑i + 1) = ((i + 1 : Nat) : Int) := wrapS (by omega)
  with_reducible refine aA ?_
  with_reducible refine aR fun K' hK => ?_
  simp [s0, s8]
  refine hK _ _ _ ?_; clear K' hK
  with_reducible refine aC fun A B hA hB => ?_
  simp
  refine ⟨fun hi2 => hA ?_, fun hi2 => hB ?_⟩ <;> clear hA hB A B <;> (try simp at hi2) <;> (try with_reducible refine aK ?_)
  ·have hst := findM_drop (n := n) (v := v) hi2
   have hmo := hm _ (nth_mem hi2)
   generalize hgm : nth L i = m at *
   have hhit : hitM n v m = (decide (m.name = n) && decide (m.ver = v)) := rfl
   with_reducible refine aw_block ?_
   by_cases h1 : m.name = n
   ·by_cases h2 : m.ver = v
    ·have h1' : (m.name = n) = True := eq_true h1
     have h2' : (m.ver = v) = True := eq_true h2
     have hv : findM L n v = some m := by rw [ht, hst, hhit]; simp [h1, h2]
     rw [hv]
     with_reducible refine aQ fun K' hK => ?_
     simp (maxSteps := 1000000) [s0, s1, s5, s8, g0, hi2, hgm, h1', h2']
     refine hK _ _ _ ?_; clear K' hK
     with_reducible refine aU (by simp) ?_
     with_reducible refine aA ?_
     with_reducible refine aR fun K' hK => ?_
     simp [s0, s8, s6, hi2, hgm, g1]
     refine acall_new (own34_ok m hmo) (by first | rfl | (simp; done) | (simp; rfl) | (simp; exact ⟨rfl, rfl⟩)) ?_
     simp [addJ_two, g1, s6]
     refine hK _ _ _ ?_; clear K' hK
     with_reducible refine aw_ret ?_
     simp [blockK, loopK, Post, resA, res1, Tryz.f78, manR, s6]
     exact manR_end true (by omega) (by simp) (by simp)
    ·have h1' : (m.name = n) = True := eq_true h1
     have hd : findM L n v = findM (L.drop (i + 1)) n v := by rw [ht, hst, hhit]; simp [h2]
     with_reducible refine aQ fun K' hK => ?_
     simp (maxSteps := 1000000) [s0, s1, s5, s8, g0, hi2, hgm, h1', h2]
     refine hK _ _ _ ?_; clear K' hK
     with_reducible refine aVk (by simp) ?_
     with_reducible refine aw_skipL ?_
     refine blockK_normal ?_
     with_reducible refine aS fun K' hK => ?_
     simp [s8, hw]
     refine hK _ _ _ ?_; clear K' hK
     refine aw_skipL (loopK_normal ?_ ?_)
     ·exact ⟨rfl, by simp [s0], by simp [s1], by simp [s5], by simp [s6], by simp [g0], by simp [g1], i + 1, by simp [hw], by omega, hd⟩
     ·simp [s8, hw]; omega
   ·have hd : findM L n v = findM (L.drop (i + 1)) n v := by rw [ht, hst, hhit]; simp [h1]
    with_reducible refine aQ fun K' hK => ?_
    simp (maxSteps := 1000000) [s0, s1, s5, s8, g0, hi2, hgm, h1]
    refine hK _ _ _ ?_; clear K' hK
    with_reducible refine aVk (by simp) ?_
    with_reducible refine aw_skipL ?_
    refine blockK_normal ?_
    with_reducible refine aS fun K' hK => ?_
    simp [s8, hw]
    refine hK _ _ _ ?_; clear K' hK
    refine aw_skipL (loopK_normal ?_ ?_)
    ·exact ⟨rfl, by simp [s0], by simp [s1], by simp [s5], by simp [s6], by simp [g0], by simp [g1], i + 1, by simp [hw], by omega, hd⟩
    ·simp [s8, hw]; omega
  ·skip
   with_reducible refine aw_exit ?_
   refine loopK_exit (blockK_exit ?_)
   have hv : findM L n v = none := by rw [ht, List.drop_of_length_le (by omega)]; rfl
   rw [hv]
   with_reducible refine aR fun K' hK => ?_
   simp [s6, g1]
   refine hK _ _ _ ?_; clear K' hK
   with_reducible refine aw_retL ?_
   simp [blockK, loopK, Post, resA, res1, expT, expA, exp1, expM, expL, okT, okA, ok1, rowOf, Tryz.f78, manR, s6]
set_option maxRecDepth 100000
set_option maxHeartbeats 400000
def candD (root first : Bool) (last : Bs) (d : Dep) : Bool := countsF d root && (first || ltB last d.name)
def stepX (root first : Bool) (last : Bs) (b : Option Bs) (d : Dep) : Option Bs := if candD root first last d = true ∧ (∀ x, b = some x → ltB d.name x = true) then some d.name else b
def nextN (root first : Bool) (last : Bs) (ds : List Dep) : Option Bs := ds.foldl (stepX root first last) none
theorem nextN_take {root first : Bool} {last : Bs} {ds : List Dep} {i : Nat} (h : i < ds.length) : nextN root first last (ds.take (i + 1)) = stepX root first last (nextN root first last (ds.take i)) (nth ds i) := by
 unfold nextN
 rw [List.take_add_one, List.getElem?_eq_getElem h, nth_eq h]
 rw [List.foldl_append]; rfl
def LeastN (root first : Bool) (last : Bs) (ds : List Dep) : Option Bs → Prop
 | none => ∀ d ∈ ds, candD root first last d = false
 | some x => (∃ d ∈ ds, candD root first last d = true ∧ d.name = x) ∧ ∀ d ∈ ds, candD root first last d = true → ltB d.name x = false
theorem nextN_least (root first : Bool) (last : Bs) (ds : List Dep) : LeastN root first last ds (nextN root first last ds) := by
 have : ∀ i, i ≤ ds.length → LeastN root first last (ds.take i) (nextN root first last (ds.take i)) := by
  intro i
  induction i with
  | zero => intro _; exact fun d hd => by simp at hd
  | succ i ih =>
   intro hi
   have ih := ih (by omega)
   have hst : ds.take (i + 1) = ds.take i ++ [nth ds i] := by rw [List.take_add_one, List.getElem?_eq_getElem (by omega), ← nth_eq (by omega)]; rfl
   rw [nextN_take (by omega)]
   rw [hst]
   generalize nth ds i = d at *
   generalize ds.take i = l at *
   generalize nextN root first last l = b at *
   unfold stepX
   by_cases hc : candD root first last d = true
   ·cases b with
    | none =>
     rw [if_pos ⟨hc, fun x h => by cases h⟩]
     refine ⟨⟨d, by simp, hc, rfl⟩, fun e he hce => ?_⟩
     rcases List.mem_append.1 he with h | h
     ·rw [ih e h] at hce; cases hce
     ·have : e = d := by simpa using h
      subst this; exact ltB_irr _
    | some x =>
     obtain ⟨⟨y, hy, hcy, hyx⟩, hmin⟩ := ih
     by_cases hlt : ltB d.name x = true
     ·rw [if_pos ⟨hc, fun z hz => by injection hz with hz; subst hz; exact hlt⟩]
      refine ⟨⟨d, by simp, hc, rfl⟩, fun e he hce => ?_⟩
      rcases List.mem_append.1 he with h | h
      ·rw [Bool.eq_false_iff]; intro hed
       have h1 := hmin e h hce
       rw [ltB_trans hed hlt] at h1; cases h1
      ·have : e = d := by simpa using h
       subst this; exact ltB_irr _
     ·rw [if_neg (fun h => hlt (h.2 x rfl))]
      refine ⟨⟨y, by simp [hy], hcy, hyx⟩, fun e he hce => ?_⟩
      rcases List.mem_append.1 he with h | h
      ·exact hmin e h hce
      ·have : e = d := by simpa using h
       subst this; simpa using hlt
   ·rw [if_neg (fun h => hc h.1)]
    cases b with
    | none =>
     intro e he
     rcases List.mem_append.1 he with h | h
     ·exact ih e h
     ·have : e = d := by simpa using h
      subst this; simpa using hc
    | some x =>
     obtain ⟨⟨y, hy, hcy, hyx⟩, hmin⟩ := ih
     refine ⟨⟨y, by simp [hy], hcy, hyx⟩, fun e he hce => ?_⟩
     rcases List.mem_append.1 he with h | h
     ·exact hmin e h hce
     ·have : e = d := by simpa using h
      subst this; exact absurd hce hc
 have h := this ds.length (Nat.le_refl _)
 rwa [List.take_length] at h
theorem byM_names (root : Bool) (ds : List Dep) (n : Bs) : n ∈ namesOf (byM root ds) ↔ ∃ d ∈ ds, countsF d root = true ∧ d.name = n := by
 have : ∀ i, i ≤ ds.length → (n ∈ namesOf (byM root (ds.take i)) ↔ ∃ d ∈ ds.take i, countsF d root = true ∧ d.name = n) := by
  intro i
  induction i with
  | zero => intro _; simp [byM, namesOf]
  | succ i ih =>
   intro hi
   have ih := ih (by omega)
   have hst : ds.take (i + 1) = ds.take i ++ [nth ds i] := by rw [List.take_add_one, List.getElem?_eq_getElem (by omega), ← nth_eq (by omega)]; rfl
   rw [byM_take root (by omega)]
   rw [hst]
   generalize nth ds i = d at *
   generalize ds.take i = l at *
   generalize byM root l = M at *
   have hr : (∃ e ∈ l ++ [d], countsF e root = true ∧ e.name = n) ↔ (∃ e ∈ l, countsF e root = true ∧ e.name = n) ∨ (countsF d root = true ∧ d.name = n) := by
    constructor
    ·rintro ⟨e, he, h⟩
     rcases List.mem_append.1 he with h1 | h1
     ·exact .inl ⟨e, h1, h⟩
     ·have : e = d := by simpa using h1
      subst this; exact .inr h
    ·rintro (⟨e, he, h⟩ | h)
     ·exact ⟨e, by simp [he], h⟩
     ·exact ⟨d, by simp, h⟩
   rw [hr, ← ih]
   unfold stepM
   by_cases hc : countsF d root = true
   ·by_cases hk : ∀ i, posM M d.name = some i → d.kind < (nth M i).kind
    ·rw [if_pos ⟨hc, hk⟩]
     rcases putM_names (M := M) d with ⟨h1, h2⟩ | ⟨h1, h2⟩
     ·rw [h2]
      exact ⟨.inl, fun h => h.elim id fun h => by rw [← h.2]; exact h1⟩
     ·rw [h2, List.mem_append]
      exact ⟨fun h => h.imp id fun h => ⟨hc, by simpa using Eq.symm (by simpa using h)⟩, fun h => h.imp id fun h => by simp [h.2]⟩
    ·rw [if_neg (fun h => hk h.2)]
     have hin : d.name ∈ namesOf M := by
      rcases Classical.em (d.name ∈ namesOf M) with h | h
      ·exact h
      ·exact absurd (fun i hi => by rw [posM_none.2 h] at hi; cases hi) hk
     exact ⟨.inl, fun h => h.elim id fun h => by rw [← h.2]; exact hin⟩
   ·rw [if_neg (fun h => hc h.1)]
    exact ⟨.inl, fun h => h.elim id fun h => absurd h.1 hc⟩
 have h := this ds.length (Nat.le_refl _)
 rwa [List.take_length] at h
def namesS (root : Bool) (ds : List Dep) : List Bs := sortN (namesOf (byM root ds))
theorem namesS_mem {root : Bool} {ds : List Dep} {n : Bs} : n ∈ namesS root ds ↔ ∃ d ∈ ds, countsF d root = true ∧ d.name = n := by
 rw [← byM_names]
 exact (sortN_perm _).mem_iff
theorem namesS_lt (root : Bool) (ds : List Dep) : (namesS root ds).Pairwise fun a b => ltB a b = true := sortN_lt (byM_nodup root ds)
theorem namesS_at {root : Bool} {ds : List Dep} {i j : Nat} (hij : i < j) (hj : j < (namesS root ds).length) : ltB (nth (namesS root ds) i) (nth (namesS root ds) j) = true := by
 have := List.pairwise_iff_getElem.1 (namesS_lt root ds) i j (by omega) hj hij
 rwa [← nth_eq (by omega), ← nth_eq hj] at this
theorem next_at {root first : Bool} {last : Bs} {ds : List Dep} {k : Nat} (hlo : ∀ i, i < k → i < (namesS root ds).length → (first || ltB last (nth (namesS root ds) i)) = false) (hhi : ∀ i, k ≤ i → i < (namesS root ds).length → (first || ltB last (nth (namesS root ds) i)) = true) :
  nextN root first last ds = if k < (namesS root ds).length then some (nth (namesS root ds) k) else none := by
 have hL := nextN_least root first last ds
 have cand : ∀ d ∈ ds, candD root first last d = true → ∃ i, k ≤ i ∧ i < (namesS root ds).length ∧ nth (namesS root ds) i = d.name := by
  intro d hd hc
  simp only [candD, Bool.and_eq_true] at hc
  have hm : d.name ∈ namesS root ds := namesS_mem.2 ⟨d, hd, hc.1, rfl⟩
  obtain ⟨i, hi, he⟩ := List.mem_iff_getElem.1 hm
  rw [← nth_eq hi] at he
  refine ⟨i, ?_, hi, he⟩
  rcases Nat.lt_or_ge i k with h | h
  ·have := hlo i h hi
   rw [he] at this
   rw [this] at hc; cases hc.2
  ·exact h
 cases hN : nextN root first last ds with
 | none =>
  rw [hN] at hL
  by_cases hk : k < (namesS root ds).length
  ·obtain ⟨d, hd, hc, he⟩ := namesS_mem.1 (nth_mem hk)
   have := hL d hd
   have h2 := hhi k (Nat.le_refl _) hk
   rw [← he] at h2
   simp only [candD, hc, h2] at this
   cases this
  ·rw [if_neg hk]
 | some x =>
  rw [hN] at hL
  obtain ⟨⟨d, hd, hc, rfl⟩, hmin⟩ := hL
  obtain ⟨i, hki, hi, he⟩ := cand d hd hc
  rw [if_pos (by omega)]
  obtain ⟨e, hed, hec, hen⟩ := namesS_mem.1 (nth_mem (show k < (namesS root ds).length by omega))
  have h2 := hhi k (Nat.le_refl _) (by omega)
  rw [← hen] at h2
  have h3 := hmin e hed (by simp only [candD, hec, h2]; rfl)
  rw [hen, ← he] at h3
  rcases Nat.lt_or_ge k i with h | h
  ·rw [namesS_at h hi] at h3; cases h3
  ·have : i = k := by omega
   rw [← this, he]
theorem next_first (root : Bool) (last : Bs) (ds : List Dep) : nextN root true last ds = if 0 < (namesS root ds).length then some (nth (namesS root ds) 0) else none :=
 next_at (fun i h => by omega) (fun i _ _ => rfl)
theorem next_then (root : Bool) (ds : List Dep) {k : Nat} (hk : k < (namesS root ds).length) : nextN root false (nth (namesS root ds) k) ds = if k + 1 < (namesS root ds).length then some (nth (namesS root ds) (k + 1)) else none :=
 next_at (fun i h hi => by
  simp only [Bool.false_or]
  rcases Nat.lt_or_ge i k with h1 | h1
  ·exact ltB_asym (namesS_at h1 hk)
  ·have : i = k := by omega
   rw [this]; exact ltB_irr _) (fun i h hi => by
  simp only [Bool.false_or]
  exact namesS_at (by omega) hi)
set_option maxRecDepth 100000
set_option maxHeartbeats 4000000
theorem next211_ok (m : Man) (hl : m.deps.length ≤ 1000000000) (root first : Bool) (last : Bs) : CallsOK Tryz.prog 211 [.agg m.cells, bV root, sV last, bV first] (.tup [sV ((nextN root first last m.deps).getD ⟨#[]⟩), bV (nextN root first last m.deps).isSome]) [] := by
 refine callsOK mixed Tryz.call211 Tryz.func211 rfl (by rw [Tryz.ntmps211]; simp) ?_ rfl
 rw [Tryz.ntmps211]
 with_reducible refine aR fun K' hK => ?_
 simp
 refine hK _ _ _ ?_; clear K' hK
 with_reducible refine aR fun K' hK => ?_
 simp
 refine hK _ _ _ ?_; clear K' hK
 with_reducible refine aR fun K' hK => ?_
 simp
 refine hK _ _ _ ?_; clear K' hK
 with_reducible refine aA ?_
 with_reducible refine aR fun K' hK => ?_
 simp
 refine hK _ _ _ ?_; clear K' hK
 with_reducible refine aw_block ?_
 refine aw_loop (fun s G nx => s 1 = bV root ∧ s 2 = sV last ∧ s 3 = bV first ∧ s 4 = .ptr 0 0 ∧ G 0 = some (.var 27 m.cells) ∧ ∃ i : Nat, s 12 = iV i ∧ i ≤ m.deps.length ∧ s 10 = sV ((nextN root first last (m.deps.take i)).getD ⟨#[]⟩) ∧ s 11 = bV (nextN root first last (m.deps.take i)).isSome) (fun s _ _ => match s 12 with | .v (.int _ n) => m.deps.length - n.toNat | _ => 0) ?_ ?_
 ·exact ⟨by simp, by simp, by simp, by simp, by simp, 0, by simp, by omega, by simp [nextN], by simp [nextN]⟩
 ·rintro s G nx hf ⟨s1, s2, s3, s4, g0, i, s12, hi, s10, s11⟩
  have o12 := s12
  have n0 : ¬ 0 = nx := by have := fresh_lt hf g0; omega
  have hw : IntKind.i64.wrap (↑i + 1) = ((i + 1 : Nat) : Int) := wrapS (by omega)
  with_reducible refine aA ?_
  with_reducible refine aR fun K' hK => ?_
  simp [s4, s12, g0]
  refine hK _ _ _ ?_; clear K' hK
  with_reducible refine aC fun A B hA hB => ?_
  simp
  refine ⟨fun hi2 => hA ?_, fun hi2 => hB ?_⟩ <;> clear hA hB A B <;> (try simp at hi2) <;> (try with_reducible refine aK ?_)
  ·have hst := nextN_take (root := root) (first := first) (last := last) hi2
   generalize hgd : nth m.deps i = d at *
   have hcd : candD root first last d = (countsF d root && (first || ltB last d.name)) := rfl
   generalize nextN root first last (m.deps.take i) = b at *
   have hsx : stepX root first last b d = if candD root first last d = true ∧ (∀ x, b = some x → ltB d.name x = true) then some d.name else b := rfl
   with_reducible refine aw_block ?_
   with_reducible refine aR fun K' hK => ?_
   simp [s4, s12, g0, hi2, hgd]
   refine hK _ _ _ ?_; clear K' hK
   have inv : ∀ (u : Sl) (c : Option Bs), c = nextN root first last (m.deps.take (i + 1)) → u 1 = bV root → u 2 = sV last → u 3 = bV first → u 4 = .ptr 0 0 → u 12 = iV i → u 10 = sV (c.getD ⟨#[]⟩) → u 11 = bV c.isSome → True := fun _ _ _ _ _ _ _ _ _ _ => trivial
   clear inv
   have yes : (candD root first last d = true ∧ (∀ x, b = some x → ltB d.name x = true)) → nextN root first last (m.deps.take (i + 1)) = some d.name := fun h => by rw [hst, hsx, if_pos h]
   have no : ¬ (candD root first last d = true ∧ (∀ x, b = some x → ltB d.name x = true)) → nextN root first last (m.deps.take (i + 1)) = b := fun h => by rw [hst, hsx, if_neg h]
   with_reducible refine aR fun K' hK => ?_
   simp [n0]
   refine acall_flat (counts239_ok d root) rfl (by first | rfl | (simp [s1]; done) | (simp [s1]; rfl) | (simp [s1]; exact ⟨rfl, rfl⟩)) ?_
   by_cases hc : countsF d root = true
   ·by_cases hfl : first = true ∨ ltB last d.name = true
    ·have hcand : candD root first last d = true := by rw [hcd, hc]; simpa using hfl
     cases b with
     | none =>
      have hy := yes ⟨hcand, fun x h => by cases h⟩
      simp only [Option.getD_none, Option.isSome_none] at s10 s11
      rcases hfl with hfl | hfl
      ·subst hfl
       simp [hc, s1, s2, s3, s10, s11]
       refine hK _ _ _ ?_; clear K' hK
       with_reducible refine aU (by simp) ?_
       with_reducible refine aA ?_
       with_reducible refine aR fun K' hK => ?_
       simp
       refine hK _ _ _ ?_; clear K' hK
       with_reducible refine aR fun K' hK => ?_
       simp
       refine hK _ _ _ ?_; clear K' hK
       with_reducible refine aw_skipL ?_
       refine blockK_normal ?_
       with_reducible refine aS fun K' hK => ?_
       simp [s12, hw]
       refine hK _ _ _ ?_; clear K' hK
       refine aw_skipL (loopK_normal ?_ ?_)
       ·exact ⟨by simp [s1], by simp [s2], by simp [s3], by simp [s4], by simp [n0, g0], i + 1, by simp [hw], by omega, by simp [hy], by simp [hy]⟩
       ·simp [o12, s12, hw]; omega
      ·cases first with
       | true =>
        simp [hc, s1, s2, s3, s10, s11]
        refine hK _ _ _ ?_; clear K' hK
        with_reducible refine aU (by simp) ?_
        with_reducible refine aA ?_
        with_reducible refine aR fun K' hK => ?_
        simp
        refine hK _ _ _ ?_; clear K' hK
        with_reducible refine aR fun K' hK => ?_
        simp
        refine hK _ _ _ ?_; clear K' hK
        with_reducible refine aw_skipL ?_
        refine blockK_normal ?_
        with_reducible refine aS fun K' hK => ?_
        simp [s12, hw]
        refine hK _ _ _ ?_; clear K' hK
        refine aw_skipL (loopK_normal ?_ ?_)
        ·exact ⟨by simp [s1], by simp [s2], by simp [s3], by simp [s4], by simp [n0, g0], i + 1, by simp [hw], by omega, by simp [hy], by simp [hy]⟩
        ·simp [o12, s12, hw]; omega
       | false =>
        simp [hc, s1, s2, s3, s10, s11, hfl, n0]
        refine hK _ _ _ ?_; clear K' hK
        with_reducible refine aU (by simp) ?_
        with_reducible refine aA ?_
        with_reducible refine aR fun K' hK => ?_
        simp
        refine hK _ _ _ ?_; clear K' hK
        with_reducible refine aR fun K' hK => ?_
        simp
        refine hK _ _ _ ?_; clear K' hK
        with_reducible refine aw_skipL ?_
        refine blockK_normal ?_
        with_reducible refine aS fun K' hK => ?_
        simp [s12, hw]
        refine hK _ _ _ ?_; clear K' hK
        refine aw_skipL (loopK_normal ?_ ?_)
        ·exact ⟨by simp [s1], by simp [s2], by simp [s3], by simp [s4], by simp [n0, g0], i + 1, by simp [hw], by omega, by simp [hy], by simp [hy]⟩
        ·simp [o12, s12, hw]; omega
     | some x =>
      simp only [Option.getD_some, Option.isSome_some] at s10 s11
      by_cases hlt : ltB d.name x = true
      ·have hy := yes ⟨hcand, fun z hz => by injection hz with hz; subst hz; exact hlt⟩
       cases first with
       | true =>
        simp [hc, s1, s2, s3, s10, s11, hlt, n0]
        refine hK _ _ _ ?_; clear K' hK
        with_reducible refine aU (by simp) ?_
        with_reducible refine aA ?_
        with_reducible refine aR fun K' hK => ?_
        simp
        refine hK _ _ _ ?_; clear K' hK
        with_reducible refine aR fun K' hK => ?_
        simp
        refine hK _ _ _ ?_; clear K' hK
        with_reducible refine aw_skipL ?_
        refine blockK_normal ?_
        with_reducible refine aS fun K' hK => ?_
        simp [s12, hw]
        refine hK _ _ _ ?_; clear K' hK
        refine aw_skipL (loopK_normal ?_ ?_)
        ·exact ⟨by simp [s1], by simp [s2], by simp [s3], by simp [s4], by simp [n0, g0], i + 1, by simp [hw], by omega, by simp [hy], by simp [hy]⟩
        ·simp [o12, s12, hw]; omega
       | false =>
        have hfl := hfl.resolve_left (by simp)
        simp [hc, s1, s2, s3, s10, s11, hlt, hfl, n0]
        refine hK _ _ _ ?_; clear K' hK
        with_reducible refine aU (by simp) ?_
        with_reducible refine aA ?_
        with_reducible refine aR fun K' hK => ?_
        simp
        refine hK _ _ _ ?_; clear K' hK
        with_reducible refine aR fun K' hK => ?_
        simp
        refine hK _ _ _ ?_; clear K' hK
        with_reducible refine aw_skipL ?_
        refine blockK_normal ?_
        with_reducible refine aS fun K' hK => ?_
        simp [s12, hw]
        refine hK _ _ _ ?_; clear K' hK
        refine aw_skipL (loopK_normal ?_ ?_)
        ·exact ⟨by simp [s1], by simp [s2], by simp [s3], by simp [s4], by simp [n0, g0], i + 1, by simp [hw], by omega, by simp [hy], by simp [hy]⟩
        ·simp [o12, s12, hw]; omega
      ·have hn := no fun h => hlt (h.2 x rfl)
       have hlt' : ltB d.name x = false := by simpa using hlt
       cases first with
       | true =>
        simp [hc, s1, s2, s3, s10, s11, hlt', n0]
        refine hK _ _ _ ?_; clear K' hK
        with_reducible refine aVk (by simp) ?_
        with_reducible refine aw_skipL ?_
        refine blockK_normal ?_
        with_reducible refine aS fun K' hK => ?_
        simp [s12, hw]
        refine hK _ _ _ ?_; clear K' hK
        refine aw_skipL (loopK_normal ?_ ?_)
        ·exact ⟨by simp [s1], by simp [s2], by simp [s3], by simp [s4], by simp [n0, g0], i + 1, by simp [hw], by omega, by simp [hn, s10], by simp [hn, s11]⟩
        ·simp [o12, s12, hw]; omega
       | false =>
        have hfl := hfl.resolve_left (by simp)
        simp [hc, s1, s2, s3, s10, s11, hlt', hfl, n0]
        refine hK _ _ _ ?_; clear K' hK
        with_reducible refine aVk (by simp) ?_
        with_reducible refine aw_skipL ?_
        refine blockK_normal ?_
        with_reducible refine aS fun K' hK => ?_
        simp [s12, hw]
        refine hK _ _ _ ?_; clear K' hK
        refine aw_skipL (loopK_normal ?_ ?_)
        ·exact ⟨by simp [s1], by simp [s2], by simp [s3], by simp [s4], by simp [n0, g0], i + 1, by simp [hw], by omega, by simp [hn, s10], by simp [hn, s11]⟩
        ·simp [o12, s12, hw]; omega
    ·have hf0 : first = false := by cases first <;> simp_all
     have hll : ltB last d.name = false := by
      rw [Bool.eq_false_iff]; exact fun h => hfl (.inr h)
     subst hf0
     have hn := no fun h => by rw [hcd, hc, hll] at h; exact absurd h.1 (by decide)
     simp [hc, s1, s2, s3, hll, n0]
     refine hK _ _ _ ?_; clear K' hK
     with_reducible refine aVk (by simp) ?_
     with_reducible refine aw_skipL ?_
     refine blockK_normal ?_
     with_reducible refine aS fun K' hK => ?_
     simp [s12, hw]
     refine hK _ _ _ ?_; clear K' hK
     refine aw_skipL (loopK_normal ?_ ?_)
     ·exact ⟨by simp [s1], by simp [s2], by simp [s3], by simp [s4], by simp [n0, g0], i + 1, by simp [hw], by omega, by simp [hn, s10], by simp [hn, s11]⟩
     ·simp [o12, s12, hw]; omega
   ·have hc' : countsF d root = false := by simpa using hc
    have hn := no fun h => by rw [hcd, hc'] at h; exact absurd h.1 (by simp)
    simp [hc']
    refine hK _ _ _ ?_; clear K' hK
    with_reducible refine aVk (by simp) ?_
    with_reducible refine aw_skipL ?_
    refine blockK_normal ?_
    with_reducible refine aS fun K' hK => ?_
    simp [s12, hw]
    refine hK _ _ _ ?_; clear K' hK
    refine aw_skipL (loopK_normal ?_ ?_)
    ·exact ⟨by simp [s1], by simp [s2], by simp [s3], by simp [s4], by simp [n0, g0], i + 1, by simp [hw], by omega, by simp [hn, s10], by simp [hn, s11]⟩
    ·simp [o12, s12, hw]; omega
  ·skip
   with_reducible refine aw_exit ?_
   refine loopK_exit (blockK_exit ?_)
   rw [List.take_of_length_le (by omega)] at s10 s11
   with_reducible refine aR fun K' hK => ?_
   simp [s10, s11]
   refine hK _ _ _ ?_; clear K' hK
   with_reducible refine aw_retL ?_
   simp [blockK, loopK, Post, resA, res1, expT, expA, exp1, expM, expL, okT, okA, ok1, rowOf, Tryz.f211]
set_option maxRecDepth 100000
set_option maxHeartbeats 4000000
theorem posM_put {M : List Dep} {d : Dep} : ∃ p, posM (putM M d) d.name = some p ∧ nth (putM M d) p = d := by
 unfold putM
 cases h : posM M d.name with
 | none =>
  refine ⟨M.length, ?_, nth_app_eq⟩
  unfold posM at *
  rw [List.findIdx?_append, h]
  simp
 | some i =>
  obtain ⟨h1, h2⟩ := posM_lt h
  refine ⟨i, ?_, by rw [nth_setG h1, if_pos rfl]⟩
  unfold posM at *
  rw [List.findIdx?_eq_some_iff_getElem] at h ⊢
  obtain ⟨a, b, c⟩ := h
  refine ⟨by simpa using a, by simp, fun j hj => ?_⟩
  have := c j hj
  rw [List.getElem_set_ne (by omega)]
  exact this
theorem posM_other {M : List Dep} {d : Dep} {n : Bs} (hne : ¬ d.name = n) : match posM M n with
  | none => posM (putM M d) n = none
  | some p => posM (putM M d) n = some p ∧ nth (putM M d) p = nth M p := by
 unfold putM
 cases hd : posM M d.name with
 | none =>
  cases h : posM M n with
  | none =>
   show posM (M ++ [d]) n = none
   unfold posM at *
   rw [List.findIdx?_append, h]
   simp [hne]
  | some p =>
   have hp := (posM_lt h).1
   refine ⟨?_, nth_app_lt hp⟩
   unfold posM at *
   rw [List.findIdx?_append, h]; rfl
 | some i =>
  obtain ⟨h1, h2⟩ := posM_lt hd
  cases h : posM M n with
  | none =>
   show posM (M.set i d) n = none
   unfold posM at *
   rw [List.findIdx?_eq_none_iff] at h ⊢
   intro x hx
   rcases List.mem_or_eq_of_mem_set hx with hx | rfl
   ·exact h x hx
   ·simp [hne]
  | some p =>
   obtain ⟨q1, q2⟩ := posM_lt h
   have hpi : ¬ p = i := fun e => hne (by rw [← q2, e, h2])
   refine ⟨?_, by rw [nth_setG h1, if_neg hpi]⟩
   unfold posM at *
   rw [List.findIdx?_eq_some_iff_getElem] at h ⊢
   obtain ⟨a, b, c⟩ := h
   refine ⟨by simpa using a, by rw [List.getElem_set_ne (fun e => hpi e.symm)]; exact b, fun j hj => ?_⟩
   rw [List.getElem_set]
   split
   ·simp [hne]
   ·exact c j hj
def AtE (root : Bool) (name : Bs) (ds : List Dep) (i : Nat) : Option Nat → Prop
 | none => posM (byM root (ds.take i)) name = none
 | some j => j < i ∧ ∃ p, posM (byM root (ds.take i)) name = some p ∧ nth (byM root (ds.take i)) p = nth ds j
theorem atE_step {root : Bool} {name : Bs} {ds : List Dep} {i : Nat} {b : Option Nat} (hi : i < ds.length) (h : AtE root name ds i b) :
  AtE root name ds (i + 1) (if (nth ds i).name = name ∧ countsF (nth ds i) root = true ∧ (∀ j, b = some j → (nth ds i).kind < (nth ds j).kind) then some i else b) := by
 unfold AtE at *
 have hb := byM_take root hi
 generalize byM root (ds.take i) = M at *
 generalize hd : nth ds i = d at *
 by_cases hn : d.name = name
 ·subst hn
  by_cases hc : countsF d root = true
  ·by_cases hk : ∀ j, b = some j → d.kind < (nth ds j).kind
   ·rw [if_pos ⟨rfl, hc, hk⟩]
    have : stepM root M d = putM M d := by
     unfold stepM
     rw [if_pos]
     refine ⟨hc, fun p hp => ?_⟩
     cases b with
     | none => simp only at h; rw [h] at hp; cases hp
     | some j =>
      obtain ⟨_, p', h1, h2⟩ := h
      rw [h1] at hp; injection hp with hp; subst hp
      rw [h2]; exact hk j rfl
    show i < i + 1 ∧ _
    rw [hb, this, hd]
    exact ⟨by omega, posM_put⟩
   ·rw [if_neg (fun h => hk h.2.2)]
    have : stepM root M d = M := by
     unfold stepM
     rw [if_neg]
     rintro ⟨_, h3⟩
     refine hk fun j hj => ?_
     subst hj
     obtain ⟨_, p, h1, h2⟩ := h
     rw [← h2]; exact h3 p h1
    rw [hb, this]
    cases b with
    | none => exact h
    | some j => exact ⟨by have := h.1; omega, h.2⟩
  ·rw [if_neg (fun h => hc h.2.1)]
   have : stepM root M d = M := by unfold stepM; rw [if_neg (fun h => hc h.1)]
   rw [hb, this]
   cases b with
   | none => exact h
   | some j => exact ⟨by have := h.1; omega, h.2⟩
 ·rw [if_neg (fun h => hn h.1)]
  have hp := posM_other (M := M) (d := d) hn
  have : ∀ X, (X = M ∨ X = putM M d) → stepM root M d = X → (match b with
    | none => posM X name = none
    | some j => j < i + 1 ∧ ∃ p, posM X name = some p ∧ nth X p = nth ds j) := by
   rintro X (rfl | rfl) _
   ·cases b with
    | none => exact h
    | some j => exact ⟨by have := h.1; omega, h.2⟩
   ·cases b with
    | none =>
     simp only at h ⊢
     rw [h] at hp; exact hp
    | some j =>
     obtain ⟨hj, p, h1, h2⟩ := h
     rw [h1] at hp
     exact ⟨by omega, p, hp.1, hp.2.trans h2⟩
  rw [hb]
  have hs : stepM root M d = M ∨ stepM root M d = putM M d := by
   unfold stepM; split
   ·exact .inr rfl
   ·exact .inl rfl
  have := this _ hs rfl
  cases b with
  | none => exact this
  | some j => exact this
theorem atE_find {root : Bool} {name : Bs} {ds : List Dep} {b : Option Nat} (h : AtE root name ds ds.length b) (hm : name ∈ namesOf (byM root ds)) : ∃ j, b = some j ∧ j < ds.length ∧ findD (byM root ds) name = nth ds j := by
 unfold AtE at h
 rw [List.take_length] at h
 cases b with
 | none => exact absurd hm (posM_none.1 h)
 | some j =>
  obtain ⟨hj, p, h1, h2⟩ := h
  exact ⟨j, rfl, hj, by unfold findD; rw [h1]; exact h2⟩
set_option maxRecDepth 100000
set_option maxHeartbeats 4000000
def atJ : Option Nat → Int
 | none => -1
 | some j => j
theorem edge212_ok (m : Man) (rules : List Ru) (root : Bool) (name : Bs) (hd : Dep.okL m.deps) (hrl : Ru.okL rules) (hm : name ∈ namesOf (byM root m.deps)) :
  CallsOK Tryz.prog 212 [.agg m.cells, rowT Ru.cells rules, bV root, sV name] (.agg [iV (edgeOf rules (findD (byM root m.deps) name)).kind, sV (edgeOf rules (findD (byM root m.deps) name)).name, .row 0 (edgeOf rules (findD (byM root m.deps) name)).range.length]) [(83, flat Alt.cells (edgeOf rules (findD (byM root m.deps) name)).range)] := by
 have hdl := hd.1
 refine callsOK mixed Tryz.call212 Tryz.func212 rfl (by rw [Tryz.ntmps212]; simp) ?_ rfl
 rw [Tryz.ntmps212]
 with_reducible refine aR fun K' hK => ?_
 simp
 refine hK _ _ _ ?_; clear K' hK
 with_reducible refine aR fun K' hK => ?_
 simp
 refine hK _ _ _ ?_; clear K' hK
 with_reducible refine aA ?_
 with_reducible refine aw_un ?_
 refine aw_cut (fun s G nx => 2 ≤ nx ∧ s 1 = rowT Ru.cells rules ∧ s 3 = sV name ∧ s 4 = .ptr 0 0 ∧ s 8 = .ptr 1 0 ∧ G 0 = some (.var 27 m.cells) ∧ G 1 = some (.var 35 [iV 0, sV ⟨#[]⟩, .v (.slice none 0 0)]) ∧ ∃ b, s 9 = iV (atJ b) ∧ AtE root name m.deps m.deps.length b) ?_ ?_
 ·skip
  with_reducible refine aR fun K' hK => ?_
  simp
  refine hK _ _ _ ?_; clear K' hK
  with_reducible refine aw_toS (aw_block ?_)
  refine aw_loop (fun s G nx => 2 ≤ nx ∧ s 1 = rowT Ru.cells rules ∧ s 2 = bV root ∧ s 3 = sV name ∧ s 4 = .ptr 0 0 ∧ s 8 = .ptr 1 0 ∧ G 0 = some (.var 27 m.cells) ∧ G 1 = some (.var 35 [iV 0, sV ⟨#[]⟩, .v (.slice none 0 0)]) ∧ ∃ (i : Nat) (b : Option Nat), s 10 = iV i ∧ i ≤ m.deps.length ∧ s 9 = iV (atJ b) ∧ AtE root name m.deps i b) (fun s _ _ => match s 10 with | .v (.int _ n) => m.deps.length - n.toNat | _ => 0) ?_ ?_
  ·exact ⟨by omega, by simp, by simp, by simp, by simp, by simp, by simp, by simp, 0, none, by simp, by omega, by simp [atJ], rfl⟩
  ·rintro s G nx hf ⟨hnx, s1, s2, s3, s4, s8, g0, g1, i, b, s10, hi, s9, hb⟩
   have o10 := s10
   have n0 : ¬ 0 = nx := by omega
   have n1 : ¬ 1 = nx := by omega
   have hw : IntKind.i64.wrap (↑i + 1) = ((i + 1 : Nat) : Int) := wrapS (by omega)
   with_reducible refine aA ?_
   with_reducible refine aR fun K' hK => ?_
   simp [s4, s10, g0]
   refine hK _ _ _ ?_; clear K' hK
   with_reducible refine aC fun A B hA hB => ?_
   simp
   refine ⟨fun hi2 => hA ?_, fun hi2 => hB ?_⟩ <;> clear hA hB A B <;> (try simp at hi2) <;> (try with_reducible refine aK ?_)
   ·have hstep := atE_step hi2 hb
    generalize hgd : nth m.deps i = d at *
    with_reducible refine aw_block ?_
    with_reducible refine aR fun K' hK => ?_
    simp [s4, s10, g0, hi2, hgd]
    refine hK _ _ _ ?_; clear K' hK
    have yes : (d.name = name ∧ countsF d root = true ∧ (∀ j, b = some j → d.kind < (nth m.deps j).kind)) → AtE root name m.deps (i + 1) (some i) := fun h => by rw [if_pos h] at hstep; exact hstep
    have no : ¬ (d.name = name ∧ countsF d root = true ∧ (∀ j, b = some j → d.kind < (nth m.deps j).kind)) → AtE root name m.deps (i + 1) b := fun h => by rw [if_neg h] at hstep; exact hstep
    clear hstep
    by_cases hn : d.name = name
    ·have hn' : (d.name = name) = True := eq_true hn
     by_cases hc : countsF d root = true
     ·cases b with
      | none =>
       have hy := yes ⟨hn, hc, fun j h => by cases h⟩
       simp only [atJ] at s9
       with_reducible refine aQ fun K' hK => ?_
       simp [s2, s3, hn', n0]
       refine acall_flat (counts239_ok d root) rfl (by first | rfl | (simp; done) | (simp; rfl) | (simp; exact ⟨rfl, rfl⟩)) ?_
       simp [hc, s9]
       refine hK _ _ _ ?_; clear K' hK
       with_reducible refine aU (by simp) ?_
       with_reducible refine aR fun K' hK => ?_
       simp
       refine hK _ _ _ ?_; clear K' hK
       with_reducible refine aw_skipL ?_
       refine blockK_normal ?_
       with_reducible refine aS fun K' hK => ?_
       simp [s10, hw]
       refine hK _ _ _ ?_; clear K' hK
       refine aw_skipL (loopK_normal ?_ ?_)
       ·exact ⟨by omega, by simp [s1], by simp [s2], by simp [s3], by simp [s4], by simp [s8], by simp [n0, g0], by simp [n1, g1], i + 1, some i, by simp [hw], by omega, by simp [atJ, s10], hy⟩
       ·simp [o10, s10, hw]; omega
      | some j =>
       have hj : j < m.deps.length := by have := hb.1; omega
       have hj0 : ¬ (j : Int) < 0 := by omega
       simp only [atJ] at s9
       by_cases hk : d.kind < (nth m.deps j).kind
       ·have hy := yes ⟨hn, hc, fun z hz => by injection hz with hz; subst hz; exact hk⟩
        with_reducible refine aQ fun K' hK => ?_
        simp [s2, s3, hn', n0]
        refine acall_flat (counts239_ok d root) rfl (by first | rfl | (simp; done) | (simp; rfl) | (simp; exact ⟨rfl, rfl⟩)) ?_
        simp [hc, s4, s9, g0, n0, hj, hj0, hk]
        refine hK _ _ _ ?_; clear K' hK
        with_reducible refine aU (by simp) ?_
        with_reducible refine aR fun K' hK => ?_
        simp
        refine hK _ _ _ ?_; clear K' hK
        with_reducible refine aw_skipL ?_
        refine blockK_normal ?_
        with_reducible refine aS fun K' hK => ?_
        simp [s10, hw]
        refine hK _ _ _ ?_; clear K' hK
        refine aw_skipL (loopK_normal ?_ ?_)
        ·exact ⟨by omega, by simp [s1], by simp [s2], by simp [s3], by simp [s4], by simp [s8], by simp [n0, g0], by simp [n1, g1], i + 1, some i, by simp [hw], by omega, by simp [atJ, s10], hy⟩
        ·simp [o10, s10, hw]; omega
       ·have hno := no fun h => hk (h.2.2 j rfl)
        with_reducible refine aQ fun K' hK => ?_
        simp [s2, s3, hn', n0]
        refine acall_flat (counts239_ok d root) rfl (by first | rfl | (simp; done) | (simp; rfl) | (simp; exact ⟨rfl, rfl⟩)) ?_
        simp [hc, s4, s9, g0, n0, hj, hj0, hk]
        refine hK _ _ _ ?_; clear K' hK
        with_reducible refine aVk (by simp) ?_
        with_reducible refine aw_skipL ?_
        refine blockK_normal ?_
        with_reducible refine aS fun K' hK => ?_
        simp [s10, hw]
        refine hK _ _ _ ?_; clear K' hK
        refine aw_skipL (loopK_normal ?_ ?_)
        ·exact ⟨by omega, by simp [s1], by simp [s2], by simp [s3], by simp [s4], by simp [s8], by simp [n0, g0], by simp [n1, g1], i + 1, some j, by simp [hw], by omega, by simp [atJ, s9], hno⟩
        ·simp [o10, s10, hw]; omega
     ·have hc' : countsF d root = false := by simpa using hc
      have hno := no fun h => hc h.2.1
      with_reducible refine aQ fun K' hK => ?_
      simp [s2, s3, hn', n0]
      refine acall_flat (counts239_ok d root) rfl (by first | rfl | (simp; done) | (simp; rfl) | (simp; exact ⟨rfl, rfl⟩)) ?_
      simp [hc']
      refine hK _ _ _ ?_; clear K' hK
      with_reducible refine aVk (by simp) ?_
      with_reducible refine aw_skipL ?_
      refine blockK_normal ?_
      with_reducible refine aS fun K' hK => ?_
      simp [s10, hw]
      refine hK _ _ _ ?_; clear K' hK
      refine aw_skipL (loopK_normal ?_ ?_)
      ·exact ⟨by omega, by simp [s1], by simp [s2], by simp [s3], by simp [s4], by simp [s8], by simp [n0, g0], by simp [n1, g1], i + 1, b, by simp [hw], by omega, by simp [s9], hno⟩
      ·simp [o10, s10, hw]; omega
    ·have hno := no fun h => hn h.1
     with_reducible refine aQ fun K' hK => ?_
     simp (maxSteps := 1000000) [s2, s3, hn, n0]
     refine hK _ _ _ ?_; clear K' hK
     with_reducible refine aVk (by simp) ?_
     with_reducible refine aw_skipL ?_
     refine blockK_normal ?_
     with_reducible refine aS fun K' hK => ?_
     simp [s10, hw]
     refine hK _ _ _ ?_; clear K' hK
     refine aw_skipL (loopK_normal ?_ ?_)
     ·exact ⟨by omega, by simp [s1], by simp [s2], by simp [s3], by simp [s4], by simp [s8], by simp [n0, g0], by simp [n1, g1], i + 1, b, by simp [hw], by omega, by simp [s9], hno⟩
     ·simp [o10, s10, hw]; omega
   ·skip
    with_reducible refine aw_exit ?_
    refine loopK_exit (blockK_exit ?_)
    have hie : i = m.deps.length := by omega
    subst hie
    with_reducible refine aw_end ?_
    exact ⟨hnx, by simp [s1], by simp [s3], by simp [s4], by simp [s8], by simp [g0], by simp [g1], b, by simp [s9], hb⟩
 ·rintro s G nx ⟨hnx, s1, s3, s4, s8, g0, g1, b, s9, hb⟩
  obtain ⟨j, rfl, hj, hfd⟩ := atE_find hb hm
  have hdn : (nth m.deps j).name = name := by
   obtain ⟨_, p, h1, h2⟩ := hb
   rw [← h2]; exact (posM_lt h1).2
  rw [hfd]
  have hdd := hd.2 _ (nth_mem hj)
  generalize hgd : nth m.deps j = d at *
  simp only [atJ] at s9
  have n0 : ¬ 0 = nx := by omega
  have n1 : ¬ 1 = nx := by omega
  have n2 : ¬ 1 = nx + 1 := by omega
  have n3 : ¬ nx = 1 := by omega
  have z0 : ¬ nx = 0 := by omega
  have y1 : ¬ nx = nx + 1 + 1 := by omega
  have y2 : ¬ nx = nx + 1 + 1 + 1 := by omega
  have y3 : ¬ nx + 1 + 1 = nx := by omega
  have y4 : ¬ nx + 1 + 1 + 1 = nx := by omega
  have y5 : ¬ nx + 1 = nx := by omega
  have hatd : atF rules d.name = atF rules name := by rw [hdn]
  have hRu := rule240_ok rules name hrl
  unfold ruleR at hRu
  with_reducible refine aR fun K' hK => ?_
  simp [s4, s9, g0, hj, hgd]
  refine hK _ _ _ ?_; clear K' hK
  with_reducible refine aR fun K' hK => ?_
  simp [n0]
  refine acall_new (own86_ok d.range ⟨by omega, fun l hl => by have := hdd.2.2 l hl; omega⟩) (by first | rfl | (simp [Rg.cells, Dep.cells]; done) | (simp [Rg.cells, Dep.cells]; rfl) | (simp [Rg.cells, Dep.cells]; exact ⟨rfl, rfl⟩)) ?_
  simp [addJ_one, Rg.cells, Dep.cells]
  refine hK _ _ _ ?_; clear K' hK
  cases hat : atF rules name with
  | none =>
   rw [hat] at hRu hatd
   have he : edgeOf rules d = d := by unfold edgeOf; rw [hatd]
   rw [he]
   with_reducible refine aR fun K' hK => ?_
   simp [s1, s3]
   refine acall_new hRu (by first | rfl | (simp; done) | (simp; rfl) | (simp; exact ⟨rfl, rfl⟩)) ?_
   simp [addJ_nil]
   refine hK _ _ _ ?_; clear K' hK
   with_reducible refine aA ?_
   with_reducible refine aR fun K' hK => ?_
   simp
   refine hK _ _ _ ?_; clear K' hK
   with_reducible refine aYk (by simp) ?_
   with_reducible refine aR fun K' hK => ?_
   simp [s8, g1, n1, n2, n3, z0]
   refine hK _ _ _ ?_; clear K' hK
   with_reducible refine aw_retL ?_
   simp [blockK, loopK, Post, resA, res1, expT, expA, exp1, expM, expL, okT, okA, ok1, rowOf, Tryz.f212, s8, n3, z0]
  | some q =>
   rw [hat] at hRu hatd
   have he : edgeOf rules d = { d with range := (nth rules q).range } := by unfold edgeOf; rw [hatd]
   rw [he]
   with_reducible refine aR fun K' hK => ?_
   simp [s1, s3]
   refine acall_new hRu (by first | rfl | (simp; done) | (simp; rfl) | (simp; exact ⟨rfl, rfl⟩)) ?_
   simp [addJ_one]
   refine hK _ _ _ ?_; clear K' hK
   with_reducible refine aA ?_
   with_reducible refine aR fun K' hK => ?_
   simp
   refine hK _ _ _ ?_; clear K' hK
   with_reducible refine aX (by simp) ?_
   with_reducible refine aR fun K' hK => ?_
   simp [y1, y2]
   refine hK _ _ _ ?_; clear K' hK
   with_reducible refine aR fun K' hK => ?_
   simp [s8, g1, n1, n2, n3, z0, y1, y2, y3, y4]
   refine hK _ _ _ ?_; clear K' hK
   with_reducible refine aw_retL ?_
   simp [blockK, loopK, Post, resA, res1, expT, expA, exp1, expM, expL, okT, okA, ok1, rowOf, Tryz.f212, s8, n3, z0, y1, y2, y3, y4]
set_option maxRecDepth 100000
set_option maxHeartbeats 4000000
theorem of183_ok (m : Man) (rules : List Ru) (root : Bool) (hd : Dep.okL m.deps) (hdl : m.deps.length ≤ 1000000000) (hrl : Ru.okL rules) : CallsOK Tryz.prog 183 [.agg m.cells, rowT Ru.cells rules, bV root] (.row 0 (ofF m.deps rules root).length) [(35, flat Dep.cells (ofF m.deps rules root))] := by
 refine callsOK mixed Tryz.call183 Tryz.func183 rfl (by rw [Tryz.ntmps183]; simp) ?_ rfl
 rw [Tryz.ntmps183]
 have hof : ofF m.deps rules root = (namesS root m.deps).map fun n => edgeOf rules (findD (byM root m.deps) n) := rfl
 have hSl : (namesS root m.deps).length ≤ 1000000000 := by
  have := byM_len root m.deps
  unfold namesS
  rw [(sortN_perm _).length_eq]
  simp only [namesOf, List.length_map]
  omega
 have hmem : ∀ k, k < (namesS root m.deps).length → nth (namesS root m.deps) k ∈ namesOf (byM root m.deps) := fun k hk => (sortN_perm _).mem_iff.1 (nth_mem hk)
 have hn0 := next_first root ⟨#[]⟩ m.deps
 have hn1 := fun k hk => next_then root m.deps (k := k) hk
 rw [hof]
 generalize hS : namesS root m.deps = S at *
 have hel : (S.map fun n => edgeOf rules (findD (byM root m.deps) n)).length = S.length := by simp
 have c83 : Tryz.prog.cellsOf 83 = 1 := by kernel_rfl
 with_reducible refine aR fun K' hK => ?_
 simp
 refine hK _ _ _ ?_; clear K' hK
 with_reducible refine aR fun K' hK => ?_
 simp
 refine hK _ _ _ ?_; clear K' hK
 with_reducible refine aR fun K' hK => ?_
 simp
 refine acall_flat (next211_ok m hdl root true ⟨#[]⟩) rfl (by first | rfl | (simp; done) | (simp; rfl) | (simp; exact ⟨rfl, rfl⟩)) ?_
 rw [hn0]
 simp
 refine hK _ _ _ ?_; clear K' hK
 with_reducible refine aw_block ?_
 refine aw_loop (fun s G nx => s 1 = rowT Ru.cells rules ∧ s 2 = bV root ∧ s 3 = .ptr 0 0 ∧ G 0 = some (.var 27 m.cells) ∧ ∃ (k q : Nat), k ≤ S.length ∧ s 8 = sV ((if k < S.length then some (nth S k) else none).getD ⟨#[]⟩) ∧ s 9 = bV (decide (k < S.length)) ∧ s 7 = .row q k ∧ 1 ≤ q ∧ G q = some (.row 35 (flat Dep.cells ((S.take k).map fun n => edgeOf rules (findD (byM root m.deps) n))))) (fun s _ _ => match s 7 with | .row _ k => S.length - k | _ => 0) ?_ ?_
 ·refine ⟨by simp, by simp, by simp, by simp, 0, 2, by omega, by simp, ?_, by simp, by omega, by simp⟩
  by_cases h0 : 0 < S.length
  ·simp [h0]
  ·simp [h0]
 ·rintro s G nx hf ⟨s1, s2, s3, g0, k, q, hk, s8, s9, s7, hq, hG⟩
  have o7 := s7
  have hqn : q < nx := fresh_lt hf hG
  by_cases hk2 : k < S.length
  ·have hst : ((S.take (k + 1)).map fun n => edgeOf rules (findD (byM root m.deps) n)) = ((S.take k).map fun n => edgeOf rules (findD (byM root m.deps) n)) ++ [edgeOf rules (findD (byM root m.deps) (nth S k))] := by
    rw [List.take_add_one, List.getElem?_eq_getElem hk2, ← nth_eq hk2, List.map_append]; rfl
   have hE := edge212_ok m rules root (nth S k) hd hrl (hmem k hk2)
   have hN := next211_ok m hdl root false (nth S k)
   rw [hn1 k hk2] at hN
   have hec : (edgeOf rules (findD (byM root m.deps) (nth S k))).cells = [iV (edgeOf rules (findD (byM root m.deps) (nth S k))).kind, sV (edgeOf rules (findD (byM root m.deps) (nth S k))).name, rowT Alt.cells (edgeOf rules (findD (byM root m.deps) (nth S k))).range] := rfl
   generalize edgeOf rules (findD (byM root m.deps) (nth S k)) = e at *
   rw [if_pos hk2, Option.getD_some] at s8
   have htl : min k S.length = k := by omega
   have b1 : k + 1 ≤ 9223372036854775807 := by omega
   have b2 : (k + 1) * 48 ≤ 140737488355328 := by omega
   have hnl : (if k + 1 < S.length then some (nth S (k + 1)) else none).isSome = decide (k + 1 < S.length) := by split <;> simp_all
   rw [hnl] at hN
   generalize hT2 : (S.take k).map (fun n => edgeOf rules (findD (byM root m.deps) n)) = T at *
   have hTl : T.length = k := by rw [← hT2, List.length_map, List.length_take]; omega
   with_reducible refine aA ?_
   with_reducible refine aR fun K' hK => ?_
   simp [s9, hk2]
   refine hK _ _ _ ?_; clear K' hK
   with_reducible refine aXk (by simp) ?_
   with_reducible refine aw_toS (aw_block ?_)
   with_reducible refine aR fun K' hK => ?_
   simp [s1, s2, s3, s8, g0]
   refine acall_new hE (by first | rfl | (simp; done) | (simp; rfl) | (simp; exact ⟨rfl, rfl⟩)) ?_
   simp [addJ_one]
   refine hK _ _ _ ?_; clear K' hK
   refine aw_gen (fun u H nz => u 1 = rowT Ru.cells rules ∧ u 2 = bV root ∧ u 3 = .ptr 0 0 ∧ u 7 = .row q k ∧ u 8 = sV (nth S k) ∧ u 10 = .ptr (nx + 1) 0 ∧ nz = nx + 2 ∧ H 0 = some (.var 27 m.cells) ∧ H q = some (.row 35 (flat Dep.cells T)) ∧ H nx = some (.row 83 (flat Alt.cells e.range)) ∧ H (nx + 1) = some (.var 35 [iV e.kind, sV e.name, .row nx e.range.length])) ?_ ?_
   ·have e0 : ¬ 0 = nx := by omega
    have e1 : ¬ q = nx := by omega
    have e2 : ¬ q = nx + 1 := by omega
    exact ⟨by simp [s1], by simp [s2], by simp [s3], by simp [s7], by simp [s8], by simp, by omega, by simp [e0, g0], by simp [e1, e2, hG], by simp, by simp⟩
   rintro u H nz ⟨u1, u2, u3, u7, u8, u10, rfl, h0, hq2, k1, k2⟩
   have hTr : treeOf Tryz.prog H (.row nx e.range.length) = some (rowT Alt.cells e.range) := treeOf_of k1 c83 rfl
   have e0 : ¬ 0 = nx := by omega
   have e1 : ¬ q = nx := by omega
   have e2 : ¬ q = nx + 2 := by omega
   have e3 : ¬ nx + 2 = q := by omega
   have e4 : ¬ 0 = nx + 2 := by omega
   have e5 : ¬ 0 = nx + 2 + 1 := by omega
   have e6 : ¬ 0 = q := by omega
   have w0 : frzOf H (.row nx e.range.length) 0 = some (.var 27 m.cells) := by rw [frzOf_ne (by omega)]; exact h0
   with_reducible refine aR fun K' hK => ?_
   simp [u7, u10, k2, hTr, hq2, e1, e2, e3, hTl, b1, b2, treeOf_row, srcOf_row]
   refine hK _ _ _ ?_; clear K' hK
   with_reducible refine aS fun K' hK => ?_
   simp [u2, u3, u8, w0, e4, e5, e6]
   refine acall_flat hN rfl (by first | rfl | (simp [w0, e4, e5, e6]; done) | (simp [w0, e4, e5, e6]; rfl) | (simp [w0, e4, e5, e6]; exact ⟨rfl, rfl⟩)) ?_
   simp
   refine hK _ _ _ ?_; clear K' hK
   with_reducible refine aw_skipL ?_
   refine blockK_normal ?_
   refine aw_skipL (loopK_normal ?_ ?_)
   ·refine ⟨by simp [u1], by simp [u2], by simp [u3], by simp [w0, e4, e5, e6], k + 1, nx + 2 + 1, by omega, by simp, by simp, by simp, by omega, ?_⟩
    rw [hst, ← flat_snoc, hec]; simp
   ·simp [o7]; omega
  ·have hke : k = S.length := by omega
   subst hke
   rw [List.take_length] at hG
   with_reducible refine aA ?_
   with_reducible refine aR fun K' hK => ?_
   simp [s9]
   refine hK _ _ _ ?_; clear K' hK
   with_reducible refine aY (by simp) ?_
   with_reducible refine aw_exit ?_
   refine loopK_exit (blockK_exit ?_)
   with_reducible refine aR fun K' hK => ?_
   simp [s7]
   refine hK _ _ _ ?_; clear K' hK
   with_reducible refine aw_retL ?_
   simp [blockK, loopK, Post, resA, res1, expT, expA, exp1, expM, expL, okT, okA, ok1, rowOf, Tryz.f183, hG]
theorem own33_ok (L : List Man) (hl : L.length ≤ 1000000000) (hm : ∀ m ∈ L, Man.okS m) : CallsOK Tryz.prog 33 [rowT Man.cells L] (.row 0 L.length) [(27, flat Man.cells L)] := by
 refine callsOK mixed Tryz.call33 Tryz.func33 rfl (by rw [Tryz.ntmps33]; simp) ?_ rfl
 rw [Tryz.ntmps33]
 have c35 : Tryz.prog.cellsOf 35 = 3 := by kernel_rfl
 have c96 : Tryz.prog.cellsOf 96 = 2 := by kernel_rfl
 with_reducible refine aR fun K' hK => ?_
 simp
 refine hK _ _ _ ?_; clear K' hK
 with_reducible refine aR fun K' hK => ?_
 simp
 refine hK _ _ _ ?_; clear K' hK
 with_reducible refine aA ?_
 with_reducible refine aR fun K' hK => ?_
 simp
 refine hK _ _ _ ?_; clear K' hK
 with_reducible refine aw_block ?_
 refine aw_loop (fun s G nx => s 0 = rowT Man.cells L ∧ ∃ (i q : Nat), s 4 = iV i ∧ i ≤ L.length ∧ s 3 = .row q i ∧ G q = some (.row 27 (flat Man.cells (L.take i)))) (fun s _ _ => match s 4 with | .v (.int _ n) => L.length - n.toNat | _ => 0) ?_ ?_
 ·exact ⟨by simp, 0, 1, by simp, by omega, by simp, by simp⟩
 ·rintro s G nx hf ⟨s0, i, q, s4, hi, s3, hG⟩
  have o4 := s4
  have hw : IntKind.i64.wrap (↑i + 1) = ((i + 1 : Nat) : Int) := wrapS (by omega)
  with_reducible refine aA ?_
  with_reducible refine aR fun K' hK => ?_
  simp [s0, s4]
  refine hK _ _ _ ?_; clear K' hK
  with_reducible refine aC fun A B hA hB => ?_
  simp
  refine ⟨fun hi2 => hA ?_, fun hi2 => hB ?_⟩ <;> clear hA hB A B <;> (try simp at hi2) <;> (try with_reducible refine aK ?_)
  ·have hst : L.take (i + 1) = L.take i ++ [nth L i] := by rw [List.take_add_one, List.getElem?_eq_getElem hi2, ← nth_eq hi2]; rfl
   have hmo := hm _ (nth_mem hi2)
   have hqn : q < nx := fresh_lt hf hG
   have htl : min i L.length = i := by omega
   have b1 : i + 1 ≤ 9223372036854775807 := by omega
   have b2 : (i + 1) * 104 ≤ 140737488355328 := by omega
   generalize hgm : nth L i = m at *
   with_reducible refine aw_block ?_
   with_reducible refine aR fun K' hK => ?_
   simp [s0, s4, hi2, hgm]
   refine acall_new (own34_ok m hmo) (by first | rfl | (simp; done) | (simp; rfl) | (simp; exact ⟨rfl, rfl⟩)) ?_
   simp [addJ_two]
   refine hK _ _ _ ?_; clear K' hK
   refine aw_gen (fun u H nz => u 0 = rowT Man.cells L ∧ u 3 = .row q i ∧ u 4 = iV i ∧ u 5 = .ptr (nx + 2) 0 ∧ nz = nx + 3 ∧ H q = some (.row 27 (flat Man.cells (L.take i))) ∧ H nx = some (.row 35 (flat Dep.cells m.deps)) ∧ H (nx + 1) = some (.row 96 (flat Ru.cells m.rules)) ∧ H (nx + 2) = some (.var 27 (m.cellsR (.row nx m.deps.length) (.row (nx + 1) m.rules.length)))) ?_ ?_
   ·have e1 : ¬ q = nx := by omega
    have e2 : ¬ q = nx + 1 := by omega
    have e3 : ¬ q = nx + 2 := by omega
    exact ⟨by simp [s0], by simp [s3], by simp [s4], by simp, by omega, by simp [e1, e2, e3, hG], by simp, by simp, by simp [Nat.add_comm 1 nx]⟩
   rintro u H nz ⟨u0, u3, u4, u5, rfl, hG, k1, k2, k3⟩
   have hT := manR_trees (show ¬ nx + 1 = nx by omega) k1 k2
   have e1 : ¬ q = nx := by omega
   have e2 : ¬ q = nx + 1 := by omega
   have e3 : ¬ q = nx + 3 := by omega
   have e4 : ¬ nx + 3 = q := by omega
   have hq2 : frzOf (frzOf H (.row nx m.deps.length)) (.row (nx + 1) m.rules.length) q = some (.row 27 (flat Man.cells (L.take i))) := by rw [frzOf_ne (by omega), frzOf_ne (by omega)]; exact hG
   with_reducible refine aS fun K' hK => ?_
   simp [u3, u5, k3, hT, hq2, e1, e2, e3, e4, htl, b1, b2, treeOf_row, srcOf_row]
   refine hK _ _ _ ?_; clear K' hK
   with_reducible refine aw_skipL ?_
   refine blockK_normal ?_
   with_reducible refine aS fun K' hK => ?_
   simp [u4, hw]
   refine hK _ _ _ ?_; clear K' hK
   refine aw_skipL (loopK_normal ?_ ?_)
   ·exact ⟨by simp [u0], i + 1, nx + 3 + 1, by simp [hw], by omega, by simp, by rw [hst, ← flat_snoc]; simp⟩
   ·simp [o4, u4, hw]; omega
  ·skip
   with_reducible refine aw_exit ?_
   refine loopK_exit (blockK_exit ?_)
   have hie : i = L.length := by omega
   subst hie
   rw [List.take_length] at hG
   with_reducible refine aR fun K' hK => ?_
   simp [s3]
   refine hK _ _ _ ?_; clear K' hK
   with_reducible refine aw_retL ?_
   simp [blockK, loopK, Post, resA, res1, expT, expA, exp1, expM, expL, okT, okA, ok1, rowOf, Tryz.f33, hG]
set_option maxRecDepth 100000
set_option maxHeartbeats 4000000
def RowI (N : Nat) (G : Hp) (x : AV) (acc : List Int) : Prop := (x = .v (.slice none 0 0) ∧ acc = []) ∨ ∃ r, x = .row r acc.length ∧ r < N ∧ G r = some (.row 3 (flat iC acc)) ∧ acc ≠ []
theorem RowI.keep {N N' : Nat} {G G' : Hp} {x : AV} {acc : List Int} (h : RowI N G x acc) (hN : N ≤ N') (hg : ∀ i, i < N → G' i = G i) : RowI N' G' x acc := by
 rcases h with h | ⟨r, h1, h2, h3, h4⟩
 ·exact .inl h
 ·exact .inr ⟨r, h1, by omega, by rw [hg r h2]; exact h3, h4⟩
def man0 : Man := ⟨⟨#[]⟩, ⟨0, 0, 0, ⟨#[]⟩⟩, [], []⟩
theorem ofF_nil (rules : List Ru) (b : Bool) : ofF [] rules b = [] := by
 unfold ofF
 have : (namesOf (byM b ([] : List Dep))) = [] := rfl
 rw [this]
 have : sortN [] = [] := List.eq_nil_of_length_eq_zero (by rw [(sortN_perm _).length_eq]; rfl)
 rw [this]; rfl
theorem ofF_lenle {ds : List Dep} {rules : List Ru} {b : Bool} (h : ds.length ≤ 1000000000) : (ofF ds rules b).length ≤ 1000000000 := by
 have h1 := byM_len b ds
 unfold ofF
 rw [List.length_map, (sortN_perm _).length_eq]
 simp only [namesOf, List.length_map]
 omega
theorem belowL_len {t : List Pl} {i : Int} : (belowL t i).length ≤ t.length := by
 unfold belowL
 split
 ·exact belowK_len
 ·simp
end Go.Proofs.YtgipehooceecpaaGreatDoorAbs
