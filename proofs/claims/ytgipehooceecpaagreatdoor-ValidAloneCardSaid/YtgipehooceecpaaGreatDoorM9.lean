/- span.holds, near. -/
import Derived.Test.YtgipehooceecpaaGreatDoorM8
import Derived.Lib.Split
import Derived.Test.YtgipehooceecpaaGreatDoorM4
namespace Go.Proofs.YtgipehooceecpaaGreatDoorAbs
set_option linter.unusedSimpArgs false
set_option linter.unusedVariables false
open Go Go.RowKit Go.Proofs
set_option maxRecDepth 100000
set_option maxHeartbeats 1000000
def spl : List UInt8 → List (List UInt8)
 | [] => [[]]
 | b :: l => if b = 46 then [] :: spl l else match spl l with
  | [] => [[b]]
  | p :: ps => (b :: p) :: ps
theorem spl_out : ∀ {a : List UInt8}, (46 : UInt8) ∉ a → spl a = [a]
 | [], _ => rfl
 | b :: a, h => by
  have h1 : ¬ b = 46 := fun e => h (by simp [e])
  rw [spl, if_neg h1, spl_out (a := a) (fun e => h (List.mem_cons_of_mem _ e))]
theorem spl_in : ∀ {a r : List UInt8}, (46 : UInt8) ∉ a → spl (a ++ 46 :: r) = a :: spl r
 | [], r, _ => by simp [spl]
 | b :: a, r, h => by
  have h1 : ¬ b = 46 := fun e => h (by simp [e])
  rw [List.cons_append, spl, if_neg h1, spl_in (a := a) (fun e => h (List.mem_cons_of_mem _ e))]
def CutAt (l : List UInt8) (out : List (List UInt8)) (f i : Nat) : Prop :=
 (i ≤ l.length ∧ f ≤ i ∧ (∀ j, f ≤ j → j < i → by8 l j ≠ 46) ∧ out ++ spl (l.drop f) = spl l ∧ out.length ≤ f) ∨ (i = l.length + 1 ∧ out = spl l ∧ f ≤ i)
def strs (L : List (List UInt8)) : List Bs := L.map ofL
end Go.Proofs.YtgipehooceecpaaGreatDoorAbs
namespace Go.Proofs.YtgipehooceecpaaGreatDoorAbs
set_option linter.unusedSimpArgs false
set_option linter.unusedVariables false
open Go Go.RowKit Go.Proofs
set_option maxRecDepth 100000
set_option maxHeartbeats 1000000
def Pre (t : List Pl) (n : Nat) : Prop := parN t 0 = -1 ∧ ∀ j, 1 ≤ j → j ≤ n → 0 ≤ parN t j ∧ parN t j < j
theorem Pre.dn {t : List Pl} {n : Nat} (h : Pre t n) : ∀ j, j ≤ n → parN t j < j := by
 intro j hj
 rcases Nat.eq_zero_or_pos j with rfl | h1
 ·rw [h.1]; omega
 ·exact (h.2 j h1 hj).2
theorem Pre.le {t : List Pl} {n m : Nat} (h : Pre t n) (hm : m ≤ n) : Pre t m := ⟨h.1, fun j a b => h.2 j a (by omega)⟩
theorem Good.pre {t : List Pl} (g : Good t) {n : Nat} (hn : n < t.length) : Pre t n := ⟨root_par g.root, fun j h1 h2 => g.par j h1 (by omega)⟩
-- child
def chR (t : List Pl) (m : Nat) (p : Int) (b : Bs) : Int := match (List.range m).find? (fun i => decide (1 ≤ i) && chP p b (nth t i)) with
 | some i => i
 | none => -1
end Go.Proofs.YtgipehooceecpaaGreatDoorAbs
namespace Go.Proofs.YtgipehooceecpaaGreatDoorAbs
set_option linter.unusedSimpArgs false
set_option linter.unusedVariables false
open Go Go.RowKit Go.Proofs
set_option maxRecDepth 100000
set_option maxHeartbeats 1000000
end Go.Proofs.YtgipehooceecpaaGreatDoorAbs
namespace Go.Proofs.YtgipehooceecpaaGreatDoorAbs
set_option linter.unusedSimpArgs false
set_option linter.unusedVariables false
open Go Go.RowKit Go.Proofs
set_option maxRecDepth 100000
set_option maxHeartbeats 1000000
theorem under50_ok (t : List Pl) (g : Good t) (i : Nat) (hi : i < t.length) (x : Nat) : CallsOK Tryz.prog 202 [rowT Pl.cells t, iV i, iV x] (bV (underF t i x)) [] := by
 refine callsOK mixed Tryz.call202 Tryz.func202 rfl (by rw [Tryz.ntmps202]; simp) ?_ rfl
 rw [Tryz.ntmps202]
 repeat with_reducible refine aw_assoc ?_
 first | with_reducible refine aw_region0 (by decide +kernel) fun K' hK => ?_ | with_reducible refine aw_toS (aw_region0 (by decide +kernel) fun K' hK => ?_)
 simp []
 first | refine hK _ _ _ ?_ | done
 clear K' hK
 repeat with_reducible refine aw_assoc ?_
 first | with_reducible refine aw_block ?_ | with_reducible refine aw_toS (aw_block ?_)
 refine aw_loop (fun s G nx => s 0 = rowT Pl.cells t ∧ s 2 = iV x ∧ ∃ j : Nat, s 1 = iV j ∧ j < t.length ∧ underF t j x = underF t i x) (fun s _ _ => match s 1 with | .v (.int _ n) => n.toNat | _ => 0) ?_ ?_
 ·exact ⟨by simp, by simp, i, by simp, hi, rfl⟩
 ·rintro s G nx - ⟨s0, s2, j, s1, hj, hu⟩
  have o1 := s1
  repeat with_reducible refine aw_assoc ?_
  first | with_reducible refine aw_region0 (by decide +kernel) fun K' hK => ?_ | with_reducible refine aw_toS (aw_region0 (by decide +kernel) fun K' hK => ?_)
  simp [s1, s2]
  first | refine hK _ _ _ ?_ | done
  clear K' hK
  repeat with_reducible refine aw_assoc ?_
  first | with_reducible refine aw_condP fun A B hA hB => ?_ | with_reducible refine aw_toS (aw_condP fun A B hA hB => ?_)
  simp []
  refine ⟨fun hx => hA ?_, fun hx => hB ?_⟩ <;> clear hA hB A B <;> (try simp at hx) <;> (try with_reducible refine aw_skip ?_)
  ·have hp := g.par j (by omega) hj
   obtain ⟨k, hk⟩ : ∃ k : Nat, parN t j = k := ⟨(parN t j).toNat, by omega⟩
   have hkp : (nth t j).par = k := hk
   have hst := under_step g.dn hj (x : Int)
   rw [hk] at hst hp
   have h1 : ¬ (j : Int) = x := by omega
   have h2 : ¬ (k : Int) < 0 := by omega
   simp only [h1, h2, decide_false, Bool.false_or, Bool.not_false, Bool.true_and, Int.toNat_natCast] at hst
   repeat with_reducible refine aw_assoc ?_
   first | with_reducible refine aw_block ?_ | with_reducible refine aw_toS (aw_block ?_)
   repeat with_reducible refine aw_assoc ?_
   first | with_reducible refine aw_region0 (by decide +kernel) fun K' hK => ?_ | with_reducible refine aw_toS (aw_region0 (by decide +kernel) fun K' hK => ?_)
   simp [s0, s1, hj, hkp]
   first | refine hK _ _ _ ?_ | done
   clear K' hK
   first | with_reducible refine aw_skipL ?_ | skip
   refine blockK_normal ?_
   refine aw_skipL (loopK_normal ?_ ?_)
   ·exact ⟨by simp [s0], by simp [s2], k, by simp, by omega, by rw [← hst]; exact hu⟩
   ·simp [o1]; omega
  ·repeat with_reducible refine aw_assoc ?_
   first | with_reducible refine aw_exit ?_ | with_reducible refine aw_exitL ?_
   refine loopK_exit (blockK_exit ?_)
   repeat with_reducible refine aw_assoc ?_
   first | with_reducible refine aw_region0 (by decide +kernel) fun K' hK => ?_ | with_reducible refine aw_toS (aw_region0 (by decide +kernel) fun K' hK => ?_)
   simp [s1, s2]
   first | refine hK _ _ _ ?_ | done
   clear K' hK
   repeat with_reducible refine aw_assoc ?_
   first | with_reducible refine aw_ret ?_ | with_reducible refine aw_retL ?_ | with_reducible refine aw_skipL ?_
   simp [blockK, loopK, Post, resA, res1, expT, expA, exp1, expM, expL, okT, okA, ok1, rowOf, Tryz.f202]
   rw [← hu]
   by_cases he : j = x
   ·subst he
    simp [under_self g hj]
   ·have : underF t j x = false := by
     cases h : underF t j x with
     | false => rfl
     | true => have := under_ge g hj h; omega
    rw [this]
    simp; omega
theorem ints27_ok (a b : List Int) (ha : a.length ≤ 1000000000) : CallsOK Tryz.prog 37 [rowT iC a, rowT iC b] (bV (decide (a = b))) [] := by
 refine callsOK mixed Tryz.call37 Tryz.func37 rfl (by rw [Tryz.ntmps37]; simp) ?_ rfl
 rw [Tryz.ntmps37]
 repeat with_reducible refine aw_assoc ?_
 first | with_reducible refine aw_region0 (by decide +kernel) fun K' hK => ?_ | with_reducible refine aw_toS (aw_region0 (by decide +kernel) fun K' hK => ?_)
 simp []
 first | refine hK _ _ _ ?_ | done
 clear K' hK
 repeat with_reducible refine aw_assoc ?_
 first | with_reducible refine aw_region0 (by decide +kernel) fun K' hK => ?_ | with_reducible refine aw_toS (aw_region0 (by decide +kernel) fun K' hK => ?_)
 simp []
 first | refine hK _ _ _ ?_ | done
 clear K' hK
 repeat with_reducible refine aw_assoc ?_
 first | with_reducible refine aw_condP fun A B hA hB => ?_ | with_reducible refine aw_toS (aw_condP fun A B hA hB => ?_)
 simp []
 refine ⟨fun hl => hA ?_, fun hl => hB ?_⟩ <;> clear hA hB A B <;> (try simp at hl) <;> (try with_reducible refine aw_skip ?_)
 ·repeat with_reducible refine aw_assoc ?_
  first | with_reducible refine aw_region0 (by decide +kernel) fun K' hK => ?_ | with_reducible refine aw_toS (aw_region0 (by decide +kernel) fun K' hK => ?_)
  simp []
  first | refine hK _ _ _ ?_ | done
  clear K' hK
  repeat with_reducible refine aw_assoc ?_
  first | with_reducible refine aw_ret ?_ | with_reducible refine aw_retL ?_ | with_reducible refine aw_skipL ?_
  simp [blockK, loopK, Post, resA, res1, expT, expA, exp1, expM, expL, okT, okA, ok1, rowOf, Tryz.f37]
  intro e; exact hl (by rw [e])
 ·repeat with_reducible refine aw_assoc ?_
  first | with_reducible refine aw_region0 (by decide +kernel) fun K' hK => ?_ | with_reducible refine aw_toS (aw_region0 (by decide +kernel) fun K' hK => ?_)
  simp []
  first | refine hK _ _ _ ?_ | done
  clear K' hK
  repeat with_reducible refine aw_assoc ?_
  first | with_reducible refine aw_block ?_ | with_reducible refine aw_toS (aw_block ?_)
  refine aw_loop (fun s G nx => s 0 = rowT iC a ∧ s 1 = rowT iC b ∧ ∃ i : Nat, s 5 = iV i ∧ i ≤ a.length ∧ a.take i = b.take i) (fun s _ _ => match s 5 with | .v (.int _ n) => a.length - n.toNat | _ => 0) ?_ ?_
  ·exact ⟨by simp, by simp, 0, by simp, by omega, by simp⟩
  ·rintro s G nx - ⟨s0, s1, i, s5, hi, ht⟩
   have hw : IntKind.i64.wrap (↑i + 1) = ((i + 1 : Nat) : Int) := wrapS (by omega)
   repeat with_reducible refine aw_assoc ?_
   first | with_reducible refine aw_region0 (by decide +kernel) fun K' hK => ?_ | with_reducible refine aw_toS (aw_region0 (by decide +kernel) fun K' hK => ?_)
   simp [s0, s5]
   first | refine hK _ _ _ ?_ | done
   clear K' hK
   repeat with_reducible refine aw_assoc ?_
   first | with_reducible refine aw_condP fun A B hA hB => ?_ | with_reducible refine aw_toS (aw_condP fun A B hA hB => ?_)
   simp []
   refine ⟨fun hi2 => hA ?_, fun hi2 => hB ?_⟩ <;> clear hA hB A B <;> (try simp at hi2) <;> (try with_reducible refine aw_skip ?_)
   ·have hi3 : i < b.length := by omega
    repeat with_reducible refine aw_assoc ?_
    first | with_reducible refine aw_block ?_ | with_reducible refine aw_toS (aw_block ?_)
    repeat with_reducible refine aw_assoc ?_
    first | with_reducible refine aw_region1 (by decide +kernel) (by decide +kernel) fun K' hK => ?_ | with_reducible refine aw_toS (aw_region1 (by decide +kernel) (by decide +kernel) fun K' hK => ?_)
    simp (maxSteps := 1000000) [s0, s1, s5, hi2, hi3]
    first | refine hK _ _ _ ?_ | done
    clear K' hK
    by_cases h1 : nth a i = nth b i
    ·repeat with_reducible refine aw_assoc ?_
     first | with_reducible refine aw_condP fun A B hA hB => ?_ | with_reducible refine aw_toS (aw_condP fun A B hA hB => ?_)
     simp [h1]
     refine ⟨fun hc => hA ?_, fun hc => hB ?_⟩ <;> clear hA hB A B <;> (try (simp at hc; done)) <;> (try (exfalso; simp at hc; omega)) <;> clear hc <;> (try with_reducible refine aw_skip ?_)
     first | with_reducible refine aw_skipL ?_ | skip
     refine blockK_normal ?_
     repeat with_reducible refine aw_assoc ?_
     first | with_reducible refine aw_region0 (by decide +kernel) fun K' hK => ?_ | with_reducible refine aw_toS (aw_region0 (by decide +kernel) fun K' hK => ?_)
     simp [s5, hw]
     first | refine hK _ _ _ ?_ | done
     clear K' hK
     refine aw_skipL (loopK_normal ?_ ?_)
     ·exact ⟨by simp [s0], by simp [s1], i + 1, by simp [hw], by omega, take_nth hi2 hi3 ht h1⟩
     ·simp [s5, hw]; omega
    ·repeat with_reducible refine aw_assoc ?_
     first | with_reducible refine aw_condP fun A B hA hB => ?_ | with_reducible refine aw_toS (aw_condP fun A B hA hB => ?_)
     simp [h1]
     refine ⟨fun hc => hA ?_, fun hc => hB ?_⟩ <;> clear hA hB A B <;> (try (simp at hc; done)) <;> (try (exfalso; simp at hc; omega)) <;> clear hc <;> (try with_reducible refine aw_skip ?_)
     repeat with_reducible refine aw_assoc ?_
     first | with_reducible refine aw_region0 (by decide +kernel) fun K' hK => ?_ | with_reducible refine aw_toS (aw_region0 (by decide +kernel) fun K' hK => ?_)
     simp []
     first | refine hK _ _ _ ?_ | done
     clear K' hK
     repeat with_reducible refine aw_assoc ?_
     first | with_reducible refine aw_ret ?_ | with_reducible refine aw_retL ?_ | with_reducible refine aw_skipL ?_
     simp [blockK, loopK, Post, resA, res1, expT, expA, exp1, expM, expL, okT, okA, ok1, rowOf, Tryz.f37]
     exact ne_nth h1
   ·repeat with_reducible refine aw_assoc ?_
    first | with_reducible refine aw_exit ?_ | with_reducible refine aw_exitL ?_
    refine loopK_exit (blockK_exit ?_)
    repeat with_reducible refine aw_assoc ?_
    first | with_reducible refine aw_region0 (by decide +kernel) fun K' hK => ?_ | with_reducible refine aw_toS (aw_region0 (by decide +kernel) fun K' hK => ?_)
    simp []
    first | refine hK _ _ _ ?_ | done
    clear K' hK
    repeat with_reducible refine aw_assoc ?_
    first | with_reducible refine aw_ret ?_ | with_reducible refine aw_retL ?_ | with_reducible refine aw_skipL ?_
    simp [blockK, loopK, Post, resA, res1, expT, expA, exp1, expM, expL, okT, okA, ok1, rowOf, Tryz.f37]
    exact eq_of_take (by omega) (by omega) ht
end Go.Proofs.YtgipehooceecpaaGreatDoorAbs
namespace Go.Proofs.YtgipehooceecpaaGreatDoorAbs
set_option linter.unusedSimpArgs false
set_option linter.unusedVariables false
open Go Go.RowKit Go.Proofs
set_option maxRecDepth 100000
set_option maxHeartbeats 1000000
theorem c9 : Tryz.prog.cellsOf 9 = 1 := by kernel_rfl
end Go.Proofs.YtgipehooceecpaaGreatDoorAbs
namespace Go.Proofs.YtgipehooceecpaaGreatDoorAbs
set_option linter.unusedSimpArgs false
set_option linter.unusedVariables false
open Go Go.RowKit Go.Proofs
set_option maxRecDepth 100000
set_option maxHeartbeats 1000000
@[simp] theorem eqlB (a b : Bool) : evBin Tryz.prog .eql 4 (.bool a) (.bool b) = some (.bool (a == b)) := by
 cases a <;> cases b <;> kernel_rfl
def OwnAt (G : Hp) (r : Nat) (t : List Pl) : Prop := G r = some (.row 58 (flat Pl.cells t)) ∨ G r = some (.frz 58 (flat Pl.cells t))
theorem OwnAt.tree {G : Hp} {r : Nat} {t : List Pl} (h : OwnAt G r t) : treeOf Tryz.prog G (.row r t.length) = some (rowT Pl.cells t) := by
 rcases h with h | h
 ·exact treeOf_of h c34 rfl
 ·exact treeOf_of' h c34 rfl
theorem OwnAt.frz {G : Hp} {r n : Nat} {t : List Pl} (h : OwnAt G r t) : ∃ G', frzOf G (.row r n) = G' ∧ OwnAt G' r t ∧ ∀ j, j ≠ r → G' j = G j := by
 rcases h with h | h
 ·cases t with
  | nil => exact ⟨G, by rw [frzOf_row, h]; rfl, .inl h, fun _ _ => rfl⟩
  | cons p t => exact ⟨_, frz_new h (by simp), .inr (by simp), fun j hj => Hp.upd_ne _ _ hj⟩
 ·exact ⟨G, frz_old h, .inr h, fun _ _ => rfl⟩
end Go.Proofs.YtgipehooceecpaaGreatDoorAbs
namespace Go.Proofs.YtgipehooceecpaaGreatDoorAbs
set_option linter.unusedSimpArgs false
set_option linter.unusedVariables false
open Go Go.RowKit Go.Proofs
set_option maxRecDepth 100000
set_option maxHeartbeats 1000000
end Go.Proofs.YtgipehooceecpaaGreatDoorAbs
namespace Go.Proofs.YtgipehooceecpaaGreatDoorAbs
set_option linter.unusedSimpArgs false
set_option linter.unusedVariables false
open Go Go.RowKit Go.Proofs
set_option maxHeartbeats 400000
def ltB (a b : Bs) : Bool := decide (bsL a < bsL b)
@[simp] theorem str_lss (P : Program) (t : TypeId) (a b : Bs) : evBin P .lss t (.string a) (.string b) = some (.bool (ltB a b)) := by
 simp only [evBin, bytesLess_eq, toL_bsL, ltB]
theorem list_tri (a b : List UInt8) : (!(decide (a < b) || a == b)) = decide (b < a) := by
 rw [Bool.eq_iff_iff]
 simp only [Bool.not_eq_true', Bool.or_eq_false_iff, decide_eq_false_iff_not, beq_eq_false_iff_ne, decide_eq_true_eq]
 constructor
 ·rintro ⟨h1, h2⟩
  apply Classical.byContradiction
  intro h3
  exact h2 (List.le_antisymm (List.not_lt.1 h3) (List.not_lt.1 h1))
 ·intro h
  exact ⟨List.lt_asymm h, fun e => by subst e; exact List.lt_irrefl _ h⟩
@[simp] theorem str_gtr (P : Program) (t : TypeId) (a b : Bs) : evBin P .gtr t (.string a) (.string b) = some (.bool (ltB b a)) := by
 simp only [evBin, bytesLess_eq, toL_bsL, ltB]
 rw [list_tri]
@[simp] theorem str_geq (P : Program) (t : TypeId) (a b : Bs) : evBin P .geq t (.string a) (.string b) = some (.bool (!ltB a b)) := by
 simp only [evBin, bytesLess_eq, toL_bsL, ltB]
@[simp] theorem str_leq (P : Program) (t : TypeId) (a b : Bs) : evBin P .leq t (.string a) (.string b) = some (.bool (!ltB b a)) := by
 simp only [evBin, bytesLess_eq, toL_bsL, ltB]
 rw [← list_tri (bsL a) (bsL b), Bool.not_not]
def cmpI (a b : Int) : Int := if a < b then -1 else if b < a then 1 else 0
def cmpB (a b : Bs) : Int := if ltB a b = true then -1 else if ltB b a = true then 1 else 0
def partsN (a b : Bs) : Int := if numP (bsL a) = true then (if numP (bsL b) = true then cmpI (atoiN (bsL a)) (atoiN (bsL b)) else -1) else if numP (bsL b) = true then 1 else cmpB a b
def rowsN : List Bs → List Bs → Int
 | a :: x, b :: y => if partsN a b = 0 then rowsN x y else partsN a b
 | x, y => cmpI x.length y.length
def coreN (a b : Ver) : Int := if cmpI a.maj b.maj ≠ 0 then cmpI a.maj b.maj else if cmpI a.min b.min ≠ 0 then cmpI a.min b.min else cmpI a.pat b.pat
def comparN (a b : Ver) : Int := if verOk a = true ∧ verOk b = true then
  (if coreN a b ≠ 0 ∨ a.pre = b.pre then coreN a b else if a.pre = ⟨#[]⟩ then 1 else if b.pre = ⟨#[]⟩ then -1 else rowsN (strs (spl (bsL a.pre))) (strs (spl (bsL b.pre))))
 else 0
-- the digits of a number
-- what is split at points
theorem split_go : ∀ (k : Nat) (l : List UInt8), l.count 46 ≤ k → Lib.splitK [46] 0 k l = spl l
 | 0, l, h => by
  have hm : (46 : UInt8) ∉ l := by
   intro hm
   have := List.count_pos_iff.2 hm
   omega
  rw [Lib.splitK, spl_out hm]
 | k + 1, l, h => by
  rw [Lib.splitK, Lib.index_one]
  by_cases hm : (46 : UInt8) ∈ l
  ·obtain ⟨a, r, h1, rfl⟩ := first_at hm
   have hne : ((a.length : Int) == -1) = false := by rw [beq_eq_false_iff_ne]; omega
   rw [ib_in h1, hne, spl_in h1]
   simp only [Bool.false_eq_true, if_false, Int.toNat_natCast, Nat.add_zero, List.length_singleton]
   rw [List.take_left', show (a ++ 46 :: r).drop (a.length + 1) = r by simp, split_go k r]
   ·have : (a ++ 46 :: r).count 46 = r.count 46 + 1 := by
     rw [List.count_append, List.count_eq_zero_of_not_mem h1, List.count_cons_self]; omega
    omega
   ·rfl
  ·rw [ib_out hm, spl_out hm]; rfl
end Go.Proofs.YtgipehooceecpaaGreatDoorAbs
namespace Go.Proofs.YtgipehooceecpaaGreatDoorAbs
set_option linter.unusedSimpArgs false
set_option linter.unusedVariables false
open Go Go.RowKit Go.Proofs
set_option maxRecDepth 100000
set_option maxHeartbeats 400000
theorem libRow {P : Program} [Gl P] {f : FuncId} {xs vs : List Value} {e : TypeId} (hent : ∀ args w, (callFunc f args).run P w = .ok (.enter f args) w) (hv : ∀ v ∈ vs, v.oneCell' = true)
  (hc : P.cellsOf e = 1) (hne : vs ≠ []) (hmax : vs.length ≤ 1000000000)
  (h : ∀ w, Gl.ok P w → Calls P f xs.toArray w fun r w' => r = .returned (.slice (some ⟨w.heap.size, 0, none⟩) vs.length vs.length) ∧ w' = w.alloc (.cells vs.toArray e)) : CallsOK P f (xs.map .v) (.row 0 vs.length) [(e, vs.map .v)] := by
 refine ⟨rfl, hent, fun w us F hF hΓ hx => ?_⟩
 rw [all2_v hx]
 refine (h w (hΓ w (ExtC.refl _ _))).mono ?_
 rintro r w' ⟨rfl, rfl⟩
 have hb : Below w.heap.size w (w.alloc (.cells vs.toArray e)) := (Below.refl _ w).alloc (Nat.le_refl _) _
 have hcur : (w.alloc (.cells vs.toArray e)).heap[w.heap.size]? = some (.cells vs.toArray e) := World.alloc_heap_new _ _
 have hA := Rel.app (w' := w.alloc (.cells vs.toArray e)) (G := fun _ => none) (nx := 0) (e := e) (all := vs.map .v) (rel_zero hF hΓ) rfl (id := none) (b := some w.heap.size) (fun j hj => by cases hj) (fun x hx => by injection hx with hx; exact .inl (Nat.le_of_eq hx)) (Ext.of_below _ hb) (fun x hx _ => hb.block x hx)
  (fun x hx => by injection hx with hx; subst hx; exact (Array.getElem?_eq_some_iff.1 hcur).1) (fun x hx => by
   injection hx with hx; subst hx
   refine ⟨vs, hcur, by simp, fun i a u ha hu => ?_⟩
   rw [List.getElem?_map, hu] at ha
   injection ha with ha
   subst ha
   exact .v (hv u (List.mem_of_getElem? hu))) (fun h => by cases h)
 have hJ : ofJ [(e, vs.map AV.v)] = ((killId (fun _ => none) none).upd 0 (.row e (vs.map .v)) : Hp) := by
  funext i
  cases i with
  | zero => rfl
  | succ i => simp [ofJ, Hp.upd, killId]
 refine ⟨_, (En.zero F).app 0 none (some w.heap.size), rfl, ?_, by rw [hJ]; exact hA.1, rfl, hb, fun i b h => ?_⟩
 ·refine .row (show ((En.zero F).app 0 none (some w.heap.size)).K 0 from .inl rfl) rfl (fun b hb => ?_) (fun hN => ?_)
  ·simp [En.app] at hb
   subst hb
   exact ⟨vs.length, e, rfl, by omega, by simp only [maxLen]; omega, by rw [World.shape?, hcur]; simp [hc]⟩
  ·simp [En.app] at hN
 ·simp [En.app, En.zero] at h
  omega
theorem isNaN230_ok (a : Int) : CallsOK Tryz.prog 230 [iV a] (bV false) [] := by
 refine callsOK mixed Tryz.call230 Tryz.func230 rfl (by rw [Tryz.ntmps230]; simp) ?_ rfl
 rw [Tryz.ntmps230]
 repeat with_reducible refine aw_assoc ?_
 first | with_reducible refine aw_region0 (by decide +kernel) fun K' hK => ?_ | with_reducible refine aw_toS (aw_region0 (by decide +kernel) fun K' hK => ?_)
 simp []
 first | refine hK _ _ _ ?_ | done
 clear K' hK
 repeat with_reducible refine aw_assoc ?_
 first | with_reducible refine aw_region0 (by decide +kernel) fun K' hK => ?_ | with_reducible refine aw_toS (aw_region0 (by decide +kernel) fun K' hK => ?_)
 simp []
 first | refine hK _ _ _ ?_ | done
 clear K' hK
 repeat with_reducible refine aw_assoc ?_
 first | with_reducible refine aw_ret ?_ | with_reducible refine aw_retL ?_ | with_reducible refine aw_skipL ?_
 simp [blockK, loopK, Post, resA, res1, expT, expA, exp1, expM, expL, okT, okA, ok1, rowOf, Tryz.f230]
theorem cmpI_ok (a b : Int) : CallsOK Tryz.prog 196 [iV a, iV b] (iV (cmpI a b)) [] := by
 refine callsOK mixed Tryz.call196 Tryz.func196 rfl (by rw [Tryz.ntmps196]; simp) ?_ rfl
 rw [Tryz.ntmps196]
 repeat with_reducible refine aw_assoc ?_
 first | with_reducible refine aw_region0 (by decide +kernel) fun K' hK => ?_ | with_reducible refine aw_toS (aw_region0 (by decide +kernel) fun K' hK => ?_)
 simp []
 first | refine hK _ _ _ ?_ | done
 clear K' hK
 repeat with_reducible refine aw_assoc ?_
 first | with_reducible refine aw_region0 (by decide +kernel) fun K' hK => ?_ | with_reducible refine aw_toS (aw_region0 (by decide +kernel) fun K' hK => ?_)
 simp []
 refine acall_flat (isNaN230_ok a) rfl (by simp) ?_
 simp
 first | refine hK _ _ _ ?_ | done
 clear K' hK
 repeat with_reducible refine aw_assoc ?_
 first | with_reducible refine aw_region0 (by decide +kernel) fun K' hK => ?_ | with_reducible refine aw_toS (aw_region0 (by decide +kernel) fun K' hK => ?_)
 simp []
 refine acall_flat (isNaN230_ok b) rfl (by simp) ?_
 simp
 first | refine hK _ _ _ ?_ | done
 clear K' hK
 repeat with_reducible refine aw_assoc ?_
 first | with_reducible refine aw_region0 (by decide +kernel) fun K' hK => ?_ | with_reducible refine aw_toS (aw_region0 (by decide +kernel) fun K' hK => ?_)
 simp []
 first | refine hK _ _ _ ?_ | done
 clear K' hK
 repeat with_reducible refine aw_assoc ?_
 first | with_reducible refine aw_condP fun A B hA hB => ?_ | with_reducible refine aw_toS (aw_condP fun A B hA hB => ?_)
 simp []
 refine ⟨fun hc => hA ?_, fun hc => hB ?_⟩ <;> clear hA hB A B <;> (try (simp at hc; done)) <;> (try (exfalso; simp at hc; omega)) <;> clear hc <;> (try with_reducible refine aw_skip ?_)
 repeat with_reducible refine aw_assoc ?_
 first | with_reducible refine aw_region0 (by decide +kernel) fun K' hK => ?_ | with_reducible refine aw_toS (aw_region0 (by decide +kernel) fun K' hK => ?_)
 simp []
 first | refine hK _ _ _ ?_ | done
 clear K' hK
 repeat with_reducible refine aw_assoc ?_
 first | with_reducible refine aw_condP fun A B hA hB => ?_ | with_reducible refine aw_toS (aw_condP fun A B hA hB => ?_)
 simp []
 refine ⟨fun hc => hA ?_, fun hc => hB ?_⟩ <;> clear hA hB A B <;> (try (simp at hc; done)) <;> (try (exfalso; simp at hc; omega)) <;> clear hc <;> (try with_reducible refine aw_skip ?_)
 repeat with_reducible refine aw_assoc ?_
 first | with_reducible refine aw_region0 (by decide +kernel) fun K' hK => ?_ | with_reducible refine aw_toS (aw_region0 (by decide +kernel) fun K' hK => ?_)
 simp []
 first | refine hK _ _ _ ?_ | done
 clear K' hK
 repeat with_reducible refine aw_assoc ?_
 first | with_reducible refine aw_condP fun A B hA hB => ?_ | with_reducible refine aw_toS (aw_condP fun A B hA hB => ?_)
 simp []
 refine ⟨fun h1 => hA ?_, fun h1 => hB ?_⟩ <;> clear hA hB A B <;> (try simp at h1) <;> (try with_reducible refine aw_skip ?_)
 ·repeat with_reducible refine aw_assoc ?_
  first | with_reducible refine aw_region0 (by decide +kernel) fun K' hK => ?_ | with_reducible refine aw_toS (aw_region0 (by decide +kernel) fun K' hK => ?_)
  simp []
  first | refine hK _ _ _ ?_ | done
  clear K' hK
  repeat with_reducible refine aw_assoc ?_
  first | with_reducible refine aw_ret ?_ | with_reducible refine aw_retL ?_ | with_reducible refine aw_skipL ?_
  simp [blockK, loopK, Post, resA, res1, expT, expA, exp1, expM, expL, okT, okA, ok1, rowOf, Tryz.f196]
  simp [cmpI, h1]
 ·repeat with_reducible refine aw_assoc ?_
  first | with_reducible refine aw_region0 (by decide +kernel) fun K' hK => ?_ | with_reducible refine aw_toS (aw_region0 (by decide +kernel) fun K' hK => ?_)
  simp []
  first | refine hK _ _ _ ?_ | done
  clear K' hK
  repeat with_reducible refine aw_assoc ?_
  first | with_reducible refine aw_condP fun A B hA hB => ?_ | with_reducible refine aw_toS (aw_condP fun A B hA hB => ?_)
  simp []
  refine ⟨fun h2 => hA ?_, fun h2 => hB ?_⟩ <;> clear hA hB A B <;> (try simp at h2) <;> (try with_reducible refine aw_skip ?_)
  ·repeat with_reducible refine aw_assoc ?_
   first | with_reducible refine aw_region0 (by decide +kernel) fun K' hK => ?_ | with_reducible refine aw_toS (aw_region0 (by decide +kernel) fun K' hK => ?_)
   simp []
   first | refine hK _ _ _ ?_ | done
   clear K' hK
   repeat with_reducible refine aw_assoc ?_
   first | with_reducible refine aw_ret ?_ | with_reducible refine aw_retL ?_ | with_reducible refine aw_skipL ?_
   simp [blockK, loopK, Post, resA, res1, expT, expA, exp1, expM, expL, okT, okA, ok1, rowOf, Tryz.f196]
   simp [cmpI, h1, h2]
  ·repeat with_reducible refine aw_assoc ?_
   first | with_reducible refine aw_region0 (by decide +kernel) fun K' hK => ?_ | with_reducible refine aw_toS (aw_region0 (by decide +kernel) fun K' hK => ?_)
   simp []
   first | refine hK _ _ _ ?_ | done
   clear K' hK
   repeat with_reducible refine aw_assoc ?_
   first | with_reducible refine aw_ret ?_ | with_reducible refine aw_retL ?_ | with_reducible refine aw_skipL ?_
   simp [blockK, loopK, Post, resA, res1, expT, expA, exp1, expM, expL, okT, okA, ok1, rowOf, Tryz.f196]
   simp only [cmpI]; rw [if_neg (by omega), if_neg (by omega)]
theorem isNaN195_ok (a : Bs) : CallsOK Tryz.prog 195 [sV a] (bV false) [] := by
 refine callsOK mixed Tryz.call195 Tryz.func195 rfl (by rw [Tryz.ntmps195]; simp) ?_ rfl
 rw [Tryz.ntmps195]
 repeat with_reducible refine aw_assoc ?_
 first | with_reducible refine aw_region0 (by decide +kernel) fun K' hK => ?_ | with_reducible refine aw_toS (aw_region0 (by decide +kernel) fun K' hK => ?_)
 simp []
 first | refine hK _ _ _ ?_ | done
 clear K' hK
 repeat with_reducible refine aw_assoc ?_
 first | with_reducible refine aw_region0 (by decide +kernel) fun K' hK => ?_ | with_reducible refine aw_toS (aw_region0 (by decide +kernel) fun K' hK => ?_)
 simp []
 first | refine hK _ _ _ ?_ | done
 clear K' hK
 repeat with_reducible refine aw_assoc ?_
 first | with_reducible refine aw_ret ?_ | with_reducible refine aw_retL ?_ | with_reducible refine aw_skipL ?_
 simp [blockK, loopK, Post, resA, res1, expT, expA, exp1, expM, expL, okT, okA, ok1, rowOf, Tryz.f195]
theorem cmpB_ok (a b : Bs) : CallsOK Tryz.prog 159 [sV a, sV b] (iV (cmpB a b)) [] := by
 refine callsOK mixed Tryz.call159 Tryz.func159 rfl (by rw [Tryz.ntmps159]; simp) ?_ rfl
 rw [Tryz.ntmps159]
 repeat with_reducible refine aw_assoc ?_
 first | with_reducible refine aw_region0 (by decide +kernel) fun K' hK => ?_ | with_reducible refine aw_toS (aw_region0 (by decide +kernel) fun K' hK => ?_)
 simp []
 first | refine hK _ _ _ ?_ | done
 clear K' hK
 repeat with_reducible refine aw_assoc ?_
 first | with_reducible refine aw_region0 (by decide +kernel) fun K' hK => ?_ | with_reducible refine aw_toS (aw_region0 (by decide +kernel) fun K' hK => ?_)
 simp []
 refine acall_flat (isNaN195_ok a) rfl (by simp) ?_
 simp
 first | refine hK _ _ _ ?_ | done
 clear K' hK
 repeat with_reducible refine aw_assoc ?_
 first | with_reducible refine aw_region0 (by decide +kernel) fun K' hK => ?_ | with_reducible refine aw_toS (aw_region0 (by decide +kernel) fun K' hK => ?_)
 simp []
 refine acall_flat (isNaN195_ok b) rfl (by simp) ?_
 simp
 first | refine hK _ _ _ ?_ | done
 clear K' hK
 repeat with_reducible refine aw_assoc ?_
 first | with_reducible refine aw_region0 (by decide +kernel) fun K' hK => ?_ | with_reducible refine aw_toS (aw_region0 (by decide +kernel) fun K' hK => ?_)
 simp []
 first | refine hK _ _ _ ?_ | done
 clear K' hK
 repeat with_reducible refine aw_assoc ?_
 first | with_reducible refine aw_condP fun A B hA hB => ?_ | with_reducible refine aw_toS (aw_condP fun A B hA hB => ?_)
 simp []
 refine ⟨fun hc => hA ?_, fun hc => hB ?_⟩ <;> clear hA hB A B <;> (try (simp at hc; done)) <;> (try (exfalso; simp at hc; omega)) <;> clear hc <;> (try with_reducible refine aw_skip ?_)
 repeat with_reducible refine aw_assoc ?_
 first | with_reducible refine aw_region0 (by decide +kernel) fun K' hK => ?_ | with_reducible refine aw_toS (aw_region0 (by decide +kernel) fun K' hK => ?_)
 simp []
 first | refine hK _ _ _ ?_ | done
 clear K' hK
 repeat with_reducible refine aw_assoc ?_
 first | with_reducible refine aw_condP fun A B hA hB => ?_ | with_reducible refine aw_toS (aw_condP fun A B hA hB => ?_)
 simp []
 refine ⟨fun hc => hA ?_, fun hc => hB ?_⟩ <;> clear hA hB A B <;> (try (simp at hc; done)) <;> (try (exfalso; simp at hc; omega)) <;> clear hc <;> (try with_reducible refine aw_skip ?_)
 repeat with_reducible refine aw_assoc ?_
 first | with_reducible refine aw_region0 (by decide +kernel) fun K' hK => ?_ | with_reducible refine aw_toS (aw_region0 (by decide +kernel) fun K' hK => ?_)
 simp []
 first | refine hK _ _ _ ?_ | done
 clear K' hK
 repeat with_reducible refine aw_assoc ?_
 first | with_reducible refine aw_condP fun A B hA hB => ?_ | with_reducible refine aw_toS (aw_condP fun A B hA hB => ?_)
 simp []
 refine ⟨fun h1 => hA ?_, fun h1 => hB ?_⟩ <;> clear hA hB A B <;> (try simp at h1) <;> (try with_reducible refine aw_skip ?_)
 ·repeat with_reducible refine aw_assoc ?_
  first | with_reducible refine aw_region0 (by decide +kernel) fun K' hK => ?_ | with_reducible refine aw_toS (aw_region0 (by decide +kernel) fun K' hK => ?_)
  simp []
  first | refine hK _ _ _ ?_ | done
  clear K' hK
  repeat with_reducible refine aw_assoc ?_
  first | with_reducible refine aw_ret ?_ | with_reducible refine aw_retL ?_ | with_reducible refine aw_skipL ?_
  simp [blockK, loopK, Post, resA, res1, expT, expA, exp1, expM, expL, okT, okA, ok1, rowOf, Tryz.f159]
  simp [cmpB, h1]
 ·repeat with_reducible refine aw_assoc ?_
  first | with_reducible refine aw_region0 (by decide +kernel) fun K' hK => ?_ | with_reducible refine aw_toS (aw_region0 (by decide +kernel) fun K' hK => ?_)
  simp []
  first | refine hK _ _ _ ?_ | done
  clear K' hK
  repeat with_reducible refine aw_assoc ?_
  first | with_reducible refine aw_condP fun A B hA hB => ?_ | with_reducible refine aw_toS (aw_condP fun A B hA hB => ?_)
  simp []
  refine ⟨fun h2 => hA ?_, fun h2 => hB ?_⟩ <;> clear hA hB A B <;> (try simp at h2) <;> (try with_reducible refine aw_skip ?_)
  ·repeat with_reducible refine aw_assoc ?_
   first | with_reducible refine aw_region0 (by decide +kernel) fun K' hK => ?_ | with_reducible refine aw_toS (aw_region0 (by decide +kernel) fun K' hK => ?_)
   simp []
   first | refine hK _ _ _ ?_ | done
   clear K' hK
   repeat with_reducible refine aw_assoc ?_
   first | with_reducible refine aw_ret ?_ | with_reducible refine aw_retL ?_ | with_reducible refine aw_skipL ?_
   simp [blockK, loopK, Post, resA, res1, expT, expA, exp1, expM, expL, okT, okA, ok1, rowOf, Tryz.f159]
   simp [cmpB, h1, h2]
  ·repeat with_reducible refine aw_assoc ?_
   first | with_reducible refine aw_region0 (by decide +kernel) fun K' hK => ?_ | with_reducible refine aw_toS (aw_region0 (by decide +kernel) fun K' hK => ?_)
   simp []
   first | refine hK _ _ _ ?_ | done
   clear K' hK
   repeat with_reducible refine aw_assoc ?_
   first | with_reducible refine aw_ret ?_ | with_reducible refine aw_retL ?_ | with_reducible refine aw_skipL ?_
   simp [blockK, loopK, Post, resA, res1, expT, expA, exp1, expM, expL, okT, okA, ok1, rowOf, Tryz.f159]
   simp [cmpB, h1, h2]
theorem splC : ∀ (k : Nat) (l : List UInt8), l.count 46 ≤ k → (spl l).length = l.count 46 + 1 ∧ Lib.count l [46] = l.count 46
 | k, l, h => by
  by_cases hm : (46 : UInt8) ∈ l
  ·obtain ⟨a, r, h1, rfl⟩ := first_at hm
   have hc : (a ++ 46 :: r).count 46 = r.count 46 + 1 := by
    rw [List.count_append, List.count_eq_zero_of_not_mem h1, List.count_cons_self]; omega
   match k, h with
   | 0, h => omega
   | k + 1, h =>
    obtain ⟨i1, i2⟩ := splC k r (by omega)
    have hi : Lib.index (a ++ 46 :: r) [46] = a.length := by rw [Lib.index_one, ib_in h1]
    rw [Lib.count_hit (by simp) hi, spl_in h1, List.length_singleton, show (a ++ 46 :: r).drop (a.length + 1) = r by simp, i2, hc, List.length_cons, i1]
    omega
  ·have hc : l.count 46 = 0 := List.count_eq_zero_of_not_mem hm
   have hi : Lib.index l [46] = -1 := by rw [Lib.index_one, ib_out hm]
   rw [Lib.count_miss hi, spl_out hm, hc]
   simp
theorem split_ok (s : Bs) (hs : s.size ≤ 1000000) : CallsOK Tryz.prog 198 [sV s, sV ⟨#[46]⟩] (.row 0 (strs (spl (bsL s))).length) [(9, flat sC (strs (spl (bsL s))))] := by
 have e0 : (Lib.splitB ⟨#[46]⟩ 0 (Lib.countB s ⟨#[46]⟩) s).map bsL = spl (bsL s) := by
  have := Lib.splitB_data ⟨#[46]⟩ 0 (Lib.countB s ⟨#[46]⟩) s
  rw [show (fun x : ByteArray => x.data.toList) = bsL from rfl] at this
  rw [this]
  refine split_go _ _ ?_
  exact Nat.le_of_eq (splC _ _ (Nat.le_refl _)).2.symm
 have e1 : strs (spl (bsL s)) = Lib.splitB ⟨#[46]⟩ 0 (Lib.countB s ⟨#[46]⟩) s := by
  rw [← e0, strs, List.map_map]
  conv => rhs; rw [← List.map_id (Lib.splitB _ _ _ _)]
  exact List.map_congr_left fun x _ => ofL_bsL x
 have hlen : Lib.countB s ⟨#[46]⟩ + 1 = (strs (spl (bsL s))).length := by
  have h := splC _ (bsL s) (Nat.le_refl _)
  rw [strs, List.length_map, h.1]
  exact congrArg (· + 1) h.2
 have hl : (strs (spl (bsL s))).length ≤ s.size + 1 := by
  have h1 := (splC _ (bsL s) (Nat.le_refl _)).1
  have h2 := List.count_le_length (a := (46 : UInt8)) (l := bsL s)
  rw [bsL_len] at h2
  simp only [strs, List.length_map]
  omega
 have h := libRow (f := 198) (xs := [.string s, .string ⟨#[46]⟩]) (vs := (strs (spl (bsL s))).map Value.string) (e := 9) Tryz.call198 (by simp [Value.oneCell']) (by kernel_rfl) (by simp [← List.length_pos_iff]; omega) (by simp; omega) fun w hw => by
  obtain ⟨m, hm⟩ := hw.2.2.2.1
  refine (Tryz.strings_Split s ⟨#[46]⟩ m w (by omega) hm (by decide)).mono ?_
  rintro e w' ⟨rfl, rfl⟩
  rw [← e1, hlen]
  simp
 have e2 : ((strs (spl (bsL s))).map Value.string).map AV.v = flat sC (strs (spl (bsL s))) := by
  unfold flat
  generalize strs (spl (bsL s)) = L
  induction L with
  | nil => rfl
  | cons a L ih => rw [List.map_cons, List.map_cons, List.flatMap_cons, ih]; rfl
 rw [e2, List.length_map] at h
 exact h
theorem parts_ok (a b : Bs) (ha : a.size ≤ 4000000000) (hb : b.size ≤ 4000000000) : CallsOK Tryz.prog 199 [sV a, sV b] (iV (partsN a b)) [] := by
 refine callsOK mixed Tryz.call199 Tryz.func199 rfl (by rw [Tryz.ntmps199]; simp) ?_ rfl
 rw [Tryz.ntmps199]
 repeat with_reducible refine aw_assoc ?_
 first | with_reducible refine aw_region0 (by decide +kernel) fun K' hK => ?_ | with_reducible refine aw_toS (aw_region0 (by decide +kernel) fun K' hK => ?_)
 simp []
 first | refine hK _ _ _ ?_ | done
 clear K' hK
 repeat with_reducible refine aw_assoc ?_
 first | with_reducible refine aw_region0 (by decide +kernel) fun K' hK => ?_ | with_reducible refine aw_toS (aw_region0 (by decide +kernel) fun K' hK => ?_)
 simp []
 refine acall_flat (number87_ok a ha) rfl (by simp) ?_
 simp
 first | refine hK _ _ _ ?_ | done
 clear K' hK
 repeat with_reducible refine aw_assoc ?_
 first | with_reducible refine aw_region0 (by decide +kernel) fun K' hK => ?_ | with_reducible refine aw_toS (aw_region0 (by decide +kernel) fun K' hK => ?_)
 simp []
 refine acall_flat (number87_ok b hb) rfl (by simp) ?_
 simp
 first | refine hK _ _ _ ?_ | done
 clear K' hK
 repeat with_reducible refine aw_assoc ?_
 first | with_reducible refine aw_block ?_ | with_reducible refine aw_toS (aw_block ?_)
 by_cases h1 : numP (bsL a) = true
 ·by_cases h2 : numP (bsL b) = true
  ·repeat with_reducible refine aw_assoc ?_
   first | with_reducible refine aw_region0 (by decide +kernel) fun K' hK => ?_ | with_reducible refine aw_toS (aw_region0 (by decide +kernel) fun K' hK => ?_)
   simp [h1, h2]
   first | refine hK _ _ _ ?_ | done
   clear K' hK
   repeat with_reducible refine aw_assoc ?_
   first | with_reducible refine aw_condP fun A B hA hB => ?_ | with_reducible refine aw_toS (aw_condP fun A B hA hB => ?_)
   simp [h1, h2]
   refine ⟨fun hc => hA ?_, fun hc => hB ?_⟩ <;> clear hA hB A B <;> (try (simp at hc; done)) <;> (try (exfalso; simp at hc; omega)) <;> clear hc <;> (try with_reducible refine aw_skip ?_)
   repeat with_reducible refine aw_assoc ?_
   first | with_reducible refine aw_region0 (by decide +kernel) fun K' hK => ?_ | with_reducible refine aw_toS (aw_region0 (by decide +kernel) fun K' hK => ?_)
   simp []
   refine acall_flat (cmpI_ok (atoiN (bsL a)) (atoiN (bsL b))) rfl (by simp) ?_
   simp
   first | refine hK _ _ _ ?_ | done
   clear K' hK
   repeat with_reducible refine aw_assoc ?_
   first | with_reducible refine aw_ret ?_ | with_reducible refine aw_retL ?_ | with_reducible refine aw_skipL ?_
   simp [blockK, loopK, Post, resA, res1, expT, expA, exp1, expM, expL, okT, okA, ok1, rowOf, Tryz.f199]
   simp [partsN, h1, h2]
  ·repeat with_reducible refine aw_assoc ?_
   first | with_reducible refine aw_region0 (by decide +kernel) fun K' hK => ?_ | with_reducible refine aw_toS (aw_region0 (by decide +kernel) fun K' hK => ?_)
   simp [h1, h2]
   first | refine hK _ _ _ ?_ | done
   clear K' hK
   repeat with_reducible refine aw_assoc ?_
   first | with_reducible refine aw_condP fun A B hA hB => ?_ | with_reducible refine aw_toS (aw_condP fun A B hA hB => ?_)
   simp [h1, h2]
   refine ⟨fun hc => hA ?_, fun hc => hB ?_⟩ <;> clear hA hB A B <;> (try (simp at hc; done)) <;> (try (exfalso; simp at hc; omega)) <;> clear hc <;> (try with_reducible refine aw_skip ?_)
   repeat with_reducible refine aw_assoc ?_
   first | with_reducible refine aw_region0 (by decide +kernel) fun K' hK => ?_ | with_reducible refine aw_toS (aw_region0 (by decide +kernel) fun K' hK => ?_)
   simp [h1, h2]
   first | refine hK _ _ _ ?_ | done
   clear K' hK
   repeat with_reducible refine aw_assoc ?_
   first | with_reducible refine aw_condP fun A B hA hB => ?_ | with_reducible refine aw_toS (aw_condP fun A B hA hB => ?_)
   simp [h1, h2]
   refine ⟨fun hc => hA ?_, fun hc => hB ?_⟩ <;> clear hA hB A B <;> (try (simp at hc; done)) <;> (try (exfalso; simp at hc; omega)) <;> clear hc <;> (try with_reducible refine aw_skip ?_)
   repeat with_reducible refine aw_assoc ?_
   first | with_reducible refine aw_region0 (by decide +kernel) fun K' hK => ?_ | with_reducible refine aw_toS (aw_region0 (by decide +kernel) fun K' hK => ?_)
   simp []
   first | refine hK _ _ _ ?_ | done
   clear K' hK
   repeat with_reducible refine aw_assoc ?_
   first | with_reducible refine aw_ret ?_ | with_reducible refine aw_retL ?_ | with_reducible refine aw_skipL ?_
   simp [blockK, loopK, Post, resA, res1, expT, expA, exp1, expM, expL, okT, okA, ok1, rowOf, Tryz.f199]
   simp [partsN, h1, h2]
 ·by_cases h2 : numP (bsL b) = true
  ·repeat with_reducible refine aw_assoc ?_
   first | with_reducible refine aw_region0 (by decide +kernel) fun K' hK => ?_ | with_reducible refine aw_toS (aw_region0 (by decide +kernel) fun K' hK => ?_)
   simp [h1, h2]
   first | refine hK _ _ _ ?_ | done
   clear K' hK
   repeat with_reducible refine aw_assoc ?_
   first | with_reducible refine aw_condP fun A B hA hB => ?_ | with_reducible refine aw_toS (aw_condP fun A B hA hB => ?_)
   simp [h1, h2]
   refine ⟨fun hc => hA ?_, fun hc => hB ?_⟩ <;> clear hA hB A B <;> (try (simp at hc; done)) <;> (try (exfalso; simp at hc; omega)) <;> clear hc <;> (try with_reducible refine aw_skip ?_)
   repeat with_reducible refine aw_assoc ?_
   first | with_reducible refine aw_region0 (by decide +kernel) fun K' hK => ?_ | with_reducible refine aw_toS (aw_region0 (by decide +kernel) fun K' hK => ?_)
   simp [h1, h2]
   first | refine hK _ _ _ ?_ | done
   clear K' hK
   repeat with_reducible refine aw_assoc ?_
   first | with_reducible refine aw_condP fun A B hA hB => ?_ | with_reducible refine aw_toS (aw_condP fun A B hA hB => ?_)
   simp [h1, h2]
   refine ⟨fun hc => hA ?_, fun hc => hB ?_⟩ <;> clear hA hB A B <;> (try (simp at hc; done)) <;> (try (exfalso; simp at hc; omega)) <;> clear hc <;> (try with_reducible refine aw_skip ?_)
   repeat with_reducible refine aw_assoc ?_
   first | with_reducible refine aw_region0 (by decide +kernel) fun K' hK => ?_ | with_reducible refine aw_toS (aw_region0 (by decide +kernel) fun K' hK => ?_)
   simp [h1, h2]
   first | refine hK _ _ _ ?_ | done
   clear K' hK
   repeat with_reducible refine aw_assoc ?_
   first | with_reducible refine aw_condP fun A B hA hB => ?_ | with_reducible refine aw_toS (aw_condP fun A B hA hB => ?_)
   simp [h1, h2]
   refine ⟨fun hc => hA ?_, fun hc => hB ?_⟩ <;> clear hA hB A B <;> (try (simp at hc; done)) <;> (try (exfalso; simp at hc; omega)) <;> clear hc <;> (try with_reducible refine aw_skip ?_)
   repeat with_reducible refine aw_assoc ?_
   first | with_reducible refine aw_region0 (by decide +kernel) fun K' hK => ?_ | with_reducible refine aw_toS (aw_region0 (by decide +kernel) fun K' hK => ?_)
   simp []
   first | refine hK _ _ _ ?_ | done
   clear K' hK
   repeat with_reducible refine aw_assoc ?_
   first | with_reducible refine aw_ret ?_ | with_reducible refine aw_retL ?_ | with_reducible refine aw_skipL ?_
   simp [blockK, loopK, Post, resA, res1, expT, expA, exp1, expM, expL, okT, okA, ok1, rowOf, Tryz.f199]
   simp [partsN, h1, h2]
  ·repeat with_reducible refine aw_assoc ?_
   first | with_reducible refine aw_region0 (by decide +kernel) fun K' hK => ?_ | with_reducible refine aw_toS (aw_region0 (by decide +kernel) fun K' hK => ?_)
   simp [h1, h2]
   first | refine hK _ _ _ ?_ | done
   clear K' hK
   repeat with_reducible refine aw_assoc ?_
   first | with_reducible refine aw_condP fun A B hA hB => ?_ | with_reducible refine aw_toS (aw_condP fun A B hA hB => ?_)
   simp [h1, h2]
   refine ⟨fun hc => hA ?_, fun hc => hB ?_⟩ <;> clear hA hB A B <;> (try (simp at hc; done)) <;> (try (exfalso; simp at hc; omega)) <;> clear hc <;> (try with_reducible refine aw_skip ?_)
   repeat with_reducible refine aw_assoc ?_
   first | with_reducible refine aw_region0 (by decide +kernel) fun K' hK => ?_ | with_reducible refine aw_toS (aw_region0 (by decide +kernel) fun K' hK => ?_)
   simp [h1, h2]
   first | refine hK _ _ _ ?_ | done
   clear K' hK
   repeat with_reducible refine aw_assoc ?_
   first | with_reducible refine aw_condP fun A B hA hB => ?_ | with_reducible refine aw_toS (aw_condP fun A B hA hB => ?_)
   simp [h1, h2]
   refine ⟨fun hc => hA ?_, fun hc => hB ?_⟩ <;> clear hA hB A B <;> (try (simp at hc; done)) <;> (try (exfalso; simp at hc; omega)) <;> clear hc <;> (try with_reducible refine aw_skip ?_)
   repeat with_reducible refine aw_assoc ?_
   first | with_reducible refine aw_region0 (by decide +kernel) fun K' hK => ?_ | with_reducible refine aw_toS (aw_region0 (by decide +kernel) fun K' hK => ?_)
   simp [h1, h2]
   first | refine hK _ _ _ ?_ | done
   clear K' hK
   repeat with_reducible refine aw_assoc ?_
   first | with_reducible refine aw_condP fun A B hA hB => ?_ | with_reducible refine aw_toS (aw_condP fun A B hA hB => ?_)
   simp [h1, h2]
   refine ⟨fun hc => hA ?_, fun hc => hB ?_⟩ <;> clear hA hB A B <;> (try (simp at hc; done)) <;> (try (exfalso; simp at hc; omega)) <;> clear hc <;> (try with_reducible refine aw_skip ?_)
   first | with_reducible refine aw_skipL ?_ | skip
   refine blockK_normal ?_
   repeat with_reducible refine aw_assoc ?_
   first | with_reducible refine aw_region0 (by decide +kernel) fun K' hK => ?_ | with_reducible refine aw_toS (aw_region0 (by decide +kernel) fun K' hK => ?_)
   simp []
   refine acall_flat (cmpB_ok a b) rfl (by simp) ?_
   simp
   first | refine hK _ _ _ ?_ | done
   clear K' hK
   repeat with_reducible refine aw_assoc ?_
   first | with_reducible refine aw_ret ?_ | with_reducible refine aw_retL ?_ | with_reducible refine aw_skipL ?_
   simp [blockK, loopK, Post, resA, res1, expT, expA, exp1, expM, expL, okT, okA, ok1, rowOf, Tryz.f199]
   simp [partsN, h1, h2]
end Go.Proofs.YtgipehooceecpaaGreatDoorAbs
namespace Go.Proofs.YtgipehooceecpaaGreatDoorAbs
set_option linter.unusedSimpArgs false
set_option linter.unusedVariables false
open Go Go.RowKit Go.Proofs
set_option maxRecDepth 100000
set_option maxHeartbeats 1000000
def orN : List Int → Int
 | [] => 0
 | a :: l => if a = 0 then orN l else a
theorem orN_drop {l : List Int} {i : Nat} (h : i < l.length) : orN (l.drop i) = if nth l i = 0 then orN (l.drop (i + 1)) else nth l i := by
 rw [List.drop_eq_getElem_cons h, orN, nth_eq h]
theorem or_ok (l : List Int) (hl : l.length < 4611686018427387904) : CallsOK Tryz.prog 157 [rowT iC l] (iV (orN l)) [] := by
 refine callsOK mixed Tryz.call157 Tryz.func157 rfl (by rw [Tryz.ntmps157]; simp) ?_ rfl
 rw [Tryz.ntmps157]
 repeat with_reducible refine aw_assoc ?_
 first | with_reducible refine aw_region0 (by decide +kernel) fun K' hK => ?_ | with_reducible refine aw_toS (aw_region0 (by decide +kernel) fun K' hK => ?_)
 simp []
 first | refine hK _ _ _ ?_ | done
 clear K' hK
 repeat with_reducible refine aw_assoc ?_
 first | with_reducible refine aw_region0 (by decide +kernel) fun K' hK => ?_ | with_reducible refine aw_toS (aw_region0 (by decide +kernel) fun K' hK => ?_)
 simp []
 first | refine hK _ _ _ ?_ | done
 clear K' hK
 repeat with_reducible refine aw_assoc ?_
 first | with_reducible refine aw_region0 (by decide +kernel) fun K' hK => ?_ | with_reducible refine aw_toS (aw_region0 (by decide +kernel) fun K' hK => ?_)
 simp []
 first | refine hK _ _ _ ?_ | done
 clear K' hK
 repeat with_reducible refine aw_assoc ?_
 first | with_reducible refine aw_block ?_ | with_reducible refine aw_toS (aw_block ?_)
 refine aw_loop (fun s G nx => s 6 = rowT iC l ∧ s 3 = iV 0 ∧ s 7 = iV l.length ∧ ∃ i : Nat, s 8 = iV i ∧ i ≤ l.length ∧ orN l = orN (l.drop i)) (fun s _ _ => match s 8 with | .v (.int _ n) => l.length - n.toNat | _ => 0) ?_ ?_
 ·exact ⟨by simp, by simp, by simp, 0, by simp, by omega, by simp⟩
 ·rintro s G nx - ⟨s6, s3, s7, i, s8, hi, ht⟩
  have hw : IntKind.i64.wrap (↑i + 1) = ((i + 1 : Nat) : Int) := wrapS (by omega)
  repeat with_reducible refine aw_assoc ?_
  first | with_reducible refine aw_region0 (by decide +kernel) fun K' hK => ?_ | with_reducible refine aw_toS (aw_region0 (by decide +kernel) fun K' hK => ?_)
  simp [s7, s8]
  first | refine hK _ _ _ ?_ | done
  clear K' hK
  repeat with_reducible refine aw_assoc ?_
  first | with_reducible refine aw_condP fun A B hA hB => ?_ | with_reducible refine aw_toS (aw_condP fun A B hA hB => ?_)
  simp []
  refine ⟨fun hi2 => hA ?_, fun hi2 => hB ?_⟩ <;> clear hA hB A B <;> (try simp at hi2) <;> (try with_reducible refine aw_skip ?_)
  ·have hstep := orN_drop hi2
   repeat with_reducible refine aw_assoc ?_
   first | with_reducible refine aw_block ?_ | with_reducible refine aw_toS (aw_block ?_)
   repeat with_reducible refine aw_assoc ?_
   first | with_reducible refine aw_region0 (by decide +kernel) fun K' hK => ?_ | with_reducible refine aw_toS (aw_region0 (by decide +kernel) fun K' hK => ?_)
   simp [s6, s8, hi2]
   first | refine hK _ _ _ ?_ | done
   clear K' hK
   by_cases h0 : nth l i = 0
   ·repeat with_reducible refine aw_assoc ?_
    first | with_reducible refine aw_region0 (by decide +kernel) fun K' hK => ?_ | with_reducible refine aw_toS (aw_region0 (by decide +kernel) fun K' hK => ?_)
    simp [s3, h0]
    first | refine hK _ _ _ ?_ | done
    clear K' hK
    repeat with_reducible refine aw_assoc ?_
    first | with_reducible refine aw_condP fun A B hA hB => ?_ | with_reducible refine aw_toS (aw_condP fun A B hA hB => ?_)
    simp [h0]
    refine ⟨fun hc => hA ?_, fun hc => hB ?_⟩ <;> clear hA hB A B <;> (try (simp at hc; done)) <;> (try (exfalso; simp at hc; omega)) <;> clear hc <;> (try with_reducible refine aw_skip ?_)
    first | with_reducible refine aw_skipL ?_ | skip
    refine blockK_normal ?_
    repeat with_reducible refine aw_assoc ?_
    first | with_reducible refine aw_region0 (by decide +kernel) fun K' hK => ?_ | with_reducible refine aw_toS (aw_region0 (by decide +kernel) fun K' hK => ?_)
    simp [s8, hw]
    first | refine hK _ _ _ ?_ | done
    clear K' hK
    refine aw_skipL (loopK_normal ?_ ?_)
    ·exact ⟨by simp [s6], by simp [s3], by simp [s7], i + 1, by simp [hw], by omega, by rw [ht, hstep, if_pos h0]⟩
    ·simp [s8, hw]; omega
   ·repeat with_reducible refine aw_assoc ?_
    first | with_reducible refine aw_region0 (by decide +kernel) fun K' hK => ?_ | with_reducible refine aw_toS (aw_region0 (by decide +kernel) fun K' hK => ?_)
    simp [s3, h0]
    first | refine hK _ _ _ ?_ | done
    clear K' hK
    repeat with_reducible refine aw_assoc ?_
    first | with_reducible refine aw_condP fun A B hA hB => ?_ | with_reducible refine aw_toS (aw_condP fun A B hA hB => ?_)
    simp [h0]
    refine ⟨fun hc => hA ?_, fun hc => hB ?_⟩ <;> clear hA hB A B <;> (try (simp at hc; done)) <;> (try (exfalso; simp at hc; omega)) <;> clear hc <;> (try with_reducible refine aw_skip ?_)
    repeat with_reducible refine aw_assoc ?_
    first | with_reducible refine aw_region0 (by decide +kernel) fun K' hK => ?_ | with_reducible refine aw_toS (aw_region0 (by decide +kernel) fun K' hK => ?_)
    simp []
    first | refine hK _ _ _ ?_ | done
    clear K' hK
    repeat with_reducible refine aw_assoc ?_
    first | with_reducible refine aw_ret ?_ | with_reducible refine aw_retL ?_ | with_reducible refine aw_skipL ?_
    simp [blockK, loopK, Post, resA, res1, expT, expA, exp1, expM, expL, okT, okA, ok1, rowOf, Tryz.f157]
    rw [ht, hstep, if_neg h0]
  ·repeat with_reducible refine aw_assoc ?_
   first | with_reducible refine aw_exit ?_ | with_reducible refine aw_exitL ?_
   refine loopK_exit (blockK_exit ?_)
   repeat with_reducible refine aw_assoc ?_
   first | with_reducible refine aw_region0 (by decide +kernel) fun K' hK => ?_ | with_reducible refine aw_toS (aw_region0 (by decide +kernel) fun K' hK => ?_)
   simp [s3]
   first | refine hK _ _ _ ?_ | done
   clear K' hK
   repeat with_reducible refine aw_assoc ?_
   first | with_reducible refine aw_ret ?_ | with_reducible refine aw_retL ?_ | with_reducible refine aw_skipL ?_
   simp [blockK, loopK, Post, resA, res1, expT, expA, exp1, expM, expL, okT, okA, ok1, rowOf, Tryz.f157]
   rw [ht, List.drop_of_length_le (by omega)]; rfl
theorem rowsN_drop {x y : List Bs} {i : Nat} (hx : i < x.length) (hy : i < y.length) : rowsN (x.drop i) (y.drop i) = if partsN (nth x i) (nth y i) = 0 then rowsN (x.drop (i + 1)) (y.drop (i + 1)) else partsN (nth x i) (nth y i) := by
 rw [List.drop_eq_getElem_cons hx, List.drop_eq_getElem_cons hy, rowsN, nth_eq hx, nth_eq hy]
theorem rowsN_end {x y : List Bs} {i : Nat} (h : x.length = i ∧ i ≤ y.length ∨ y.length = i ∧ i ≤ x.length) : rowsN (x.drop i) (y.drop i) = cmpI x.length y.length := by
 have e : rowsN (x.drop i) (y.drop i) = cmpI (x.drop i).length (y.drop i).length := by
  rcases h with ⟨h, _⟩ | ⟨h, _⟩
  ·rw [List.drop_of_length_le (l := x) (by omega)]
   cases y.drop i <;> rfl
  ·rw [List.drop_of_length_le (l := y) (by omega)]
   cases x.drop i <;> rfl
 rw [e, List.length_drop, List.length_drop]
 unfold cmpI
 congr 1
 ·simp only [eq_iff_iff]; omega
 ·congr 1
  simp only [eq_iff_iff]; omega
theorem rows_ok (x y : List Bs) (hx : x.length < 1000000000) (hy : y.length < 1000000000) (hxs : ∀ b ∈ x, b.size ≤ 4000000000) (hys : ∀ b ∈ y, b.size ≤ 4000000000) : CallsOK Tryz.prog 197 [rowT sC x, rowT sC y, .fn 199 []] (iV (rowsN x y)) [] := by
 refine callsOK mixed Tryz.call197 Tryz.func197 rfl (by rw [Tryz.ntmps197]; simp) ?_ rfl
 rw [Tryz.ntmps197]
 obtain ⟨m, hm, hmx, hmy, hme⟩ : ∃ m : Nat, (if y.length < x.length then (y.length : Int) else (x.length : Int)) = (m : Int) ∧ m ≤ x.length ∧ m ≤ y.length ∧ (x.length = m ∨ y.length = m) := ⟨min x.length y.length, by split <;> omega, by omega, by omega, by omega⟩
 repeat with_reducible refine aw_assoc ?_
 first | with_reducible refine aw_region0 (by decide +kernel) fun K' hK => ?_ | with_reducible refine aw_toS (aw_region0 (by decide +kernel) fun K' hK => ?_)
 simp []
 first | refine hK _ _ _ ?_ | done
 clear K' hK
 repeat with_reducible refine aw_assoc ?_
 first | with_reducible refine aw_region0 (by decide +kernel) fun K' hK => ?_ | with_reducible refine aw_toS (aw_region0 (by decide +kernel) fun K' hK => ?_)
 simp [hm]
 first | refine hK _ _ _ ?_ | done
 clear K' hK
 repeat with_reducible refine aw_assoc ?_
 first | with_reducible refine aw_block ?_ | with_reducible refine aw_toS (aw_block ?_)
 refine aw_loop (fun s G nx => s 0 = rowT sC x ∧ s 1 = rowT sC y ∧ s 2 = .fn 199 [] ∧ s 13 = iV m ∧ ∃ i : Nat, s 14 = iV i ∧ i ≤ m ∧ rowsN x y = rowsN (x.drop i) (y.drop i)) (fun s _ _ => match s 14 with | .v (.int _ n) => m - n.toNat | _ => 0) ?_ ?_
 ·exact ⟨by simp, by simp, by simp, by simp [hm], 0, by simp, by omega, by simp⟩
 ·rintro s G nx - ⟨s0, s1, s2, s13, i, s14, hi, ht⟩
  have hw : IntKind.i64.wrap (↑i + 1) = ((i + 1 : Nat) : Int) := wrapS (by omega)
  repeat with_reducible refine aw_assoc ?_
  first | with_reducible refine aw_region0 (by decide +kernel) fun K' hK => ?_ | with_reducible refine aw_toS (aw_region0 (by decide +kernel) fun K' hK => ?_)
  simp [s13, s14]
  first | refine hK _ _ _ ?_ | done
  clear K' hK
  repeat with_reducible refine aw_assoc ?_
  first | with_reducible refine aw_condP fun A B hA hB => ?_ | with_reducible refine aw_toS (aw_condP fun A B hA hB => ?_)
  simp []
  refine ⟨fun hi2 => hA ?_, fun hi2 => hB ?_⟩ <;> clear hA hB A B <;> (try simp at hi2) <;> (try with_reducible refine aw_skip ?_)
  ·have hix : i < x.length := by omega
   have hiy : i < y.length := by omega
   have hstep := rowsN_drop hix hiy
   repeat with_reducible refine aw_assoc ?_
   first | with_reducible refine aw_block ?_ | with_reducible refine aw_toS (aw_block ?_)
   repeat with_reducible refine aw_assoc ?_
   first | with_reducible refine aw_region0 (by decide +kernel) fun K' hK => ?_ | with_reducible refine aw_toS (aw_region0 (by decide +kernel) fun K' hK => ?_)
   simp [s14]
   first | refine hK _ _ _ ?_ | done
   clear K' hK
   repeat with_reducible refine aw_assoc ?_
   first | with_reducible refine aw_region1 (by decide +kernel) (by decide +kernel) fun K' hK => ?_ | with_reducible refine aw_toS (aw_region1 (by decide +kernel) (by decide +kernel) fun K' hK => ?_)
   simp [s0, s1, s2, hix, hiy]
   refine acall_flat (parts_ok (nth x i) (nth y i) (hxs _ (nth_mem hix)) (hys _ (nth_mem hiy))) rfl (by simp) ?_
   simp
   first | refine hK _ _ _ ?_ | done
   clear K' hK
   by_cases h0 : partsN (nth x i) (nth y i) = 0
   ·repeat with_reducible refine aw_assoc ?_
    first | with_reducible refine aw_region0 (by decide +kernel) fun K' hK => ?_ | with_reducible refine aw_toS (aw_region0 (by decide +kernel) fun K' hK => ?_)
    simp [h0]
    first | refine hK _ _ _ ?_ | done
    clear K' hK
    repeat with_reducible refine aw_assoc ?_
    first | with_reducible refine aw_condP fun A B hA hB => ?_ | with_reducible refine aw_toS (aw_condP fun A B hA hB => ?_)
    simp [h0]
    refine ⟨fun hc => hA ?_, fun hc => hB ?_⟩ <;> clear hA hB A B <;> (try (simp at hc; done)) <;> (try (exfalso; simp at hc; omega)) <;> clear hc <;> (try with_reducible refine aw_skip ?_)
    first | with_reducible refine aw_skipL ?_ | skip
    refine blockK_normal ?_
    repeat with_reducible refine aw_assoc ?_
    first | with_reducible refine aw_region0 (by decide +kernel) fun K' hK => ?_ | with_reducible refine aw_toS (aw_region0 (by decide +kernel) fun K' hK => ?_)
    simp [s14, hw]
    first | refine hK _ _ _ ?_ | done
    clear K' hK
    refine aw_skipL (loopK_normal ?_ ?_)
    ·exact ⟨by simp [s0], by simp [s1], by simp [s2], by simp [s13], i + 1, by simp [hw], by omega, by rw [ht, hstep, if_pos h0]⟩
    ·simp [s14, hw]; omega
   ·repeat with_reducible refine aw_assoc ?_
    first | with_reducible refine aw_region0 (by decide +kernel) fun K' hK => ?_ | with_reducible refine aw_toS (aw_region0 (by decide +kernel) fun K' hK => ?_)
    simp [h0]
    first | refine hK _ _ _ ?_ | done
    clear K' hK
    repeat with_reducible refine aw_assoc ?_
    first | with_reducible refine aw_condP fun A B hA hB => ?_ | with_reducible refine aw_toS (aw_condP fun A B hA hB => ?_)
    simp [h0]
    refine ⟨fun hc => hA ?_, fun hc => hB ?_⟩ <;> clear hA hB A B <;> (try (simp at hc; done)) <;> (try (exfalso; simp at hc; omega)) <;> clear hc <;> (try with_reducible refine aw_skip ?_)
    repeat with_reducible refine aw_assoc ?_
    first | with_reducible refine aw_region0 (by decide +kernel) fun K' hK => ?_ | with_reducible refine aw_toS (aw_region0 (by decide +kernel) fun K' hK => ?_)
    simp []
    first | refine hK _ _ _ ?_ | done
    clear K' hK
    repeat with_reducible refine aw_assoc ?_
    first | with_reducible refine aw_ret ?_ | with_reducible refine aw_retL ?_ | with_reducible refine aw_skipL ?_
    simp [blockK, loopK, Post, resA, res1, expT, expA, exp1, expM, expL, okT, okA, ok1, rowOf, Tryz.f197]
    rw [ht, hstep, if_neg h0]
  ·repeat with_reducible refine aw_assoc ?_
   first | with_reducible refine aw_exit ?_ | with_reducible refine aw_exitL ?_
   refine loopK_exit (blockK_exit ?_)
   repeat with_reducible refine aw_assoc ?_
   first | with_reducible refine aw_region0 (by decide +kernel) fun K' hK => ?_ | with_reducible refine aw_toS (aw_region0 (by decide +kernel) fun K' hK => ?_)
   simp [s0, s1]
   refine acall_flat (cmpI_ok x.length y.length) rfl (by simp) ?_
   simp
   first | refine hK _ _ _ ?_ | done
   clear K' hK
   repeat with_reducible refine aw_assoc ?_
   first | with_reducible refine aw_ret ?_ | with_reducible refine aw_retL ?_ | with_reducible refine aw_skipL ?_
   simp [blockK, loopK, Post, resA, res1, expT, expA, exp1, expM, expL, okT, okA, ok1, rowOf, Tryz.f197]
   rw [ht, rowsN_end (by omega)]
theorem vright_ok (v : Ver) (hs : v.pre.size ≤ 4000000000) : CallsOK Tryz.prog 174 [.agg v.cells] (bV (verOk v)) [] := right65_ok v hs
theorem strs_size {s : Bs} {b : Bs} (h : b ∈ strs (spl (bsL s))) : b.size ≤ s.size := by
 obtain ⟨l, hl, rfl⟩ := List.mem_map.1 h
 have : ∀ (t : List UInt8) (l : List UInt8), l ∈ spl t → l.length ≤ t.length := by
  intro t
  induction t with
  | nil => intro l hl; simp [spl] at hl; simp [hl]
  | cons c t ih =>
   intro l hl
   rw [spl] at hl
   split at hl
   ·rcases List.mem_cons.1 hl with rfl | h
    ·simp
    ·have := ih l h; simp; omega
   ·cases hs : spl t with
    | nil => rw [hs] at hl; simp at hl; subst hl; simp
    | cons p ps =>
     rw [hs] at hl ih
     rcases List.mem_cons.1 hl with rfl | h
     ·have := ih p (List.mem_cons_self ..); simp; omega
     ·have := ih l (List.mem_cons_of_mem _ h); simp; omega
 have := this _ _ hl
 rw [bsL_len] at this
 show l.toArray.size ≤ _
 simpa using this
theorem orN3 (a b : Ver) : orN [cmpI a.maj b.maj, cmpI a.min b.min, cmpI a.pat b.pat] = coreN a b := by
 simp only [orN, coreN]
 by_cases h1 : cmpI a.maj b.maj = 0
 ·by_cases h2 : cmpI a.min b.min = 0
  ·by_cases h3 : cmpI a.pat b.pat = 0 <;> simp [h1, h2, h3]
  ·simp [h1, h2]
 ·simp [h1]
theorem strs_le (s : Bs) : (strs (spl (bsL s))).length ≤ s.size + 1 := by
 have h1 := (splC _ (bsL s) (Nat.le_refl _)).1
 have h2 := List.count_le_length (a := (46 : UInt8)) (l := bsL s)
 rw [bsL_len] at h2
 simp only [strs, List.length_map]
 omega
theorem compare_ok (a b : Ver) (ha : a.pre.size ≤ 1000000) (hb : b.pre.size ≤ 1000000) : CallsOK Tryz.prog 160 [.agg a.cells, .agg b.cells] (iV (comparN a b)) [] := by
 refine callsOK mixed Tryz.call160 Tryz.func160 rfl (by rw [Tryz.ntmps160]; simp) ?_ rfl
 rw [Tryz.ntmps160]
 repeat with_reducible refine aw_assoc ?_
 first | with_reducible refine aw_region0 (by decide +kernel) fun K' hK => ?_ | with_reducible refine aw_toS (aw_region0 (by decide +kernel) fun K' hK => ?_)
 simp []
 first | refine hK _ _ _ ?_ | done
 clear K' hK
 repeat with_reducible refine aw_assoc ?_
 first | with_reducible refine aw_region0 (by decide +kernel) fun K' hK => ?_ | with_reducible refine aw_toS (aw_region0 (by decide +kernel) fun K' hK => ?_)
 simp []
 refine acall_flat (vright_ok a (by omega)) rfl (by simp) ?_
 by_cases va : verOk a = true
 ·by_cases vb : verOk b = true
  ·simp [va]
   refine acall_flat (vright_ok b (by omega)) rfl (by simp) ?_
   simp [vb]
   first | refine hK _ _ _ ?_ | done
   clear K' hK
   repeat with_reducible refine aw_assoc ?_
   first | with_reducible refine aw_condP fun A B hA hB => ?_ | with_reducible refine aw_toS (aw_condP fun A B hA hB => ?_)
   simp []
   refine ⟨fun hc => hA ?_, fun hc => hB ?_⟩ <;> clear hA hB A B <;> (try (simp at hc; done)) <;> (try (exfalso; simp at hc; omega)) <;> clear hc <;> (try with_reducible refine aw_skip ?_)
   repeat with_reducible refine aw_assoc ?_
   first | with_reducible refine aw_region1 (by decide +kernel) (by decide +kernel) fun K' hK => ?_ | with_reducible refine aw_toS (aw_region1 (by decide +kernel) (by decide +kernel) fun K' hK => ?_)
   simp []
   refine acall_flat (cmpI_ok a.maj b.maj) rfl (by simp) ?_
   simp
   refine acall_flat (cmpI_ok a.min b.min) rfl (by simp) ?_
   simp
   refine acall_flat (cmpI_ok a.pat b.pat) rfl (by simp) ?_
   simp
   refine acall_flat (or_ok [cmpI a.maj b.maj, cmpI a.min b.min, cmpI a.pat b.pat] (by simp)) rfl (by simp [treeOf_row]; rfl) ?_
   simp
   first | refine hK _ _ _ ?_ | done
   clear K' hK
   rw [orN3]
   repeat with_reducible refine aw_assoc ?_
   first | with_reducible refine aw_block ?_ | with_reducible refine aw_toS (aw_block ?_)
   have fin : comparN a b = if coreN a b ≠ 0 ∨ a.pre = b.pre then coreN a b else if a.pre = ⟨#[]⟩ then 1 else if b.pre = ⟨#[]⟩ then -1 else rowsN (strs (spl (bsL a.pre))) (strs (spl (bsL b.pre))) := by rw [comparN, if_pos ⟨va, vb⟩]
   by_cases hc : coreN a b = 0
   ·by_cases hp : a.pre = b.pre
    ·repeat with_reducible refine aw_assoc ?_
     first | with_reducible refine aw_region0 (by decide +kernel) fun K' hK => ?_ | with_reducible refine aw_toS (aw_region0 (by decide +kernel) fun K' hK => ?_)
     simp [hc, hp]
     first | refine hK _ _ _ ?_ | done
     clear K' hK
     repeat with_reducible refine aw_assoc ?_
     first | with_reducible refine aw_condP fun A B hA hB => ?_ | with_reducible refine aw_toS (aw_condP fun A B hA hB => ?_)
     simp [hc, hp]
     refine ⟨fun hc => hA ?_, fun hc => hB ?_⟩ <;> clear hA hB A B <;> (try (simp at hc; done)) <;> (try (exfalso; simp at hc; omega)) <;> clear hc <;> (try with_reducible refine aw_skip ?_)
     repeat with_reducible refine aw_assoc ?_
     first | with_reducible refine aw_region0 (by decide +kernel) fun K' hK => ?_ | with_reducible refine aw_toS (aw_region0 (by decide +kernel) fun K' hK => ?_)
     simp []
     first | refine hK _ _ _ ?_ | done
     clear K' hK
     repeat with_reducible refine aw_assoc ?_
     first | with_reducible refine aw_ret ?_ | with_reducible refine aw_retL ?_ | with_reducible refine aw_skipL ?_
     simp [blockK, loopK, Post, resA, res1, expT, expA, exp1, expM, expL, okT, okA, ok1, rowOf, Tryz.f160]
     rw [fin, if_pos (.inr hp)]; exact hc.symm
    ·repeat with_reducible refine aw_assoc ?_
     first | with_reducible refine aw_region0 (by decide +kernel) fun K' hK => ?_ | with_reducible refine aw_toS (aw_region0 (by decide +kernel) fun K' hK => ?_)
     simp [hc, hp]
     first | refine hK _ _ _ ?_ | done
     clear K' hK
     repeat with_reducible refine aw_assoc ?_
     first | with_reducible refine aw_condP fun A B hA hB => ?_ | with_reducible refine aw_toS (aw_condP fun A B hA hB => ?_)
     simp [hc, hp]
     refine ⟨fun hc => hA ?_, fun hc => hB ?_⟩ <;> clear hA hB A B <;> (try (simp at hc; done)) <;> (try (exfalso; simp at hc; omega)) <;> clear hc <;> (try with_reducible refine aw_skip ?_)
     by_cases a0 : a.pre = ⟨#[]⟩
     ·repeat with_reducible refine aw_assoc ?_
      first | with_reducible refine aw_region0 (by decide +kernel) fun K' hK => ?_ | with_reducible refine aw_toS (aw_region0 (by decide +kernel) fun K' hK => ?_)
      simp [a0]
      first | refine hK _ _ _ ?_ | done
      clear K' hK
      repeat with_reducible refine aw_assoc ?_
      first | with_reducible refine aw_condP fun A B hA hB => ?_ | with_reducible refine aw_toS (aw_condP fun A B hA hB => ?_)
      simp [a0]
      refine ⟨fun hc => hA ?_, fun hc => hB ?_⟩ <;> clear hA hB A B <;> (try (simp at hc; done)) <;> (try (exfalso; simp at hc; omega)) <;> clear hc <;> (try with_reducible refine aw_skip ?_)
      repeat with_reducible refine aw_assoc ?_
      first | with_reducible refine aw_region0 (by decide +kernel) fun K' hK => ?_ | with_reducible refine aw_toS (aw_region0 (by decide +kernel) fun K' hK => ?_)
      simp []
      first | refine hK _ _ _ ?_ | done
      clear K' hK
      repeat with_reducible refine aw_assoc ?_
      first | with_reducible refine aw_ret ?_ | with_reducible refine aw_retL ?_ | with_reducible refine aw_skipL ?_
      simp [blockK, loopK, Post, resA, res1, expT, expA, exp1, expM, expL, okT, okA, ok1, rowOf, Tryz.f160]
      rw [fin, if_neg (fun h => h.elim (· hc) hp), if_pos a0]
     ·repeat with_reducible refine aw_assoc ?_
      first | with_reducible refine aw_region0 (by decide +kernel) fun K' hK => ?_ | with_reducible refine aw_toS (aw_region0 (by decide +kernel) fun K' hK => ?_)
      simp [a0]
      first | refine hK _ _ _ ?_ | done
      clear K' hK
      repeat with_reducible refine aw_assoc ?_
      first | with_reducible refine aw_condP fun A B hA hB => ?_ | with_reducible refine aw_toS (aw_condP fun A B hA hB => ?_)
      simp [a0]
      refine ⟨fun hc => hA ?_, fun hc => hB ?_⟩ <;> clear hA hB A B <;> (try (simp at hc; done)) <;> (try (exfalso; simp at hc; omega)) <;> clear hc <;> (try with_reducible refine aw_skip ?_)
      by_cases b0 : b.pre = ⟨#[]⟩
      ·repeat with_reducible refine aw_assoc ?_
       first | with_reducible refine aw_region0 (by decide +kernel) fun K' hK => ?_ | with_reducible refine aw_toS (aw_region0 (by decide +kernel) fun K' hK => ?_)
       simp [b0]
       first | refine hK _ _ _ ?_ | done
       clear K' hK
       repeat with_reducible refine aw_assoc ?_
       first | with_reducible refine aw_condP fun A B hA hB => ?_ | with_reducible refine aw_toS (aw_condP fun A B hA hB => ?_)
       simp [b0]
       refine ⟨fun hc => hA ?_, fun hc => hB ?_⟩ <;> clear hA hB A B <;> (try (simp at hc; done)) <;> (try (exfalso; simp at hc; omega)) <;> clear hc <;> (try with_reducible refine aw_skip ?_)
       repeat with_reducible refine aw_assoc ?_
       first | with_reducible refine aw_region0 (by decide +kernel) fun K' hK => ?_ | with_reducible refine aw_toS (aw_region0 (by decide +kernel) fun K' hK => ?_)
       simp []
       first | refine hK _ _ _ ?_ | done
       clear K' hK
       repeat with_reducible refine aw_assoc ?_
       first | with_reducible refine aw_ret ?_ | with_reducible refine aw_retL ?_ | with_reducible refine aw_skipL ?_
       simp [blockK, loopK, Post, resA, res1, expT, expA, exp1, expM, expL, okT, okA, ok1, rowOf, Tryz.f160]
       rw [fin, if_neg (fun h => h.elim (· hc) hp), if_neg a0, if_pos b0]
      ·repeat with_reducible refine aw_assoc ?_
       first | with_reducible refine aw_region0 (by decide +kernel) fun K' hK => ?_ | with_reducible refine aw_toS (aw_region0 (by decide +kernel) fun K' hK => ?_)
       simp [b0]
       first | refine hK _ _ _ ?_ | done
       clear K' hK
       repeat with_reducible refine aw_assoc ?_
       first | with_reducible refine aw_condP fun A B hA hB => ?_ | with_reducible refine aw_toS (aw_condP fun A B hA hB => ?_)
       simp [b0]
       refine ⟨fun hc => hA ?_, fun hc => hB ?_⟩ <;> clear hA hB A B <;> (try (simp at hc; done)) <;> (try (exfalso; simp at hc; omega)) <;> clear hc <;> (try with_reducible refine aw_skip ?_)
       first | with_reducible refine aw_skipL ?_ | skip
       refine blockK_normal ?_
       repeat with_reducible refine aw_assoc ?_
       first | with_reducible refine aw_region1 (by decide +kernel) (by decide +kernel) fun K' hK => ?_ | with_reducible refine aw_toS (aw_region1 (by decide +kernel) (by decide +kernel) fun K' hK => ?_)
       simp []
       refine acall_new (split_ok a.pre ha) (by simp) ?_
       simp [addJ_one]
       refine acall_new (split_ok b.pre hb) (by simp) ?_
       simp [addJ_one]
       refine acall_flat (rows_ok (strs (spl (bsL a.pre))) (strs (spl (bsL b.pre))) (by have := strs_le a.pre; omega) (by have := strs_le b.pre; omega) (fun x hx => by have := strs_size hx; omega) (fun x hx => by have := strs_size hx; omega)) rfl (by first | rfl | (simp []; done) | (simp []; rfl) | (simp []; exact ⟨rfl, rfl⟩)) ?_
       simp
       first | refine hK _ _ _ ?_ | done
       clear K' hK
       repeat with_reducible refine aw_assoc ?_
       first | with_reducible refine aw_ret ?_ | with_reducible refine aw_retL ?_ | with_reducible refine aw_skipL ?_
       simp [blockK, loopK, Post, resA, res1, expT, expA, exp1, expM, expL, okT, okA, ok1, rowOf, Tryz.f160]
       rw [fin, if_neg (fun h => h.elim (· hc) hp), if_neg a0, if_neg b0]
   ·repeat with_reducible refine aw_assoc ?_
    first | with_reducible refine aw_region0 (by decide +kernel) fun K' hK => ?_ | with_reducible refine aw_toS (aw_region0 (by decide +kernel) fun K' hK => ?_)
    simp [hc]
    first | refine hK _ _ _ ?_ | done
    clear K' hK
    repeat with_reducible refine aw_assoc ?_
    first | with_reducible refine aw_condP fun A B hA hB => ?_ | with_reducible refine aw_toS (aw_condP fun A B hA hB => ?_)
    simp [hc]
    refine ⟨fun hc => hA ?_, fun hc => hB ?_⟩ <;> clear hA hB A B <;> (try (simp at hc; done)) <;> (try (exfalso; simp at hc; omega)) <;> clear hc <;> (try with_reducible refine aw_skip ?_)
    repeat with_reducible refine aw_assoc ?_
    first | with_reducible refine aw_region0 (by decide +kernel) fun K' hK => ?_ | with_reducible refine aw_toS (aw_region0 (by decide +kernel) fun K' hK => ?_)
    simp []
    first | refine hK _ _ _ ?_ | done
    clear K' hK
    repeat with_reducible refine aw_assoc ?_
    first | with_reducible refine aw_ret ?_ | with_reducible refine aw_retL ?_ | with_reducible refine aw_skipL ?_
    simp [blockK, loopK, Post, resA, res1, expT, expA, exp1, expM, expL, okT, okA, ok1, rowOf, Tryz.f160]
    rw [fin, if_pos (.inl hc)]
  ·simp [va]
   refine acall_flat (vright_ok b (by omega)) rfl (by simp) ?_
   simp [vb]
   first | refine hK _ _ _ ?_ | done
   clear K' hK
   repeat with_reducible refine aw_assoc ?_
   first | with_reducible refine aw_condP fun A B hA hB => ?_ | with_reducible refine aw_toS (aw_condP fun A B hA hB => ?_)
   simp []
   refine ⟨fun hc => hA ?_, fun hc => hB ?_⟩ <;> clear hA hB A B <;> (try (simp at hc; done)) <;> (try (exfalso; simp at hc; omega)) <;> clear hc <;> (try with_reducible refine aw_skip ?_)
   repeat with_reducible refine aw_assoc ?_
   first | with_reducible refine aw_region0 (by decide +kernel) fun K' hK => ?_ | with_reducible refine aw_toS (aw_region0 (by decide +kernel) fun K' hK => ?_)
   simp []
   first | refine hK _ _ _ ?_ | done
   clear K' hK
   repeat with_reducible refine aw_assoc ?_
   first | with_reducible refine aw_ret ?_ | with_reducible refine aw_retL ?_ | with_reducible refine aw_skipL ?_
   simp [blockK, loopK, Post, resA, res1, expT, expA, exp1, expM, expL, okT, okA, ok1, rowOf, Tryz.f160]
   simp [comparN, vb]
 ·simp [va]
  first | refine hK _ _ _ ?_ | done
  clear K' hK
  repeat with_reducible refine aw_assoc ?_
  first | with_reducible refine aw_condP fun A B hA hB => ?_ | with_reducible refine aw_toS (aw_condP fun A B hA hB => ?_)
  simp []
  refine ⟨fun hc => hA ?_, fun hc => hB ?_⟩ <;> clear hA hB A B <;> (try (simp at hc; done)) <;> (try (exfalso; simp at hc; omega)) <;> clear hc <;> (try with_reducible refine aw_skip ?_)
  repeat with_reducible refine aw_assoc ?_
  first | with_reducible refine aw_region0 (by decide +kernel) fun K' hK => ?_ | with_reducible refine aw_toS (aw_region0 (by decide +kernel) fun K' hK => ?_)
  simp []
  first | refine hK _ _ _ ?_ | done
  clear K' hK
  repeat with_reducible refine aw_assoc ?_
  first | with_reducible refine aw_ret ?_ | with_reducible refine aw_retL ?_ | with_reducible refine aw_skipL ?_
  simp [blockK, loopK, Post, resA, res1, expT, expA, exp1, expM, expL, okT, okA, ok1, rowOf, Tryz.f160]
  simp [comparN, va]
end Go.Proofs.YtgipehooceecpaaGreatDoorAbs
namespace Go.Proofs.YtgipehooceecpaaGreatDoorAbs
set_option linter.unusedSimpArgs false
set_option linter.unusedVariables false
open Go Go.RowKit Go.Proofs
set_option maxRecDepth 100000
structure Bd where
 op : Int
 ver : Ver
 deriving DecidableEq, Inhabited
abbrev Alt := List Bd
abbrev Rg := List Alt
structure Dep where
 kind : Int
 name : Bs
 range : Rg
 deriving DecidableEq, Inhabited
structure Ru where
 name : Bs
 range : Rg
 deriving DecidableEq, Inhabited
structure Man where
 name : Bs
 ver : Ver
 deps : List Dep
 rules : List Ru
 deriving DecidableEq, Inhabited
def Bd.val (b : Bd) : Value := .agg #[.int .i64 b.op, .int .i64 b.ver.maj, .int .i64 b.ver.min, .int .i64 b.ver.pat, .string b.ver.pre]
def Bd.cells (b : Bd) : List AV := [iV b.op, iV b.ver.maj, iV b.ver.min, iV b.ver.pat, sV b.ver.pre]
def Alt.cells (l : Alt) : List AV := [rowT Bd.cells l]
def Rg.cells (r : Rg) : List AV := [rowT Alt.cells r]
def Dep.cells (d : Dep) : List AV := [iV d.kind, sV d.name, rowT Alt.cells d.range]
def Ru.cells (d : Ru) : List AV := [sV d.name, rowT Alt.cells d.range]
def Man.cells (m : Man) : List AV := [sV m.name, iV m.ver.maj, iV m.ver.min, iV m.ver.pat, sV m.ver.pre, rowT Dep.cells m.deps, rowT Ru.cells m.rules]
instance : Wid Bd.cells 5 := ⟨fun _ => rfl, by decide⟩
instance : Wid Alt.cells 1 := ⟨fun _ => rfl, by decide⟩
instance : Wid Dep.cells 3 := ⟨fun _ => rfl, by decide⟩
instance : Wid Ru.cells 2 := ⟨fun _ => rfl, by decide⟩
instance : Wid Man.cells 7 := ⟨fun _ => rfl, by decide⟩
section
variable {G : Hp}
@[simp] theorem bd_looks (P : Program) (d : Bd) : looksA P G d.cells = some d.cells := rfl
@[simp] theorem bd_trees (P : Program) (d : Bd) : treesOf P G d.cells = some (d.cells, G) := rfl
@[simp] theorem dep_looks (P : Program) (d : Dep) : looksA P G d.cells = some d.cells := rfl
@[simp] theorem dep_trees (P : Program) (d : Dep) : treesOf P G d.cells = some (d.cells, G) := rfl
@[simp] theorem ru_looks (P : Program) (d : Ru) : looksA P G d.cells = some d.cells := rfl
@[simp] theorem ru_trees (P : Program) (d : Ru) : treesOf P G d.cells = some (d.cells, G) := rfl
@[simp] theorem man_looks (P : Program) (d : Man) : looksA P G d.cells = some d.cells := rfl
@[simp] theorem man_trees (P : Program) (d : Man) : treesOf P G d.cells = some (d.cells, G) := rfl
@[simp] theorem rg_looks (P : Program) (d : Rg) : looksA P G d.cells = some d.cells := rfl
@[simp] theorem rg_trees (P : Program) (d : Rg) : treesOf P G d.cells = some (d.cells, G) := rfl
@[simp] theorem alt_looks (P : Program) (d : Alt) : looksA P G d.cells = some d.cells := rfl
@[simp] theorem alt_trees (P : Program) (d : Alt) : treesOf P G d.cells = some (d.cells, G) := rfl
@[simp] theorem dep_one (d : Dep) : d.cells.all AV.one = true := rfl
@[simp] theorem dep_len (d : Dep) : d.cells.length = 3 := rfl
@[simp] theorem ru_one (d : Ru) : d.cells.all AV.one = true := rfl
@[simp] theorem ru_len (d : Ru) : d.cells.length = 2 := rfl
@[simp] theorem man_one (d : Man) : d.cells.all AV.one = true := rfl
@[simp] theorem man_len (d : Man) : d.cells.length = 7 := rfl
@[simp] theorem bd_one (d : Bd) : d.cells.all AV.one = true := rfl
@[simp] theorem bd_len (d : Bd) : d.cells.length = 5 := rfl
@[simp] theorem rg_one (d : Rg) : d.cells.all AV.one = true := rfl
@[simp] theorem rg_len (d : Rg) : d.cells.length = 1 := rfl
@[simp] theorem bd_all (b : Bd) : getC b.cells 0 5 = some b.cells := rfl
@[simp] theorem bd_op (b : Bd) : getC b.cells 0 1 = some [iV b.op] := rfl
@[simp] theorem bd_ver (b : Bd) : getC b.cells 1 4 = some b.ver.cells := rfl
@[simp] theorem bd_conc (b : Bd) : conc (.agg b.cells) = some b.val := rfl
@[simp] theorem rg_all (r : Rg) : getC r.cells 0 1 = some [rowT Alt.cells r] := rfl
@[simp] theorem alt_all (l : Alt) : getC l.cells 0 1 = some [rowT Bd.cells l] := rfl
@[simp] theorem dep_all (d : Dep) : getC d.cells 0 3 = some d.cells := rfl
@[simp] theorem dep_kind (d : Dep) : getC d.cells 0 1 = some [iV d.kind] := rfl
@[simp] theorem dep_name (d : Dep) : getC d.cells 1 1 = some [sV d.name] := rfl
@[simp] theorem dep_range (d : Dep) : getC d.cells 2 1 = some [rowT Alt.cells d.range] := rfl
@[simp] theorem ru_all (d : Ru) : getC d.cells 0 2 = some d.cells := rfl
@[simp] theorem ru_name (d : Ru) : getC d.cells 0 1 = some [sV d.name] := rfl
@[simp] theorem ru_range (d : Ru) : getC d.cells 1 1 = some [rowT Alt.cells d.range] := rfl
@[simp] theorem man_all (m : Man) : getC m.cells 0 7 = some m.cells := rfl
@[simp] theorem man_name (m : Man) : getC m.cells 0 1 = some [sV m.name] := rfl
@[simp] theorem man_ver (m : Man) : getC m.cells 1 4 = some m.ver.cells := rfl
@[simp] theorem man_deps (m : Man) : getC m.cells 5 1 = some [rowT Dep.cells m.deps] := rfl
@[simp] theorem man_rules (m : Man) : getC m.cells 6 1 = some [rowT Ru.cells m.rules] := rfl
@[simp] theorem bd_take (d : Bd) : List.take 5 d.cells = d.cells := rfl
@[simp] theorem dep_take (d : Dep) : List.take 3 d.cells = d.cells := rfl
@[simp] theorem ru_take (d : Ru) : List.take 2 d.cells = d.cells := rfl
@[simp] theorem man_take (d : Man) : List.take 7 d.cells = d.cells := rfl
@[simp] theorem rg_take (d : Rg) : List.take 1 d.cells = d.cells := rfl
end
theorem eqBd' (a b : Bd) : evBin Tryz.prog .neq 87 a.val b.val = some (.bool (!((a.op == b.op) && (((a.ver.maj == b.ver.maj) && ((a.ver.min == b.ver.min) && ((a.ver.pat == b.ver.pat) && ((a.ver.pre.toList == b.ver.pre.toList) && true)))) && true)))) := by kernel_rfl
@[simp] theorem eqBd (a b : Bd) : evBin Tryz.prog .neq 87 a.val b.val = some (.bool (!decide (a = b))) := by
 rw [eqBd', beq_toList]
 have : ((a.op == b.op) && (((a.ver.maj == b.ver.maj) && ((a.ver.min == b.ver.min) && ((a.ver.pat == b.ver.pat) && (decide (a.ver.pre = b.ver.pre) && true)))) && true)) = decide (a = b) := by
  rw [Bool.eq_iff_iff]
  cases a with | mk a1 a2 => cases a2; cases b with | mk b1 b2 => cases b2; simp
 rw [this]
end Go.Proofs.YtgipehooceecpaaGreatDoorAbs
namespace Go.Proofs.YtgipehooceecpaaGreatDoorAbs
set_option linter.unusedSimpArgs false
set_option linter.unusedVariables false
open Go Go.RowKit Go.Proofs
set_option maxRecDepth 100000
set_option maxHeartbeats 1000000
def opN (op c : Int) : Bool := if op = 1 then decide (c = 0) else if op = 2 then decide (c < 0) else if op = 3 then decide (c ≤ 0) else if op = 4 then decide (0 < c) else decide (0 ≤ c)
def holdB (v : Ver) (b : Bd) : Bool := opN b.op (comparN v b.ver)
def nearB (v : Ver) (b : Bd) : Bool := decide (b.ver.pre ≠ ⟨#[]⟩ ∧ { b.ver with pre := v.pre } = v)
theorem sg176_ok (c : Int) : CallsOK Tryz.prog 176 [iV c] (bV (decide (0 ≤ c))) [] := by
 refine callsOK mixed Tryz.call176 Tryz.func176 rfl (by rw [Tryz.ntmps176]; simp) ?_ rfl
 rw [Tryz.ntmps176]
 repeat with_reducible refine aw_assoc ?_
 first | with_reducible refine aw_region0 (by decide +kernel) fun K' hK => ?_ | with_reducible refine aw_toS (aw_region0 (by decide +kernel) fun K' hK => ?_)
 simp []
 first | refine hK _ _ _ ?_ | done
 clear K' hK
 repeat with_reducible refine aw_assoc ?_
 first | with_reducible refine aw_region0 (by decide +kernel) fun K' hK => ?_ | with_reducible refine aw_toS (aw_region0 (by decide +kernel) fun K' hK => ?_)
 simp []
 first | refine hK _ _ _ ?_ | done
 clear K' hK
 repeat with_reducible refine aw_assoc ?_
 first | with_reducible refine aw_ret ?_ | with_reducible refine aw_retL ?_ | with_reducible refine aw_skipL ?_
 simp [blockK, loopK, Post, resA, res1, expT, expA, exp1, expM, expL, okT, okA, ok1, rowOf, Tryz.f176]
theorem sg177_ok (c : Int) : CallsOK Tryz.prog 177 [iV c] (bV (decide (c = 0))) [] := by
 refine callsOK mixed Tryz.call177 Tryz.func177 rfl (by rw [Tryz.ntmps177]; simp) ?_ rfl
 rw [Tryz.ntmps177]
 repeat with_reducible refine aw_assoc ?_
 first | with_reducible refine aw_region0 (by decide +kernel) fun K' hK => ?_ | with_reducible refine aw_toS (aw_region0 (by decide +kernel) fun K' hK => ?_)
 simp []
 first | refine hK _ _ _ ?_ | done
 clear K' hK
 repeat with_reducible refine aw_assoc ?_
 first | with_reducible refine aw_region0 (by decide +kernel) fun K' hK => ?_ | with_reducible refine aw_toS (aw_region0 (by decide +kernel) fun K' hK => ?_)
 simp []
 first | refine hK _ _ _ ?_ | done
 clear K' hK
 repeat with_reducible refine aw_assoc ?_
 first | with_reducible refine aw_ret ?_ | with_reducible refine aw_retL ?_ | with_reducible refine aw_skipL ?_
 simp [blockK, loopK, Post, resA, res1, expT, expA, exp1, expM, expL, okT, okA, ok1, rowOf, Tryz.f177]
theorem sg178_ok (c : Int) : CallsOK Tryz.prog 178 [iV c] (bV (decide (c < 0))) [] := by
 refine callsOK mixed Tryz.call178 Tryz.func178 rfl (by rw [Tryz.ntmps178]; simp) ?_ rfl
 rw [Tryz.ntmps178]
 repeat with_reducible refine aw_assoc ?_
 first | with_reducible refine aw_region0 (by decide +kernel) fun K' hK => ?_ | with_reducible refine aw_toS (aw_region0 (by decide +kernel) fun K' hK => ?_)
 simp []
 first | refine hK _ _ _ ?_ | done
 clear K' hK
 repeat with_reducible refine aw_assoc ?_
 first | with_reducible refine aw_region0 (by decide +kernel) fun K' hK => ?_ | with_reducible refine aw_toS (aw_region0 (by decide +kernel) fun K' hK => ?_)
 simp []
 first | refine hK _ _ _ ?_ | done
 clear K' hK
 repeat with_reducible refine aw_assoc ?_
 first | with_reducible refine aw_ret ?_ | with_reducible refine aw_retL ?_ | with_reducible refine aw_skipL ?_
 simp [blockK, loopK, Post, resA, res1, expT, expA, exp1, expM, expL, okT, okA, ok1, rowOf, Tryz.f178]
theorem sg179_ok (c : Int) : CallsOK Tryz.prog 179 [iV c] (bV (decide (c ≤ 0))) [] := by
 refine callsOK mixed Tryz.call179 Tryz.func179 rfl (by rw [Tryz.ntmps179]; simp) ?_ rfl
 rw [Tryz.ntmps179]
 repeat with_reducible refine aw_assoc ?_
 first | with_reducible refine aw_region0 (by decide +kernel) fun K' hK => ?_ | with_reducible refine aw_toS (aw_region0 (by decide +kernel) fun K' hK => ?_)
 simp []
 first | refine hK _ _ _ ?_ | done
 clear K' hK
 repeat with_reducible refine aw_assoc ?_
 first | with_reducible refine aw_region0 (by decide +kernel) fun K' hK => ?_ | with_reducible refine aw_toS (aw_region0 (by decide +kernel) fun K' hK => ?_)
 simp []
 first | refine hK _ _ _ ?_ | done
 clear K' hK
 repeat with_reducible refine aw_assoc ?_
 first | with_reducible refine aw_ret ?_ | with_reducible refine aw_retL ?_ | with_reducible refine aw_skipL ?_
 simp [blockK, loopK, Post, resA, res1, expT, expA, exp1, expM, expL, okT, okA, ok1, rowOf, Tryz.f179]
theorem sg180_ok (c : Int) : CallsOK Tryz.prog 180 [iV c] (bV (decide (0 < c))) [] := by
 refine callsOK mixed Tryz.call180 Tryz.func180 rfl (by rw [Tryz.ntmps180]; simp) ?_ rfl
 rw [Tryz.ntmps180]
 repeat with_reducible refine aw_assoc ?_
 first | with_reducible refine aw_region0 (by decide +kernel) fun K' hK => ?_ | with_reducible refine aw_toS (aw_region0 (by decide +kernel) fun K' hK => ?_)
 simp []
 first | refine hK _ _ _ ?_ | done
 clear K' hK
 repeat with_reducible refine aw_assoc ?_
 first | with_reducible refine aw_region0 (by decide +kernel) fun K' hK => ?_ | with_reducible refine aw_toS (aw_region0 (by decide +kernel) fun K' hK => ?_)
 simp []
 first | refine hK _ _ _ ?_ | done
 clear K' hK
 repeat with_reducible refine aw_assoc ?_
 first | with_reducible refine aw_ret ?_ | with_reducible refine aw_retL ?_ | with_reducible refine aw_skipL ?_
 simp [blockK, loopK, Post, resA, res1, expT, expA, exp1, expM, expL, okT, okA, ok1, rowOf, Tryz.f180]
theorem holds139_ok (b : Bd) (v : Ver) (hb : b.ver.pre.size ≤ 1000000) (hv : v.pre.size ≤ 1000000) : CallsOK Tryz.prog 139 [.agg b.cells, .agg v.cells] (bV (holdB v b)) [] := by
 refine callsOK mixed Tryz.call139 Tryz.func139 rfl (by rw [Tryz.ntmps139]; simp) ?_ rfl
 rw [Tryz.ntmps139]
 repeat with_reducible refine aw_assoc ?_
 first | with_reducible refine aw_region0 (by decide +kernel) fun K' hK => ?_ | with_reducible refine aw_toS (aw_region0 (by decide +kernel) fun K' hK => ?_)
 simp []
 first | refine hK _ _ _ ?_ | done
 clear K' hK
 repeat with_reducible refine aw_assoc ?_
 first | with_reducible refine aw_region0 (by decide +kernel) fun K' hK => ?_ | with_reducible refine aw_toS (aw_region0 (by decide +kernel) fun K' hK => ?_)
 simp []
 first | refine hK _ _ _ ?_ | done
 clear K' hK
 repeat with_reducible refine aw_assoc ?_
 first | with_reducible refine aw_region0 (by decide +kernel) fun K' hK => ?_ | with_reducible refine aw_toS (aw_region0 (by decide +kernel) fun K' hK => ?_)
 simp []
 first | refine hK _ _ _ ?_ | done
 clear K' hK
 repeat with_reducible refine aw_assoc ?_
 first | with_reducible refine aw_block ?_ | with_reducible refine aw_toS (aw_block ?_)
 by_cases h1 : b.op = 1
 ·repeat with_reducible refine aw_assoc ?_
  first | with_reducible refine aw_region0 (by decide +kernel) fun K' hK => ?_ | with_reducible refine aw_toS (aw_region0 (by decide +kernel) fun K' hK => ?_)
  simp [h1]
  first | refine hK _ _ _ ?_ | done
  clear K' hK
  repeat with_reducible refine aw_assoc ?_
  first | with_reducible refine aw_condP fun A B hA hB => ?_ | with_reducible refine aw_toS (aw_condP fun A B hA hB => ?_)
  simp [h1]
  refine ⟨fun hc => hA ?_, fun hc => hB ?_⟩ <;> clear hA hB A B <;> (try (simp at hc; done)) <;> (try (exfalso; simp at hc; omega)) <;> clear hc <;> (try with_reducible refine aw_skip ?_)
  repeat with_reducible refine aw_assoc ?_
  first | with_reducible refine aw_region0 (by decide +kernel) fun K' hK => ?_ | with_reducible refine aw_toS (aw_region0 (by decide +kernel) fun K' hK => ?_)
  simp []
  first | refine hK _ _ _ ?_ | done
  clear K' hK
  first | with_reducible refine aw_skipL ?_ | skip
  refine blockK_normal ?_
  repeat with_reducible refine aw_assoc ?_
  first | with_reducible refine aw_region0 (by decide +kernel) fun K' hK => ?_ | with_reducible refine aw_toS (aw_region0 (by decide +kernel) fun K' hK => ?_)
  simp []
  refine acall_flat (compare_ok v b.ver hv hb) rfl (by simp) ?_
  simp
  refine acall_flat (sg177_ok (comparN v b.ver)) rfl (by simp) ?_
  simp
  first | refine hK _ _ _ ?_ | done
  clear K' hK
  repeat with_reducible refine aw_assoc ?_
  first | with_reducible refine aw_ret ?_ | with_reducible refine aw_retL ?_ | with_reducible refine aw_skipL ?_
  simp [blockK, loopK, Post, resA, res1, expT, expA, exp1, expM, expL, okT, okA, ok1, rowOf, Tryz.f139]
  simp [holdB, opN, h1]
 ·repeat with_reducible refine aw_assoc ?_
  first | with_reducible refine aw_region0 (by decide +kernel) fun K' hK => ?_ | with_reducible refine aw_toS (aw_region0 (by decide +kernel) fun K' hK => ?_)
  simp [h1]
  first | refine hK _ _ _ ?_ | done
  clear K' hK
  repeat with_reducible refine aw_assoc ?_
  first | with_reducible refine aw_condP fun A B hA hB => ?_ | with_reducible refine aw_toS (aw_condP fun A B hA hB => ?_)
  simp [h1]
  refine ⟨fun hc => hA ?_, fun hc => hB ?_⟩ <;> clear hA hB A B <;> (try (simp at hc; done)) <;> (try (exfalso; simp at hc; omega)) <;> clear hc <;> (try with_reducible refine aw_skip ?_)
  by_cases h2 : b.op = 2
  ·repeat with_reducible refine aw_assoc ?_
   first | with_reducible refine aw_region0 (by decide +kernel) fun K' hK => ?_ | with_reducible refine aw_toS (aw_region0 (by decide +kernel) fun K' hK => ?_)
   simp [h1, h2]
   first | refine hK _ _ _ ?_ | done
   clear K' hK
   repeat with_reducible refine aw_assoc ?_
   first | with_reducible refine aw_condP fun A B hA hB => ?_ | with_reducible refine aw_toS (aw_condP fun A B hA hB => ?_)
   simp [h1, h2]
   refine ⟨fun hc => hA ?_, fun hc => hB ?_⟩ <;> clear hA hB A B <;> (try (simp at hc; done)) <;> (try (exfalso; simp at hc; omega)) <;> clear hc <;> (try with_reducible refine aw_skip ?_)
   repeat with_reducible refine aw_assoc ?_
   first | with_reducible refine aw_region0 (by decide +kernel) fun K' hK => ?_ | with_reducible refine aw_toS (aw_region0 (by decide +kernel) fun K' hK => ?_)
   simp []
   first | refine hK _ _ _ ?_ | done
   clear K' hK
   first | with_reducible refine aw_skipL ?_ | skip
   refine blockK_normal ?_
   repeat with_reducible refine aw_assoc ?_
   first | with_reducible refine aw_region0 (by decide +kernel) fun K' hK => ?_ | with_reducible refine aw_toS (aw_region0 (by decide +kernel) fun K' hK => ?_)
   simp []
   refine acall_flat (compare_ok v b.ver hv hb) rfl (by simp) ?_
   simp
   refine acall_flat (sg178_ok (comparN v b.ver)) rfl (by simp) ?_
   simp
   first | refine hK _ _ _ ?_ | done
   clear K' hK
   repeat with_reducible refine aw_assoc ?_
   first | with_reducible refine aw_ret ?_ | with_reducible refine aw_retL ?_ | with_reducible refine aw_skipL ?_
   simp [blockK, loopK, Post, resA, res1, expT, expA, exp1, expM, expL, okT, okA, ok1, rowOf, Tryz.f139]
   simp [holdB, opN, h1, h2]
  ·repeat with_reducible refine aw_assoc ?_
   first | with_reducible refine aw_region0 (by decide +kernel) fun K' hK => ?_ | with_reducible refine aw_toS (aw_region0 (by decide +kernel) fun K' hK => ?_)
   simp [h1, h2]
   first | refine hK _ _ _ ?_ | done
   clear K' hK
   repeat with_reducible refine aw_assoc ?_
   first | with_reducible refine aw_condP fun A B hA hB => ?_ | with_reducible refine aw_toS (aw_condP fun A B hA hB => ?_)
   simp [h1, h2]
   refine ⟨fun hc => hA ?_, fun hc => hB ?_⟩ <;> clear hA hB A B <;> (try (simp at hc; done)) <;> (try (exfalso; simp at hc; omega)) <;> clear hc <;> (try with_reducible refine aw_skip ?_)
   by_cases h3 : b.op = 3
   ·repeat with_reducible refine aw_assoc ?_
    first | with_reducible refine aw_region0 (by decide +kernel) fun K' hK => ?_ | with_reducible refine aw_toS (aw_region0 (by decide +kernel) fun K' hK => ?_)
    simp [h1, h2, h3]
    first | refine hK _ _ _ ?_ | done
    clear K' hK
    repeat with_reducible refine aw_assoc ?_
    first | with_reducible refine aw_condP fun A B hA hB => ?_ | with_reducible refine aw_toS (aw_condP fun A B hA hB => ?_)
    simp [h1, h2, h3]
    refine ⟨fun hc => hA ?_, fun hc => hB ?_⟩ <;> clear hA hB A B <;> (try (simp at hc; done)) <;> (try (exfalso; simp at hc; omega)) <;> clear hc <;> (try with_reducible refine aw_skip ?_)
    repeat with_reducible refine aw_assoc ?_
    first | with_reducible refine aw_region0 (by decide +kernel) fun K' hK => ?_ | with_reducible refine aw_toS (aw_region0 (by decide +kernel) fun K' hK => ?_)
    simp []
    first | refine hK _ _ _ ?_ | done
    clear K' hK
    first | with_reducible refine aw_skipL ?_ | skip
    refine blockK_normal ?_
    repeat with_reducible refine aw_assoc ?_
    first | with_reducible refine aw_region0 (by decide +kernel) fun K' hK => ?_ | with_reducible refine aw_toS (aw_region0 (by decide +kernel) fun K' hK => ?_)
    simp []
    refine acall_flat (compare_ok v b.ver hv hb) rfl (by simp) ?_
    simp
    refine acall_flat (sg179_ok (comparN v b.ver)) rfl (by simp) ?_
    simp
    first | refine hK _ _ _ ?_ | done
    clear K' hK
    repeat with_reducible refine aw_assoc ?_
    first | with_reducible refine aw_ret ?_ | with_reducible refine aw_retL ?_ | with_reducible refine aw_skipL ?_
    simp [blockK, loopK, Post, resA, res1, expT, expA, exp1, expM, expL, okT, okA, ok1, rowOf, Tryz.f139]
    simp [holdB, opN, h1, h2, h3]
   ·repeat with_reducible refine aw_assoc ?_
    first | with_reducible refine aw_region0 (by decide +kernel) fun K' hK => ?_ | with_reducible refine aw_toS (aw_region0 (by decide +kernel) fun K' hK => ?_)
    simp [h1, h2, h3]
    first | refine hK _ _ _ ?_ | done
    clear K' hK
    repeat with_reducible refine aw_assoc ?_
    first | with_reducible refine aw_condP fun A B hA hB => ?_ | with_reducible refine aw_toS (aw_condP fun A B hA hB => ?_)
    simp [h1, h2, h3]
    refine ⟨fun hc => hA ?_, fun hc => hB ?_⟩ <;> clear hA hB A B <;> (try (simp at hc; done)) <;> (try (exfalso; simp at hc; omega)) <;> clear hc <;> (try with_reducible refine aw_skip ?_)
    by_cases h4 : b.op = 4
    ·repeat with_reducible refine aw_assoc ?_
     first | with_reducible refine aw_region0 (by decide +kernel) fun K' hK => ?_ | with_reducible refine aw_toS (aw_region0 (by decide +kernel) fun K' hK => ?_)
     simp [h1, h2, h3, h4]
     first | refine hK _ _ _ ?_ | done
     clear K' hK
     repeat with_reducible refine aw_assoc ?_
     first | with_reducible refine aw_condP fun A B hA hB => ?_ | with_reducible refine aw_toS (aw_condP fun A B hA hB => ?_)
     simp [h1, h2, h3, h4]
     refine ⟨fun hc => hA ?_, fun hc => hB ?_⟩ <;> clear hA hB A B <;> (try (simp at hc; done)) <;> (try (exfalso; simp at hc; omega)) <;> clear hc <;> (try with_reducible refine aw_skip ?_)
     repeat with_reducible refine aw_assoc ?_
     first | with_reducible refine aw_region0 (by decide +kernel) fun K' hK => ?_ | with_reducible refine aw_toS (aw_region0 (by decide +kernel) fun K' hK => ?_)
     simp []
     first | refine hK _ _ _ ?_ | done
     clear K' hK
     first | with_reducible refine aw_skipL ?_ | skip
     refine blockK_normal ?_
     repeat with_reducible refine aw_assoc ?_
     first | with_reducible refine aw_region0 (by decide +kernel) fun K' hK => ?_ | with_reducible refine aw_toS (aw_region0 (by decide +kernel) fun K' hK => ?_)
     simp []
     refine acall_flat (compare_ok v b.ver hv hb) rfl (by simp) ?_
     simp
     refine acall_flat (sg180_ok (comparN v b.ver)) rfl (by simp) ?_
     simp
     first | refine hK _ _ _ ?_ | done
     clear K' hK
     repeat with_reducible refine aw_assoc ?_
     first | with_reducible refine aw_ret ?_ | with_reducible refine aw_retL ?_ | with_reducible refine aw_skipL ?_
     simp [blockK, loopK, Post, resA, res1, expT, expA, exp1, expM, expL, okT, okA, ok1, rowOf, Tryz.f139]
     simp [holdB, opN, h1, h2, h3, h4]
    ·repeat with_reducible refine aw_assoc ?_
     first | with_reducible refine aw_region0 (by decide +kernel) fun K' hK => ?_ | with_reducible refine aw_toS (aw_region0 (by decide +kernel) fun K' hK => ?_)
     simp [h1, h2, h3, h4]
     first | refine hK _ _ _ ?_ | done
     clear K' hK
     repeat with_reducible refine aw_assoc ?_
     first | with_reducible refine aw_condP fun A B hA hB => ?_ | with_reducible refine aw_toS (aw_condP fun A B hA hB => ?_)
     simp [h1, h2, h3, h4]
     refine ⟨fun hc => hA ?_, fun hc => hB ?_⟩ <;> clear hA hB A B <;> (try (simp at hc; done)) <;> (try (exfalso; simp at hc; omega)) <;> clear hc <;> (try with_reducible refine aw_skip ?_)
     first | with_reducible refine aw_skipL ?_ | skip
     refine blockK_normal ?_
     repeat with_reducible refine aw_assoc ?_
     first | with_reducible refine aw_region0 (by decide +kernel) fun K' hK => ?_ | with_reducible refine aw_toS (aw_region0 (by decide +kernel) fun K' hK => ?_)
     simp []
     refine acall_flat (compare_ok v b.ver hv hb) rfl (by simp) ?_
     simp
     refine acall_flat (sg176_ok (comparN v b.ver)) rfl (by simp) ?_
     simp
     first | refine hK _ _ _ ?_ | done
     clear K' hK
     repeat with_reducible refine aw_assoc ?_
     first | with_reducible refine aw_ret ?_ | with_reducible refine aw_retL ?_ | with_reducible refine aw_skipL ?_
     simp [blockK, loopK, Post, resA, res1, expT, expA, exp1, expM, expL, okT, okA, ok1, rowOf, Tryz.f139]
     simp [holdB, opN, h1, h2, h3, h4]
@[simp] theorem ver_put3 (d : Ver) (p : Bs) : List.take 3 d.cells ++ sV p :: List.drop 4 d.cells = ({ d with pre := p } : Ver).cells := rfl
theorem eql23' (a b : Ver) : evBin Tryz.prog .eql 23 a.val b.val = some (.bool ((a.maj == b.maj) && ((a.min == b.min) && ((a.pat == b.pat) && ((a.pre.toList == b.pre.toList) && true))))) := by kernel_rfl
@[simp] theorem eql23 (a b : Ver) : evBin Tryz.prog .eql 23 a.val b.val = some (.bool (decide (a = b))) := by
 rw [eql23', beq_toList]
 congr 2
 rw [Bool.eq_iff_iff]
 cases a; cases b; simp
theorem near140_ok (b : Bd) (v : Ver) : CallsOK Tryz.prog 140 [.agg b.cells, .agg v.cells] (bV (nearB v b)) [] := by
 refine callsOK mixed Tryz.call140 Tryz.func140 rfl (by rw [Tryz.ntmps140]; simp) ?_ rfl
 rw [Tryz.ntmps140]
 repeat with_reducible refine aw_assoc ?_
 first | with_reducible refine aw_region0 (by decide +kernel) fun K' hK => ?_ | with_reducible refine aw_toS (aw_region0 (by decide +kernel) fun K' hK => ?_)
 simp []
 first | refine hK _ _ _ ?_ | done
 clear K' hK
 repeat with_reducible refine aw_assoc ?_
 first | with_reducible refine aw_region0 (by decide +kernel) fun K' hK => ?_ | with_reducible refine aw_toS (aw_region0 (by decide +kernel) fun K' hK => ?_)
 simp []
 first | refine hK _ _ _ ?_ | done
 clear K' hK
 by_cases h : b.ver.pre = ⟨#[]⟩
 ·repeat with_reducible refine aw_assoc ?_
  first | with_reducible refine aw_region0 (by decide +kernel) fun K' hK => ?_ | with_reducible refine aw_toS (aw_region0 (by decide +kernel) fun K' hK => ?_)
  simp [h]
  first | refine hK _ _ _ ?_ | done
  clear K' hK
  repeat with_reducible refine aw_assoc ?_
  first | with_reducible refine aw_region0 (by decide +kernel) fun K' hK => ?_ | with_reducible refine aw_toS (aw_region0 (by decide +kernel) fun K' hK => ?_)
  simp []
  first | refine hK _ _ _ ?_ | done
  clear K' hK
  repeat with_reducible refine aw_assoc ?_
  first | with_reducible refine aw_region0 (by decide +kernel) fun K' hK => ?_ | with_reducible refine aw_toS (aw_region0 (by decide +kernel) fun K' hK => ?_)
  simp []
  first | refine hK _ _ _ ?_ | done
  clear K' hK
  repeat with_reducible refine aw_assoc ?_
  first | with_reducible refine aw_ret ?_ | with_reducible refine aw_retL ?_ | with_reducible refine aw_skipL ?_
  simp [blockK, loopK, Post, resA, res1, expT, expA, exp1, expM, expL, okT, okA, ok1, rowOf, Tryz.f140]
  simp [nearB, h]
 ·repeat with_reducible refine aw_assoc ?_
  first | with_reducible refine aw_region0 (by decide +kernel) fun K' hK => ?_ | with_reducible refine aw_toS (aw_region0 (by decide +kernel) fun K' hK => ?_)
  simp [h]
  first | refine hK _ _ _ ?_ | done
  clear K' hK
  repeat with_reducible refine aw_assoc ?_
  first | with_reducible refine aw_region0 (by decide +kernel) fun K' hK => ?_ | with_reducible refine aw_toS (aw_region0 (by decide +kernel) fun K' hK => ?_)
  simp []
  first | refine hK _ _ _ ?_ | done
  clear K' hK
  repeat with_reducible refine aw_assoc ?_
  first | with_reducible refine aw_region0 (by decide +kernel) fun K' hK => ?_ | with_reducible refine aw_toS (aw_region0 (by decide +kernel) fun K' hK => ?_)
  simp []
  first | refine hK _ _ _ ?_ | done
  clear K' hK
  repeat with_reducible refine aw_assoc ?_
  first | with_reducible refine aw_ret ?_ | with_reducible refine aw_retL ?_ | with_reducible refine aw_skipL ?_
  simp [blockK, loopK, Post, resA, res1, expT, expA, exp1, expM, expL, okT, okA, ok1, rowOf, Tryz.f140]
  simp [nearB, h]
end Go.Proofs.YtgipehooceecpaaGreatDoorAbs
