/- ValidAre. -/
import Derived.Test.YtgipehooceecpaaGreatDoorO10
namespace Go.Proofs.YtgipehooceecpaaGreatDoorAbs
set_option linter.unusedSimpArgs false
set_option linter.unusedVariables false
open Go Go.RowKit Go.Proofs
set_option maxRecDepth 100000
set_option maxHeartbeats 4000000
def RowM (N : Nat) (G : Hp) (x : AV) (acc : List Man) : Prop := ∃ r, x = .row r acc.length ∧ r < N ∧ G r = some (.row 27 (flat Man.cells acc))
theorem RowM.keep {N N' : Nat} {G G' : Hp} {x : AV} {acc : List Man} (h : RowM N G x acc) (hN : N ≤ N') (hg : ∀ i, i < N → G' i = G i) : RowM N' G' x acc := by
 obtain ⟨r, h1, h2, h3⟩ := h
 exact ⟨r, h1, by omega, by rw [hg r h2]; exact h3⟩
def RowJ (N : Nat) (G : Hp) (x : AV) (acc : List Int) : Prop := (x = .v (.slice none 0 0) ∧ acc = []) ∨ ∃ r, x = .row r acc.length ∧ r < N ∧ G r = some (.row 3 (flat iC acc))
theorem RowJ.keep {N N' : Nat} {G G' : Hp} {x : AV} {acc : List Int} (h : RowJ N G x acc) (hN : N ≤ N') (hg : ∀ i, i < N → G i = some (.row 3 (flat iC acc)) → G' i = G i) : RowJ N' G' x acc := by
 rcases h with h | ⟨r, h1, h2, h3⟩
 ·exact .inl h
 ·exact .inr ⟨r, h1, by omega, by rw [hg r h2 h3]; exact h3⟩
def wrongO (root : Man) (L : List Man) (t : List Pl) : List Int := if codeV root L t = 0 then wrongL root L t else []
theorem wrongR_form (root : Man) (L : List Man) (t : List Pl) : (wrongO root L t = [] ∧ wrongR root L t = (.tup [.v (.slice none 0 0), iV (codeV root L t)], [])) ∨ wrongR root L t = (.tup [.row 0 (wrongO root L t).length, iV (codeV root L t)], [(3, flat iC (wrongO root L t))]) := by
 unfold wrongR wrongO
 by_cases h : codeV root L t = 0
 ·rw [if_pos h, if_pos h]
  by_cases w : wrongL root L t = []
  ·rw [if_pos w, h]; exact .inl ⟨w, rfl⟩
  ·rw [if_neg w, h]; exact .inr rfl
 ·rw [if_neg h, if_neg h]; exact .inr rfl
theorem wrongO_len {root : Man} {L : List Man} {t : List Pl} : (wrongO root L t).length ≤ t.length := by
 unfold wrongO
 split
 ·exact Nat.le_trans (List.length_filter_le _ _) belowL_len
 ·simp
set_option maxRecDepth 100000
set_option maxHeartbeats 400000
theorem numP_atoi {l : List UInt8} (h : numOk l = true) : numP l = true ∧ numR l = atoiN l := by
 have hp : numP l = true ∧ l.length ≤ 6 := by
  unfold numOk at h
  simp only [Bool.and_eq_true, decide_eq_true_eq] at h
  exact ⟨h.1, h.2.1⟩
 have h2 := hp.1
 rw [numP_eq] at h2
 simp only [Bool.and_eq_true, Bool.not_eq_true', decide_eq_false_iff_not] at h2
 refine ⟨hp.1, ?_⟩
 rw [numR, if_pos h, atoi_num h2.1 h2.2 (by omega)]
theorem partF_num {l : List UInt8} (h : partF l = true) (hn : numP l = true) : numR l = atoiN l := by
 unfold partF at h
 simp only [Bool.and_eq_true, beq_iff_eq] at h
 rw [hn] at h
 exact (numP_atoi h.2.2.2.symm).2
def partsR (a b : Bs) : Int := if numP (bsL a) = true ∧ numP (bsL b) = true then cmpI (numR (bsL a)) (numR (bsL b)) else if numP (bsL a) = true then -1 else if numP (bsL b) = true then 1 else cmpB a b
theorem partsR_eq {a b : Bs} (ha : partF (bsL a) = true) (hb : partF (bsL b) = true) : partsR a b = partsN a b := by
 unfold partsR partsN
 by_cases h1 : numP (bsL a) = true
 ·by_cases h2 : numP (bsL b) = true
  ·rw [if_pos ⟨h1, h2⟩, if_pos h1, if_pos h2, partF_num ha h1, partF_num hb h2]
  ·rw [if_neg (fun h => h2 h.2), if_pos h1, if_pos h1, if_neg h2]
 ·rw [if_neg (fun h => h1 h.1), if_neg h1, if_neg h1]
set_option maxRecDepth 100000
set_option maxHeartbeats 4000000
theorem order227_ok (a b : Int) : CallsOK Tryz.prog 227 [iV a, iV b] (iV (cmpI a b)) [] := by
 refine callsOK mixed Tryz.call227 Tryz.func227 rfl (by rw [Tryz.ntmps227]; simp) ?_ rfl
 rw [Tryz.ntmps227]
 with_reducible refine aR fun K' hK => ?_
 simp
 refine hK _ _ _ ?_; clear K' hK
 by_cases h1 : a < b
 ·with_reducible refine aA ?_
  with_reducible refine aR fun K' hK => ?_
  simp [h1]
  refine hK _ _ _ ?_; clear K' hK
  with_reducible refine aX (by simp [h1]) ?_
  with_reducible refine aA ?_
  with_reducible refine aR fun K' hK => ?_
  simp
  refine hK _ _ _ ?_; clear K' hK
  with_reducible refine aw_ret ?_
  simp [blockK, loopK, Post, resA, res1, expT, expA, exp1, expM, expL, okT, okA, ok1, rowOf, Tryz.f227]
  simp [cmpI, h1]
 ·with_reducible refine aA ?_
  with_reducible refine aR fun K' hK => ?_
  simp [h1]
  refine hK _ _ _ ?_; clear K' hK
  with_reducible refine aYk (by simp [h1]) ?_
  by_cases h2 : b < a
  ·with_reducible refine aA ?_
   with_reducible refine aR fun K' hK => ?_
   simp [h2]
   refine hK _ _ _ ?_; clear K' hK
   with_reducible refine aX (by simp [h2]) ?_
   with_reducible refine aA ?_
   with_reducible refine aR fun K' hK => ?_
   simp
   refine hK _ _ _ ?_; clear K' hK
   with_reducible refine aw_ret ?_
   simp [blockK, loopK, Post, resA, res1, expT, expA, exp1, expM, expL, okT, okA, ok1, rowOf, Tryz.f227]
   simp [cmpI, h1, h2]
  ·with_reducible refine aA ?_
   with_reducible refine aR fun K' hK => ?_
   simp [h2]
   refine hK _ _ _ ?_; clear K' hK
   with_reducible refine aYk (by simp [h2]) ?_
   with_reducible refine aR fun K' hK => ?_
   simp
   refine hK _ _ _ ?_; clear K' hK
   with_reducible refine aw_retL ?_
   simp [blockK, loopK, Post, resA, res1, expT, expA, exp1, expM, expL, okT, okA, ok1, rowOf, Tryz.f227]
   simp [cmpI, h1, h2]
theorem small228_ok (a b : Bs) : CallsOK Tryz.prog 228 [sV a, sV b] (iV (if a = ⟨#[]⟩ ∧ b = ⟨#[]⟩ then 0 else 1)) [] := by
 refine callsOK mixed Tryz.call228 Tryz.func228 rfl (by rw [Tryz.ntmps228]; simp) ?_ rfl
 rw [Tryz.ntmps228]
 with_reducible refine aR fun K' hK => ?_
 simp
 refine hK _ _ _ ?_; clear K' hK
 by_cases h1 : a = ⟨#[]⟩
 ·by_cases h2 : b = ⟨#[]⟩
  ·with_reducible refine aA ?_
   with_reducible refine aR fun K' hK => ?_
   simp [h1, h2]
   refine hK _ _ _ ?_; clear K' hK
   with_reducible refine aX (by simp) ?_
   with_reducible refine aA ?_
   with_reducible refine aR fun K' hK => ?_
   simp
   refine hK _ _ _ ?_; clear K' hK
   with_reducible refine aw_ret ?_
   simp [blockK, loopK, Post, resA, res1, expT, expA, exp1, expM, expL, okT, okA, ok1, rowOf, Tryz.f228]
   simp [h1, h2]
  ·with_reducible refine aA ?_
   with_reducible refine aR fun K' hK => ?_
   simp [h1, h2]
   refine hK _ _ _ ?_; clear K' hK
   with_reducible refine aYk (by simp) ?_
   with_reducible refine aR fun K' hK => ?_
   simp
   refine hK _ _ _ ?_; clear K' hK
   with_reducible refine aw_retL ?_
   simp [blockK, loopK, Post, resA, res1, expT, expA, exp1, expM, expL, okT, okA, ok1, rowOf, Tryz.f228]
   simp [h1, h2]
 ·with_reducible refine aA ?_
  with_reducible refine aR fun K' hK => ?_
  simp [h1]
  refine hK _ _ _ ?_; clear K' hK
  with_reducible refine aYk (by simp) ?_
  with_reducible refine aR fun K' hK => ?_
  simp
  refine hK _ _ _ ?_; clear K' hK
  with_reducible refine aw_retL ?_
  simp [blockK, loopK, Post, resA, res1, expT, expA, exp1, expM, expL, okT, okA, ok1, rowOf, Tryz.f228]
  simp [h1]
theorem parts229_ok (a b : Bs) (ha : a.size ≤ 4000000000) (hb : b.size ≤ 4000000000) : CallsOK Tryz.prog 229 [sV a, sV b] (iV (partsR a b)) [] := by
 refine callsOK mixed Tryz.call229 Tryz.func229 rfl (by rw [Tryz.ntmps229]; simp) ?_ rfl
 rw [Tryz.ntmps229]
 with_reducible refine aR fun K' hK => ?_
 simp
 refine hK _ _ _ ?_; clear K' hK
 with_reducible refine aA ?_
 with_reducible refine aR fun K' hK => ?_
 simp
 refine acall_flat (digits70_ok a (by omega)) rfl (by simp) ?_
 by_cases na : numP (bsL a) = true
 ·simp [na]
  refine acall_flat (digits70_ok b (by omega)) rfl (by simp) ?_
  by_cases nb : numP (bsL b) = true
  ·simp [nb]
   refine hK _ _ _ ?_; clear K' hK
   with_reducible refine aX (by simp) ?_
   with_reducible refine aA ?_
   with_reducible refine aR fun K' hK => ?_
   simp
   refine acall_flat (number71_ok a (by omega)) rfl (by simp) ?_
   simp
   refine acall_flat (number71_ok b (by omega)) rfl (by simp) ?_
   simp
   refine acall_flat (order227_ok (numR (bsL a)) (numR (bsL b))) rfl (by simp) ?_
   simp
   refine hK _ _ _ ?_; clear K' hK
   with_reducible refine aw_ret ?_
   simp [blockK, loopK, Post, resA, res1, expT, expA, exp1, expM, expL, okT, okA, ok1, rowOf, Tryz.f229]
   simp [partsR, na, nb]
  ·simp [nb]
   refine hK _ _ _ ?_; clear K' hK
   with_reducible refine aYk (by simp) ?_
   with_reducible refine aA ?_
   with_reducible refine aR fun K' hK => ?_
   simp
   refine acall_flat (digits70_ok a (by omega)) rfl (by simp) ?_
   simp [na]
   refine hK _ _ _ ?_; clear K' hK
   with_reducible refine aX (by simp) ?_
   with_reducible refine aA ?_
   with_reducible refine aR fun K' hK => ?_
   simp
   refine hK _ _ _ ?_; clear K' hK
   with_reducible refine aw_ret ?_
   simp [blockK, loopK, Post, resA, res1, expT, expA, exp1, expM, expL, okT, okA, ok1, rowOf, Tryz.f229]
   simp [partsR, na, nb]
 ·simp [na]
  refine hK _ _ _ ?_; clear K' hK
  with_reducible refine aYk (by simp) ?_
  with_reducible refine aA ?_
  with_reducible refine aR fun K' hK => ?_
  simp
  refine acall_flat (digits70_ok a (by omega)) rfl (by simp) ?_
  simp [na]
  refine hK _ _ _ ?_; clear K' hK
  with_reducible refine aYk (by simp) ?_
  with_reducible refine aA ?_
  with_reducible refine aR fun K' hK => ?_
  simp
  refine acall_flat (digits70_ok b (by omega)) rfl (by simp) ?_
  by_cases nb : numP (bsL b) = true
  ·simp [nb]
   refine hK _ _ _ ?_; clear K' hK
   with_reducible refine aX (by simp) ?_
   with_reducible refine aA ?_
   with_reducible refine aR fun K' hK => ?_
   simp
   refine hK _ _ _ ?_; clear K' hK
   with_reducible refine aw_ret ?_
   simp [blockK, loopK, Post, resA, res1, expT, expA, exp1, expM, expL, okT, okA, ok1, rowOf, Tryz.f229]
   simp [partsR, na, nb]
  ·simp [nb]
   refine hK _ _ _ ?_; clear K' hK
   with_reducible refine aYk (by simp) ?_
   by_cases h1 : ltB a b = true
   ·with_reducible refine aA ?_
    with_reducible refine aR fun K' hK => ?_
    simp [h1]
    refine hK _ _ _ ?_; clear K' hK
    with_reducible refine aX (by simp [h1]) ?_
    with_reducible refine aA ?_
    with_reducible refine aR fun K' hK => ?_
    simp
    refine hK _ _ _ ?_; clear K' hK
    with_reducible refine aw_ret ?_
    simp [blockK, loopK, Post, resA, res1, expT, expA, exp1, expM, expL, okT, okA, ok1, rowOf, Tryz.f229]
    simp [partsR, na, nb, cmpB, h1]
   ·with_reducible refine aA ?_
    with_reducible refine aR fun K' hK => ?_
    simp [h1]
    refine hK _ _ _ ?_; clear K' hK
    with_reducible refine aYk (by simp [h1]) ?_
    by_cases h2 : ltB b a = true
    ·with_reducible refine aA ?_
     with_reducible refine aR fun K' hK => ?_
     simp [h2]
     refine hK _ _ _ ?_; clear K' hK
     with_reducible refine aX (by simp [h2]) ?_
     with_reducible refine aA ?_
     with_reducible refine aR fun K' hK => ?_
     simp
     refine hK _ _ _ ?_; clear K' hK
     with_reducible refine aw_ret ?_
     simp [blockK, loopK, Post, resA, res1, expT, expA, exp1, expM, expL, okT, okA, ok1, rowOf, Tryz.f229]
     simp [partsR, na, nb, cmpB, h1, h2]
    ·with_reducible refine aA ?_
     with_reducible refine aR fun K' hK => ?_
     simp [h2]
     refine hK _ _ _ ?_; clear K' hK
     with_reducible refine aYk (by simp [h2]) ?_
     with_reducible refine aR fun K' hK => ?_
     simp
     refine hK _ _ _ ?_; clear K' hK
     with_reducible refine aw_retL ?_
     simp [blockK, loopK, Post, resA, res1, expT, expA, exp1, expM, expL, okT, okA, ok1, rowOf, Tryz.f229]
     simp [partsR, na, nb, cmpB, h1, h2]
theorem okParts {v : Ver} (h : verOk v = true) (hp : v.pre ≠ ⟨#[]⟩) : ∀ b ∈ strs (spl (bsL v.pre)), partF (bsL b) = true := by
 intro b hb
 simp only [verOk, preOk, Bool.and_eq_true, Bool.or_eq_true, decide_eq_true_eq] at h
 rcases h.1 with h1 | h1
 ·exact absurd ((empty_iff _).2 h1) hp
 ·rw [dot_spl, Bool.and_eq_true, List.all_eq_true] at h1
  obtain ⟨l, hl, rfl⟩ := List.mem_map.1 hb
  have : bsL (ofL l) = l := by simp [bsL, ofL]
  rw [this]; exact h1.2 l hl
set_option maxRecDepth 100000
set_option maxHeartbeats 4000000
theorem cmpI_lt {a b : Int} (h : a < b) : cmpI a b = -1 := by unfold cmpI; rw [if_pos h]
theorem cmpI_gt {a b : Int} (h : b < a) : cmpI a b = 1 := by unfold cmpI; rw [if_neg (by omega), if_pos h]
theorem size_pos {a : Bs} (h : ¬ a = ⟨#[]⟩) : 0 < a.size := by
 rcases Nat.eq_zero_or_pos a.size with h2 | h2
 ·exact absurd (ByteArray.size_eq_zero_iff.1 h2) h
 ·exact h2
theorem wrap_0 : IntKind.i64.wrap 0 = 0 := by decide
theorem wrap_1 : IntKind.i64.wrap 1 = 1 := by decide
theorem wrap_m1 : IntKind.i64.wrap (-1) = -1 := by decide
theorem compare192_ok (a b : Ver) (ha : a.pre.size ≤ 1000000) (hb : b.pre.size ≤ 1000000) : CallsOK Tryz.prog 192 [.agg a.cells, .agg b.cells] (iV (comparN a b)) [] := by
 refine callsOK mixed Tryz.call192 Tryz.func192 rfl (by rw [Tryz.ntmps192]; simp) ?_ rfl
 rw [Tryz.ntmps192]
 with_reducible refine aR fun K' hK => ?_
 simp
 refine hK _ _ _ ?_; clear K' hK
 with_reducible refine aA ?_
 with_reducible refine aR fun K' hK => ?_
 simp
 refine acall_flat (right37_ok a (by omega)) rfl (by simp) ?_
 by_cases va : verOk a = true
 ·simp [va]
  refine acall_flat (right37_ok b (by omega)) rfl (by simp) ?_
  by_cases vb : verOk b = true
  ·simp [vb]
   refine hK _ _ _ ?_; clear K' hK
   with_reducible refine aYk (by simp) ?_
   have fin : comparN a b = if coreN a b ≠ 0 ∨ a.pre = b.pre then coreN a b else if a.pre = ⟨#[]⟩ then 1 else if b.pre = ⟨#[]⟩ then -1 else rowsN (strs (spl (bsL a.pre))) (strs (spl (bsL b.pre))) := by rw [comparN, if_pos ⟨va, vb⟩]
   by_cases e1 : a.maj = b.maj
   ·with_reducible refine aA ?_
    with_reducible refine aR fun K' hK => ?_
    simp [e1]
    refine hK _ _ _ ?_; clear K' hK
    with_reducible refine aYk (by simp [e1]) ?_
    by_cases e2 : a.min = b.min
    ·with_reducible refine aA ?_
     with_reducible refine aR fun K' hK => ?_
     simp [e2]
     refine hK _ _ _ ?_; clear K' hK
     with_reducible refine aYk (by simp [e2]) ?_
     by_cases e3 : a.pat = b.pat
     ·with_reducible refine aA ?_
      with_reducible refine aR fun K' hK => ?_
      simp [e3]
      refine hK _ _ _ ?_; clear K' hK
      with_reducible refine aYk (by simp [e3]) ?_
      have hcore : coreN a b = 0 := by simp [coreN, e1, e2, e3, cmpI_self]
      by_cases p1 : a.pre = ⟨#[]⟩
      ·with_reducible refine aA ?_
       with_reducible refine aR fun K' hK => ?_
       simp [p1]
       refine hK _ _ _ ?_; clear K' hK
       with_reducible refine aX (by simp [p1]) ?_
       with_reducible refine aA ?_
       with_reducible refine aQ fun K' hK => ?_
       simp
       refine acall_flat (order227_ok b.pre.size a.pre.size) rfl (by simp) ?_
       simp
       refine acall_flat (small228_ok a.pre b.pre) rfl (by simp) ?_
       by_cases p2 : b.pre = ⟨#[]⟩
       ·have hv : comparN a b = 0 := by rw [fin, if_pos (.inr (by rw [p1, p2])), hcore]
        simp [p1, p2, cmpI_self]
        refine hK _ _ _ ?_; clear K' hK
        with_reducible refine aw_ret ?_
        simp [blockK, loopK, Post, resA, res1, expT, expA, exp1, expM, expL, okT, okA, ok1, rowOf, Tryz.f192]
        simp [hv, wrap_0, wrap_1, wrap_m1]
       ·have hv : comparN a b = 1 := by rw [fin, if_neg (by simp [hcore, p1, Ne.symm p2]), if_pos p1]
        have hs : cmpI b.pre.size a.pre.size = 1 := cmpI_gt (by have := size_pos p2; rw [p1]; show (0 : Int) < _; omega)
        simp [p1, p2]
        rw [p1] at hs
        simp [hs]
        refine hK _ _ _ ?_; clear K' hK
        with_reducible refine aw_ret ?_
        simp [blockK, loopK, Post, resA, res1, expT, expA, exp1, expM, expL, okT, okA, ok1, rowOf, Tryz.f192]
        simp [hv, wrap_0, wrap_1, wrap_m1]
      ·by_cases p2 : b.pre = ⟨#[]⟩
       ·with_reducible refine aA ?_
        with_reducible refine aR fun K' hK => ?_
        simp [p1, p2]
        refine hK _ _ _ ?_; clear K' hK
        with_reducible refine aX (by simp [p1, p2]) ?_
        with_reducible refine aA ?_
        with_reducible refine aQ fun K' hK => ?_
        simp
        refine acall_flat (order227_ok b.pre.size a.pre.size) rfl (by simp) ?_
        simp
        refine acall_flat (small228_ok a.pre b.pre) rfl (by simp) ?_
        have hv : comparN a b = -1 := by rw [fin, if_neg (by simp [hcore, p1, p2]), if_neg p1, if_pos p2]
        have hs : cmpI b.pre.size a.pre.size = -1 := cmpI_lt (by have := size_pos p1; rw [p2]; show (0 : Int) < _; omega)
        simp [p1, p2]
        rw [p2] at hs
        simp [hs]
        refine hK _ _ _ ?_; clear K' hK
        with_reducible refine aw_ret ?_
        simp [blockK, loopK, Post, resA, res1, expT, expA, exp1, expM, expL, okT, okA, ok1, rowOf, Tryz.f192]
        simp [hv, wrap_0, wrap_1, wrap_m1]
       ·with_reducible refine aA ?_
        with_reducible refine aR fun K' hK => ?_
        simp [p1, p2]
        refine hK _ _ _ ?_; clear K' hK
        with_reducible refine aYk (by simp [p1, p2]) ?_
        with_reducible refine aR fun K' hK => ?_
        simp
        refine acall_new (cut58_ok a.pre (by omega)) (by simp) ?_
        simp [addJ_one]
        refine hK _ _ _ ?_; clear K' hK
        with_reducible refine aR fun K' hK => ?_
        simp
        refine acall_new (cut58_ok b.pre (by omega)) (by simp) ?_
        simp [addJ_one]
        refine hK _ _ _ ?_; clear K' hK
        with_reducible refine aA ?_
        with_reducible refine aR fun K' hK => ?_
        simp
        refine hK _ _ _ ?_; clear K' hK
        have hpa := okParts va p1
        have hpb := okParts vb p2
        have hla := strs_le a.pre
        have hlb := strs_le b.pre
        have hsa : ∀ x ∈ strs (spl (bsL a.pre)), x.size ≤ 4000000000 := fun x hx => by have := strs_size hx; omega
        have hsb : ∀ x ∈ strs (spl (bsL b.pre)), x.size ≤ 4000000000 := fun x hx => by have := strs_size hx; omega
        have hv : comparN a b = rowsN (strs (spl (bsL a.pre))) (strs (spl (bsL b.pre))) := by
         rw [fin]
         by_cases p3 : a.pre = b.pre
         ·rw [if_pos (.inr p3), hcore, p3, rowsN_self]
         ·rw [if_neg (by simp [hcore, p3]), if_neg p1, if_neg p2]
        generalize strs (spl (bsL a.pre)) = x at *
        generalize strs (spl (bsL b.pre)) = y at *
        rw [hv]
        with_reducible refine aw_block ?_
        refine aw_loop (fun s G nx => s 5 = .row 2 x.length ∧ s 6 = .row 3 y.length ∧ G 2 = some (.row 9 (flat sC x)) ∧ G 3 = some (.row 9 (flat sC y)) ∧ ∃ i : Nat, s 7 = iV i ∧ i ≤ x.length ∧ i ≤ y.length ∧ rowsN x y = rowsN (x.drop i) (y.drop i)) (fun s _ _ => match s 7 with | .v (.int _ n) => x.length - n.toNat | _ => 0) ?_ ?_
        ·exact ⟨by simp, by simp, by simp, by simp, 0, by simp, by omega, by omega, by simp⟩
        ·rintro s G nx hf ⟨s5, s6, g2, g3, i, s7, hi, hj, ht⟩
         have hw : IntKind.i64.wrap (↑i + 1) = ((i + 1 : Nat) : Int) := wrapS (by omega)
         by_cases hi2 : i < x.length
         ·by_cases hj2 : i < y.length
          ·with_reducible refine aA ?_
           with_reducible refine aR fun K' hK => ?_
           simp [s5, s6, s7, g2, g3, hi2, hj2]
           refine hK _ _ _ ?_; clear K' hK
           with_reducible refine aXk (by simp [hi2, hj2]) ?_
           have hstep := rowsN_drop hi2 hj2
           have e : partsR (nth x i) (nth y i) = partsN (nth x i) (nth y i) := partsR_eq (hpa _ (nth_mem hi2)) (hpb _ (nth_mem hj2))
           have h1 := hsa _ (nth_mem hi2)
           have h2 := hsb _ (nth_mem hj2)
           with_reducible refine aw_block ?_
           with_reducible refine aQ fun K' hK => ?_
           simp [s5, s6, s7, g2, g3, hi2, hj2]
           refine acall_flat (parts229_ok (nth x i) (nth y i) h1 h2) rfl (by simp) ?_
           simp
           refine hK _ _ _ ?_; clear K' hK
           rw [e]
           by_cases h0 : partsN (nth x i) (nth y i) = 0
           ·skip
            with_reducible refine aR fun K' hK => ?_
            simp [h0]
            refine hK _ _ _ ?_; clear K' hK
            with_reducible refine aVk (by simp [h0]) ?_
            with_reducible refine aw_skipL ?_
            refine blockK_normal ?_
            with_reducible refine aS fun K' hK => ?_
            simp [s7, hw]
            refine hK _ _ _ ?_; clear K' hK
            refine aw_skipL (loopK_normal ?_ ?_)
            ·exact ⟨by simp [s5], by simp [s6], by simp [g2], by simp [g3], i + 1, by simp [hw], by omega, by omega, by rw [ht, hstep, if_pos h0]⟩
            ·simp [s7, hw]; omega
           ·skip
            with_reducible refine aR fun K' hK => ?_
            simp [h0]
            refine hK _ _ _ ?_; clear K' hK
            with_reducible refine aU (by simp [h0]) ?_
            with_reducible refine aA ?_
            with_reducible refine aR fun K' hK => ?_
            simp
            refine hK _ _ _ ?_; clear K' hK
            with_reducible refine aw_ret ?_
            simp [blockK, loopK, Post, resA, res1, expT, expA, exp1, expM, expL, okT, okA, ok1, rowOf, Tryz.f192]
            rw [ht, hstep, if_neg h0]
          ·have : y.length = i := by omega
           with_reducible refine aA ?_
           with_reducible refine aR fun K' hK => ?_
           simp [s5, s6, s7, g2, g3, hi2, hj2]
           refine hK _ _ _ ?_; clear K' hK
           with_reducible refine aY (by simp [hi2, hj2]) ?_
           with_reducible refine aw_exit ?_
           refine loopK_exit (blockK_exit ?_)
           with_reducible refine aR fun K' hK => ?_
           simp [s5, s6, g2, g3]
           refine acall_flat (order227_ok x.length y.length) rfl (by simp) ?_
           simp
           refine hK _ _ _ ?_; clear K' hK
           with_reducible refine aw_retL ?_
           simp [blockK, loopK, Post, resA, res1, expT, expA, exp1, expM, expL, okT, okA, ok1, rowOf, Tryz.f192]
           rw [ht, rowsN_end (by omega)]
         ·with_reducible refine aA ?_
          with_reducible refine aR fun K' hK => ?_
          simp [s5, s6, s7, g2, g3, hi2]
          refine hK _ _ _ ?_; clear K' hK
          with_reducible refine aY (by simp [hi2]) ?_
          with_reducible refine aw_exit ?_
          refine loopK_exit (blockK_exit ?_)
          with_reducible refine aR fun K' hK => ?_
          simp [s5, s6, g2, g3]
          refine acall_flat (order227_ok x.length y.length) rfl (by simp) ?_
          simp
          refine hK _ _ _ ?_; clear K' hK
          with_reducible refine aw_retL ?_
          simp [blockK, loopK, Post, resA, res1, expT, expA, exp1, expM, expL, okT, okA, ok1, rowOf, Tryz.f192]
          rw [ht, rowsN_end (by omega)]
     ·with_reducible refine aA ?_
      with_reducible refine aR fun K' hK => ?_
      simp [e3]
      refine hK _ _ _ ?_; clear K' hK
      with_reducible refine aX (by simp [e3]) ?_
      with_reducible refine aA ?_
      with_reducible refine aR fun K' hK => ?_
      simp
      refine acall_flat (order227_ok a.pat b.pat) rfl (by simp) ?_
      simp
      refine hK _ _ _ ?_; clear K' hK
      with_reducible refine aw_ret ?_
      simp [blockK, loopK, Post, resA, res1, expT, expA, exp1, expM, expL, okT, okA, ok1, rowOf, Tryz.f192]
      have : coreN a b = cmpI a.pat b.pat := by simp [coreN, e1, e2, cmpI_self]
      rw [fin, if_pos (.inl (by rw [this]; exact fun h => e3 (cmpI_zero.1 h))), this]
    ·with_reducible refine aA ?_
     with_reducible refine aR fun K' hK => ?_
     simp [e2]
     refine hK _ _ _ ?_; clear K' hK
     with_reducible refine aX (by simp [e2]) ?_
     with_reducible refine aA ?_
     with_reducible refine aR fun K' hK => ?_
     simp
     refine acall_flat (order227_ok a.min b.min) rfl (by simp) ?_
     simp
     refine hK _ _ _ ?_; clear K' hK
     with_reducible refine aw_ret ?_
     simp [blockK, loopK, Post, resA, res1, expT, expA, exp1, expM, expL, okT, okA, ok1, rowOf, Tryz.f192]
     have h0 : cmpI a.min b.min ≠ 0 := fun h => e2 (cmpI_zero.1 h)
     have : coreN a b = cmpI a.min b.min := by simp [coreN, e1, cmpI_self, h0]
     rw [fin, if_pos (.inl (by rw [this]; exact h0)), this]
   ·with_reducible refine aA ?_
    with_reducible refine aR fun K' hK => ?_
    simp [e1]
    refine hK _ _ _ ?_; clear K' hK
    with_reducible refine aX (by simp [e1]) ?_
    with_reducible refine aA ?_
    with_reducible refine aR fun K' hK => ?_
    simp
    refine acall_flat (order227_ok a.maj b.maj) rfl (by simp) ?_
    simp
    refine hK _ _ _ ?_; clear K' hK
    with_reducible refine aw_ret ?_
    simp [blockK, loopK, Post, resA, res1, expT, expA, exp1, expM, expL, okT, okA, ok1, rowOf, Tryz.f192]
    have h0 : cmpI a.maj b.maj ≠ 0 := fun h => e1 (cmpI_zero.1 h)
    have : coreN a b = cmpI a.maj b.maj := by simp [coreN, h0]
    rw [fin, if_pos (.inl (by rw [this]; exact h0)), this]
  ·simp [vb]
   refine hK _ _ _ ?_; clear K' hK
   with_reducible refine aX (by simp) ?_
   with_reducible refine aA ?_
   with_reducible refine aR fun K' hK => ?_
   simp
   refine hK _ _ _ ?_; clear K' hK
   with_reducible refine aw_ret ?_
   simp [blockK, loopK, Post, resA, res1, expT, expA, exp1, expM, expL, okT, okA, ok1, rowOf, Tryz.f192]
   simp [comparN, vb]
 ·simp [va]
  refine hK _ _ _ ?_; clear K' hK
  with_reducible refine aX (by simp) ?_
  with_reducible refine aA ?_
  with_reducible refine aR fun K' hK => ?_
  simp
  refine hK _ _ _ ?_; clear K' hK
  with_reducible refine aw_ret ?_
  simp [blockK, loopK, Post, resA, res1, expT, expA, exp1, expM, expL, okT, okA, ok1, rowOf, Tryz.f192]
  simp [comparN, va]
set_option maxRecDepth 100000
set_option maxHeartbeats 4000000
theorem bound155_ok (b : Bd) (v : Ver) (hb : b.ver.pre.size ≤ 1000000) (hv : v.pre.size ≤ 1000000) : CallsOK Tryz.prog 155 [.agg b.cells, .agg v.cells] (bV (holdB v b)) [] := by
 refine callsOK mixed Tryz.call155 Tryz.func155 rfl (by rw [Tryz.ntmps155]; simp) ?_ rfl
 rw [Tryz.ntmps155]
 with_reducible refine aR fun K' hK => ?_
 simp
 refine hK _ _ _ ?_; clear K' hK
 with_reducible refine aR fun K' hK => ?_
 simp
 refine acall_flat (compare192_ok v b.ver hv hb) rfl (by simp) ?_
 simp
 refine hK _ _ _ ?_; clear K' hK
 with_reducible refine aA ?_
 with_reducible refine aR fun K' hK => ?_
 simp
 refine hK _ _ _ ?_; clear K' hK
 have hd : holdB v b = opN b.op (comparN v b.ver) := rfl
 generalize comparN v b.ver = c at *
 with_reducible refine aw_block ?_
 by_cases h1 : b.op = 1
 ·skip
  with_reducible refine aR fun K' hK => ?_
  simp [h1]
  refine hK _ _ _ ?_; clear K' hK
  with_reducible refine aU (by simp [h1]) ?_
  with_reducible refine aA ?_
  with_reducible refine aR fun K' hK => ?_
  simp
  refine hK _ _ _ ?_; clear K' hK
  with_reducible refine aw_ret ?_
  simp [blockK, loopK, Post, resA, res1, expT, expA, exp1, expM, expL, okT, okA, ok1, rowOf, Tryz.f155]
  simp [hd, opN, h1]
 ·skip
  with_reducible refine aR fun K' hK => ?_
  simp [h1]
  refine hK _ _ _ ?_; clear K' hK
  with_reducible refine aV (by simp [h1]) ?_
  by_cases h2 : b.op = 2
  ·with_reducible refine aA ?_
   with_reducible refine aR fun K' hK => ?_
   simp [h2]
   refine hK _ _ _ ?_; clear K' hK
   with_reducible refine aX (by simp [h2]) ?_
   with_reducible refine aA ?_
   with_reducible refine aR fun K' hK => ?_
   simp
   refine hK _ _ _ ?_; clear K' hK
   with_reducible refine aw_ret ?_
   simp [blockK, loopK, Post, resA, res1, expT, expA, exp1, expM, expL, okT, okA, ok1, rowOf, Tryz.f155]
   simp [hd, opN, h2]
  ·with_reducible refine aA ?_
   with_reducible refine aR fun K' hK => ?_
   simp [h2]
   refine hK _ _ _ ?_; clear K' hK
   with_reducible refine aY (by simp [h2]) ?_
   by_cases h3 : b.op = 3
   ·with_reducible refine aA ?_
    with_reducible refine aR fun K' hK => ?_
    simp [h3]
    refine hK _ _ _ ?_; clear K' hK
    with_reducible refine aX (by simp [h3]) ?_
    with_reducible refine aA ?_
    with_reducible refine aR fun K' hK => ?_
    simp
    refine hK _ _ _ ?_; clear K' hK
    with_reducible refine aw_ret ?_
    simp [blockK, loopK, Post, resA, res1, expT, expA, exp1, expM, expL, okT, okA, ok1, rowOf, Tryz.f155]
    simp [hd, opN, h3]
   ·with_reducible refine aA ?_
    with_reducible refine aR fun K' hK => ?_
    simp [h3]
    refine hK _ _ _ ?_; clear K' hK
    with_reducible refine aY (by simp [h3]) ?_
    by_cases h4 : b.op = 4
    ·with_reducible refine aA ?_
     with_reducible refine aR fun K' hK => ?_
     simp [h4]
     refine hK _ _ _ ?_; clear K' hK
     with_reducible refine aX (by simp [h4]) ?_
     with_reducible refine aA ?_
     with_reducible refine aR fun K' hK => ?_
     simp
     refine hK _ _ _ ?_; clear K' hK
     with_reducible refine aw_ret ?_
     simp [blockK, loopK, Post, resA, res1, expT, expA, exp1, expM, expL, okT, okA, ok1, rowOf, Tryz.f155]
     simp [hd, opN, h4]
    ·with_reducible refine aA ?_
     with_reducible refine aR fun K' hK => ?_
     simp [h4]
     refine hK _ _ _ ?_; clear K' hK
     with_reducible refine aYk (by simp [h4]) ?_
     with_reducible refine aw_skipL ?_
     refine blockK_normal ?_
     with_reducible refine aR fun K' hK => ?_
     simp
     refine hK _ _ _ ?_; clear K' hK
     with_reducible refine aw_retL ?_
     simp [blockK, loopK, Post, resA, res1, expT, expA, exp1, expM, expL, okT, okA, ok1, rowOf, Tryz.f155]
     simp [hd, opN, h1, h2, h3, h4]
theorem near_eq (v : Ver) (b : Bd) : nearB v b = (decide (b.ver.pre ≠ ⟨#[]⟩) && (decide (b.ver.maj = v.maj) && (decide (b.ver.min = v.min) && decide (b.ver.pat = v.pat)))) := by
 rw [Bool.eq_iff_iff]
 unfold nearB
 cases v with | mk a c d e => simp
theorem lets102_ok (l : Alt) (v : Ver) (hl : Alt.sz l) (hv : v.pre.size ≤ 1000000) : CallsOK Tryz.prog 102 [rowT Bd.cells l, .agg v.cells] (bV (altHolds v l)) [] := by
 refine callsOK mixed Tryz.call102 Tryz.func102 rfl (by rw [Tryz.ntmps102]; simp) ?_ rfl
 rw [Tryz.ntmps102]
 have hll := hl.1
 with_reducible refine aR fun K' hK => ?_
 simp
 refine hK _ _ _ ?_; clear K' hK
 with_reducible refine aR fun K' hK => ?_
 simp
 refine hK _ _ _ ?_; clear K' hK
 with_reducible refine aA ?_
 with_reducible refine aR fun K' hK => ?_
 simp
 refine hK _ _ _ ?_; clear K' hK
 with_reducible refine aw_block ?_
 refine aw_loop (fun s G nx => G 0 = some (.var 23 v.cells) ∧ s 3 = .ptr 0 0 ∧ s 0 = rowT Bd.cells l ∧ ∃ j : Nat, s 6 = iV j ∧ j ≤ l.length ∧ s 5 = bV (decide (v.pre = ⟨#[]⟩) || (l.take j).any (nearB v)) ∧ (l.take j).all (holdB v) = true) (fun s _ _ => match s 6 with | .v (.int _ n) => l.length - n.toNat | _ => 0) ?_ ?_
 ·exact ⟨by simp, by simp, by simp, 0, by simp, by omega, by simp, by simp⟩
 ·rintro s G nx hf ⟨g0, s3, s0, j, s6, hj, s5, hjt⟩
  have n0 : ¬ 0 = nx := by have := fresh_lt hf g0; omega
  have hwj : IntKind.i64.wrap (↑j + 1) = ((j + 1 : Nat) : Int) := wrapS (by omega)
  with_reducible refine aA ?_
  with_reducible refine aR fun K' hK => ?_
  simp [s0, s6]
  refine hK _ _ _ ?_; clear K' hK
  with_reducible refine aC fun A B hA hB => ?_
  simp
  refine ⟨fun hj2 => hA ?_, fun hj2 => hB ?_⟩ <;> clear hA hB A B <;> (try simp at hj2) <;> (try with_reducible refine aK ?_)
  ·have hjstep := all_take1 (p := holdB v) hj2
   have hnstep := any_take1 (p := nearB v) hj2
   have hjfalse : holdB v (nth l j) = false → altHolds v l = false := fun h => by rw [altHolds, all_false hj2 h]; rfl
   have hbz := hl.2 _ (nth_mem hj2)
   have hnear := near_eq v (nth l j)
   generalize hgb : nth l j = b at *
   with_reducible refine aw_block ?_
   with_reducible refine aR fun K' hK => ?_
   simp [s0, s6, hj2, hgb]
   refine hK _ _ _ ?_; clear K' hK
   with_reducible refine aA ?_
   with_reducible refine aQ fun K' hK => ?_
   simp [s0, s6, s3, g0, n0, hj2, hgb]
   refine acall_flat (bound155_ok b v hbz hv) rfl (by simp) ?_
   simp
   refine hK _ _ _ ?_; clear K' hK
   by_cases c3 : holdB v b = true
   ·skip
    with_reducible refine aYk (by simp [c3]) ?_
    generalize hnb : (decide (v.pre = ⟨#[]⟩) || (l.take j).any (nearB v)) = nb at *
    have fin : bV (nb || nearB v b) = bV (decide (v.pre = ⟨#[]⟩) || (l.take (j + 1)).any (nearB v)) := by rw [hnstep, ← Bool.or_assoc, hnb]
    refine aw_toS (aw_cut (fun s G nx => G 0 = some (.var 23 v.cells) ∧ s 3 = .ptr 0 0 ∧ s 0 = rowT Bd.cells l ∧ s 6 = iV j ∧ s 5 = bV (nb || nearB v b)) ?_ ?_)
    ·rw [hnear]
     cases nb with
     | true =>
      with_reducible refine aS fun K' hK => ?_
      simp [s5]
      refine hK _ _ _ ?_; clear K' hK
      with_reducible refine aw_end ?_
      simp [s3, s0, s6, g0, n0]
     | false =>
      by_cases w0 : b.ver.pre = ⟨#[]⟩
      ·skip
       with_reducible refine aS fun K' hK => ?_
       simp [s5, w0]
       refine hK _ _ _ ?_; clear K' hK
       with_reducible refine aw_end ?_
       simp [s3, s0, s6, g0, n0, w0]
      ·by_cases w1 : b.ver.maj = v.maj
       ·by_cases w2 : b.ver.min = v.min
        ·skip
         with_reducible refine aS fun K' hK => ?_
         simp [s5, w0, w1, w2, s3, g0, n0]
         refine hK _ _ _ ?_; clear K' hK
         with_reducible refine aw_end ?_
         simp [s3, s0, s6, g0, n0, w0, w1, w2]
        ·skip
         with_reducible refine aS fun K' hK => ?_
         simp [s5, w0, w1, w2, s3, g0, n0]
         refine hK _ _ _ ?_; clear K' hK
         with_reducible refine aw_end ?_
         simp [s3, s0, s6, g0, n0, w0, w1, w2]
       ·skip
        with_reducible refine aS fun K' hK => ?_
        simp [s5, w0, w1, s3, g0, n0]
        refine hK _ _ _ ?_; clear K' hK
        with_reducible refine aw_end ?_
        simp [s3, s0, s6, g0, n0, w0, w1]
    ·clear s3 s0 g0 s5 hf n0
     rintro s1 G1 nx1 ⟨g0, s3, s0, s6, s5⟩
     with_reducible refine aw_skipL ?_
     refine blockK_normal ?_
     with_reducible refine aS fun K' hK => ?_
     simp [s6, hwj]
     refine hK _ _ _ ?_; clear K' hK
     refine aw_skipL (loopK_normal ?_ ?_)
     ·exact ⟨by simp [g0], by simp [s3], by simp [s0], j + 1, by simp [hwj], by omega, by simp [s5]; simpa using fin, by rw [hjstep, hjt, c3]; rfl⟩
     ·simp [*]; omega
   ·skip
    with_reducible refine aX (by simp [c3]) ?_
    with_reducible refine aA ?_
    with_reducible refine aR fun K' hK => ?_
    simp
    refine hK _ _ _ ?_; clear K' hK
    with_reducible refine aw_ret ?_
    simp [blockK, loopK, Post, resA, res1, expT, expA, exp1, expM, expL, okT, okA, ok1, rowOf, Tryz.f102]
    rw [hjfalse (by simpa using c3)]
  ·skip
   with_reducible refine aw_exit ?_
   refine loopK_exit (blockK_exit ?_)
   rw [List.take_of_length_le (by omega)] at hjt s5
   have hah : altHolds v l = (decide (v.pre = ⟨#[]⟩) || l.any (nearB v)) := by rw [altHolds, hjt]; rfl
   rw [← hah] at s5
   with_reducible refine aR fun K' hK => ?_
   simp [s5]
   refine hK _ _ _ ?_; clear K' hK
   with_reducible refine aw_retL ?_
   simp [blockK, loopK, Post, resA, res1, expT, expA, exp1, expM, expL, okT, okA, ok1, rowOf, Tryz.f102]
theorem right100_ok (r : Rg) (hr : Rg.sz r) : CallsOK Tryz.prog 100 [.agg r.cells] (bV (rgOk r)) [] := by
 refine callsOK mixed Tryz.call100 Tryz.func100 rfl (by rw [Tryz.ntmps100]; simp) ?_ rfl
 rw [Tryz.ntmps100]
 have hl := hr.1
 with_reducible refine aR fun K' hK => ?_
 simp
 refine hK _ _ _ ?_; clear K' hK
 by_cases z1 : r.length < 1
 ·have z1' : (r.length : Int) < 1 := by omega
  with_reducible refine aA ?_
  with_reducible refine aR fun K' hK => ?_
  simp [Rg.cells, z1, z1']
  refine hK _ _ _ ?_; clear K' hK
  with_reducible refine aX (by simp) ?_
  with_reducible refine aA ?_
  with_reducible refine aR fun K' hK => ?_
  simp
  refine hK _ _ _ ?_; clear K' hK
  with_reducible refine aw_ret ?_
  simp [blockK, loopK, Post, resA, res1, expT, expA, exp1, expM, expL, okT, okA, ok1, rowOf, Tryz.f100]
  have : ¬ 1 ≤ r.length := by omega
  simp [rgOk, this]
 ·have z1' : ¬ (r.length : Int) < 1 := by omega
  by_cases z2 : 8 < r.length
  ·have z2' : (8 : Int) < r.length := by omega
   with_reducible refine aA ?_
   with_reducible refine aR fun K' hK => ?_
   simp [Rg.cells, z1, z1', z2, z2']
   refine hK _ _ _ ?_; clear K' hK
   with_reducible refine aX (by simp) ?_
   with_reducible refine aA ?_
   with_reducible refine aR fun K' hK => ?_
   simp
   refine hK _ _ _ ?_; clear K' hK
   with_reducible refine aw_ret ?_
   simp [blockK, loopK, Post, resA, res1, expT, expA, exp1, expM, expL, okT, okA, ok1, rowOf, Tryz.f100]
   have : ¬ r.length ≤ 8 := by omega
   simp [rgOk, this]
  ·have z2' : ¬ (8 : Int) < r.length := by omega
   with_reducible refine aA ?_
   with_reducible refine aR fun K' hK => ?_
   simp [Rg.cells, z1, z1', z2, z2']
   refine hK _ _ _ ?_; clear K' hK
   with_reducible refine aYk (by simp) ?_
   with_reducible refine aA ?_
   with_reducible refine aR fun K' hK => ?_
   simp
   refine hK _ _ _ ?_; clear K' hK
   with_reducible refine aw_block ?_
   refine aw_loop (fun s G nx => G 0 = some (.var 33 [rowT Alt.cells r]) ∧ s 1 = .ptr 0 0 ∧ ∃ i : Nat, s 3 = iV i ∧ i ≤ r.length ∧ (r.take i).all altOk = true) (fun s _ _ => match s 3 with | .v (.int _ n) => r.length - n.toNat | _ => 0) ?_ ?_
   ·exact ⟨by simp [Rg.cells], by simp, 0, by simp, by omega, by simp⟩
   ·rintro s G nx hf ⟨g0, s1, i, s3, hi, ht⟩
    have o3 := s3
    have n0 : ¬ 0 = nx := by have := fresh_lt hf g0; omega
    have hw : IntKind.i64.wrap (↑i + 1) = ((i + 1 : Nat) : Int) := wrapS (by omega)
    with_reducible refine aA ?_
    with_reducible refine aR fun K' hK => ?_
    simp [s1, s3, g0]
    refine hK _ _ _ ?_; clear K' hK
    with_reducible refine aC fun A B hA hB => ?_
    simp
    refine ⟨fun hi2 => hA ?_, fun hi2 => hB ?_⟩ <;> clear hA hB A B <;> (try simp at hi2) <;> (try with_reducible refine aK ?_)
    ·have hstep := all_take1 (p := altOk) hi2
     have hA := hr.2 _ (nth_mem hi2)
     have hfalse : altOk (nth r i) = false → rgOk r = false := fun h => by rw [rgOk, all_false hi2 h]; rfl
     generalize hgl : nth r i = l at *
     have hAl := hA.1
     with_reducible refine aw_block ?_
     by_cases k8 : 8 < l.length
     ·have k8' : (8 : Int) < l.length := by omega
      with_reducible refine aA ?_
      with_reducible refine aR fun K' hK => ?_
      simp [s1, s3, g0, hi2, hgl, k8, k8']
      refine hK _ _ _ ?_; clear K' hK
      with_reducible refine aX (by simp) ?_
      with_reducible refine aA ?_
      with_reducible refine aR fun K' hK => ?_
      simp
      refine hK _ _ _ ?_; clear K' hK
      with_reducible refine aw_ret ?_
      simp [blockK, loopK, Post, resA, res1, expT, expA, exp1, expM, expL, okT, okA, ok1, rowOf, Tryz.f100]
      have : altOk l = false := by
       have : ¬ l.length ≤ 8 := by omega
       simp [altOk, this]
      rw [hfalse this]
     ·have k8' : ¬ (8 : Int) < l.length := by omega
      with_reducible refine aA ?_
      with_reducible refine aR fun K' hK => ?_
      simp [s1, s3, g0, hi2, hgl, k8, k8']
      refine hK _ _ _ ?_; clear K' hK
      with_reducible refine aYk (by simp) ?_
      with_reducible refine aR fun K' hK => ?_
      simp
      refine hK _ _ _ ?_; clear K' hK
      with_reducible refine aw_toS (aw_block ?_)
      refine aw_loop (fun s G nx => G 0 = some (.var 33 [rowT Alt.cells r]) ∧ s 1 = .ptr 0 0 ∧ s 3 = iV i ∧ ∃ j : Nat, s 4 = iV j ∧ j ≤ l.length ∧ (l.take j).all bdOk = true) (fun s _ _ => match s 4 with | .v (.int _ n) => l.length - n.toNat | _ => 0) ?_ ?_
      ·exact ⟨by simp [g0], by simp [s1], by simp [s3], 0, by simp, by omega, by simp⟩
      ·clear s1 s3 g0 hf n0
       rintro s G nx hf ⟨g0, s1, s3, j, s4, hj, hjt⟩
       have n0 : ¬ 0 = nx := by have := fresh_lt hf g0; omega
       have hwj : IntKind.i64.wrap (↑j + 1) = ((j + 1 : Nat) : Int) := wrapS (by omega)
       with_reducible refine aA ?_
       with_reducible refine aR fun K' hK => ?_
       simp [s1, s3, s4, g0, hi2, hgl]
       refine hK _ _ _ ?_; clear K' hK
       with_reducible refine aC fun A B hA hB => ?_
       simp
       refine ⟨fun hj2 => hA ?_, fun hj2 => hB ?_⟩ <;> clear hA hB A B <;> (try simp at hj2) <;> (try with_reducible refine aK ?_)
       ·have hjstep := all_take1 (p := bdOk) hj2
        have hjfalse : bdOk (nth l j) = false → rgOk r = false := fun h => hfalse (by rw [altOk, all_false hj2 h]; rfl)
        have hbz := hA.2 _ (nth_mem hj2)
        have hbd : bdOk (nth l j) = (verOk (nth l j).ver && (decide (1 ≤ (nth l j).op) && decide ((nth l j).op ≤ 5))) := rfl
        generalize hgb : nth l j = b at *
        with_reducible refine aw_block ?_
        with_reducible refine aR fun K' hK => ?_
        simp [s1, s3, s4, g0, hi2, hgl, hj2, hgb]
        refine hK _ _ _ ?_; clear K' hK
        by_cases b1 : b.op < 1
        ·skip
         with_reducible refine aR fun K' hK => ?_
         simp [b1]
         refine hK _ _ _ ?_; clear K' hK
         with_reducible refine aU (by simp) ?_
         with_reducible refine aA ?_
         with_reducible refine aR fun K' hK => ?_
         simp
         refine hK _ _ _ ?_; clear K' hK
         with_reducible refine aw_ret ?_
         simp [blockK, loopK, Post, resA, res1, expT, expA, exp1, expM, expL, okT, okA, ok1, rowOf, Tryz.f100]
         have : ¬ 1 ≤ b.op := by omega
         rw [hjfalse (by simp [hbd, this])]
        ·by_cases b2 : 5 < b.op
         ·skip
          with_reducible refine aR fun K' hK => ?_
          simp [b1, b2]
          refine hK _ _ _ ?_; clear K' hK
          with_reducible refine aU (by simp) ?_
          with_reducible refine aA ?_
          with_reducible refine aR fun K' hK => ?_
          simp
          refine hK _ _ _ ?_; clear K' hK
          with_reducible refine aw_ret ?_
          simp [blockK, loopK, Post, resA, res1, expT, expA, exp1, expM, expL, okT, okA, ok1, rowOf, Tryz.f100]
          have : ¬ b.op ≤ 5 := by omega
          rw [hjfalse (by simp [hbd, this])]
         ·skip
          with_reducible refine aR fun K' hK => ?_
          simp [b1, b2]
          refine acall_flat (right37_ok b.ver (by omega)) rfl (by simp) ?_
          simp
          refine hK _ _ _ ?_; clear K' hK
          by_cases c3 : verOk b.ver = true
          ·skip
           with_reducible refine aVk (by simp [c3]) ?_
           with_reducible refine aw_skipL ?_
           refine blockK_normal ?_
           with_reducible refine aS fun K' hK => ?_
           simp [s4, hwj]
           refine hK _ _ _ ?_; clear K' hK
           refine aw_skipL (loopK_normal ?_ ?_)
           ·exact ⟨by simp [g0, n0], by simp [s1], by simp [s3], j + 1, by simp [hwj], by omega, by
             rw [hjstep, hjt, hbd, c3]
             simp; omega⟩
           ·simp [s4, hwj]; omega
          ·skip
           with_reducible refine aU (by simp [c3]) ?_
           with_reducible refine aA ?_
           with_reducible refine aR fun K' hK => ?_
           simp
           refine hK _ _ _ ?_; clear K' hK
           with_reducible refine aw_ret ?_
           simp [blockK, loopK, Post, resA, res1, expT, expA, exp1, expM, expL, okT, okA, ok1, rowOf, Tryz.f100]
           rw [hjfalse (by simp [hbd, c3])]
       ·skip
        with_reducible refine aw_exit ?_
        refine loopK_exit (blockK_exit ?_)
        rw [List.take_of_length_le (by omega)] at hjt
        with_reducible refine aw_skipL ?_
        refine blockK_normal ?_
        with_reducible refine aS fun K' hK => ?_
        simp [s3, hw]
        refine hK _ _ _ ?_; clear K' hK
        refine aw_skipL (loopK_normal ?_ ?_)
        ·exact ⟨by simp [g0], by simp [s1], i + 1, by simp [hw], by omega, by
          rw [hstep, ht, altOk, hjt]; simp; omega⟩
        ·simp [o3, s3, hw]; omega
    ·skip
     with_reducible refine aw_exit ?_
     refine loopK_exit (blockK_exit ?_)
     rw [List.take_of_length_le (by omega)] at ht
     with_reducible refine aR fun K' hK => ?_
     simp
     refine hK _ _ _ ?_; clear K' hK
     with_reducible refine aw_retL ?_
     simp [blockK, loopK, Post, resA, res1, expT, expA, exp1, expM, expL, okT, okA, ok1, rowOf, Tryz.f100]
     simp [rgOk, ht]; omega
theorem holds44_ok (r : Rg) (v : Ver) (hr : Rg.sz r) (hv : v.pre.size ≤ 1000000) : CallsOK Tryz.prog 44 [.agg r.cells, .agg v.cells] (bV (rgHolds v r)) [] := by
 refine callsOK mixed Tryz.call44 Tryz.func44 rfl (by rw [Tryz.ntmps44]; simp) ?_ rfl
 rw [Tryz.ntmps44]
 have hl := hr.1
 with_reducible refine aR fun K' hK => ?_
 simp
 refine hK _ _ _ ?_; clear K' hK
 with_reducible refine aA ?_
 with_reducible refine aR fun K' hK => ?_
 simp [Rg.cells]
 refine acall_flat (right100_ok r hr) rfl (by simp [Rg.cells]) ?_
 by_cases c1 : rgOk r = true
 ·simp [c1]
  refine acall_flat (right37_ok v (by omega)) rfl (by simp) ?_
  by_cases c2 : verOk v = true
  ·simp [c2]
   refine hK _ _ _ ?_; clear K' hK
   with_reducible refine aYk (by simp) ?_
   with_reducible refine aA ?_
   with_reducible refine aR fun K' hK => ?_
   simp
   refine hK _ _ _ ?_; clear K' hK
   with_reducible refine aw_block ?_
   refine aw_loop (fun s G nx => G 0 = some (.var 33 [rowT Alt.cells r]) ∧ G 1 = some (.var 23 v.cells) ∧ s 2 = .ptr 0 0 ∧ s 3 = .ptr 1 0 ∧ ∃ i : Nat, s 5 = iV i ∧ i ≤ r.length ∧ (r.take i).any (altHolds v) = false) (fun s _ _ => match s 5 with | .v (.int _ n) => r.length - n.toNat | _ => 0) ?_ ?_
   ·exact ⟨by simp [Rg.cells], by simp, by simp, by simp, 0, by simp, by omega, by simp⟩
   ·rintro s G nx hf ⟨g0, g1, s2, s3, i, s5, hi, ht⟩
    have hw : IntKind.i64.wrap (↑i + 1) = ((i + 1 : Nat) : Int) := wrapS (by omega)
    with_reducible refine aA ?_
    with_reducible refine aR fun K' hK => ?_
    simp [s2, s5, g0]
    refine hK _ _ _ ?_; clear K' hK
    with_reducible refine aC fun A B hA hB => ?_
    simp
    refine ⟨fun hi2 => hA ?_, fun hi2 => hB ?_⟩ <;> clear hA hB A B <;> (try simp at hi2) <;> (try with_reducible refine aK ?_)
    ·have hA := hr.2 _ (nth_mem hi2)
     with_reducible refine aw_block ?_
     with_reducible refine aQ fun K' hK => ?_
     simp [s2, s3, s5, g0, g1, hi2]
     refine acall_flat (lets102_ok (nth r i) v hA hv) rfl (by simp) ?_
     simp
     refine hK _ _ _ ?_; clear K' hK
     by_cases c4 : altHolds v (nth r i) = true
     ·skip
      with_reducible refine aU (by simp [c4]) ?_
      with_reducible refine aA ?_
      with_reducible refine aR fun K' hK => ?_
      simp
      refine hK _ _ _ ?_; clear K' hK
      with_reducible refine aw_ret ?_
      simp [blockK, loopK, Post, resA, res1, expT, expA, exp1, expM, expL, okT, okA, ok1, rowOf, Tryz.f44]
      have : r.any (altHolds v) = true := List.any_eq_true.2 ⟨_, nth_mem hi2, c4⟩
      simp [rgHolds, c1, c2, this]
     ·skip
      with_reducible refine aVk (by simp [c4]) ?_
      with_reducible refine aw_skipL ?_
      refine blockK_normal ?_
      with_reducible refine aS fun K' hK => ?_
      simp [s5, hw]
      refine hK _ _ _ ?_; clear K' hK
      refine aw_skipL (loopK_normal ?_ ?_)
      ·exact ⟨by simp [g0], by simp [g1], by simp [s2], by simp [s3], i + 1, by simp [hw], by omega, any_take hi2 ht (by simpa using c4)⟩
      ·simp [s5, hw]; omega
    ·skip
     with_reducible refine aw_exit ?_
     refine loopK_exit (blockK_exit ?_)
     rw [List.take_of_length_le (by omega)] at ht
     with_reducible refine aR fun K' hK => ?_
     simp
     refine hK _ _ _ ?_; clear K' hK
     with_reducible refine aw_retL ?_
     simp [blockK, loopK, Post, resA, res1, expT, expA, exp1, expM, expL, okT, okA, ok1, rowOf, Tryz.f44]
     simp [rgHolds, ht]
  ·simp [c2]
   refine hK _ _ _ ?_; clear K' hK
   with_reducible refine aX (by simp) ?_
   with_reducible refine aA ?_
   with_reducible refine aR fun K' hK => ?_
   simp
   refine hK _ _ _ ?_; clear K' hK
   with_reducible refine aw_ret ?_
   simp [blockK, loopK, Post, resA, res1, expT, expA, exp1, expM, expL, okT, okA, ok1, rowOf, Tryz.f44]
   simp [rgHolds, c2]
 ·simp [c1]
  refine hK _ _ _ ?_; clear K' hK
  with_reducible refine aX (by simp) ?_
  with_reducible refine aA ?_
  with_reducible refine aR fun K' hK => ?_
  simp
  refine hK _ _ _ ?_; clear K' hK
  with_reducible refine aw_ret ?_
  simp [blockK, loopK, Post, resA, res1, expT, expA, exp1, expM, expL, okT, okA, ok1, rowOf, Tryz.f44]
  simp [rgHolds, c1]
set_option maxRecDepth 100000
set_option maxHeartbeats 4000000
theorem dep210_ok (d : Dep) (root : Bool) (hn : d.name.size ≤ 1000000) (hr : Rg.sz d.range) : CallsOK Tryz.prog 210 [.agg d.cells, bV root] (bV (kindB root d && ruledB d.name d.range)) [] := by
 refine callsOK mixed Tryz.call210 Tryz.func210 rfl (by rw [Tryz.ntmps210]; simp) ?_ rfl
 rw [Tryz.ntmps210]
 with_reducible refine aR fun K' hK => ?_
 simp
 refine hK _ _ _ ?_; clear K' hK
 have hk : ∀ b, kindB root d = b → (kindB root d && ruledB d.name d.range) = (b && (rgOk d.range && goodF (bsL d.name))) := fun b h => by rw [h]; rfl
 have fin : ∀ (K : Bool), kindB root d = K → True := fun _ _ => trivial
 by_cases k1 : 1 ≤ d.kind
 ·by_cases k4 : d.kind ≤ 4
  ·by_cases k2 : root = true ∨ d.kind ≠ 2
   ·have hkb : kindB root d = true := by
     simp only [kindB, Bool.and_eq_true, decide_eq_true_eq, Bool.or_eq_true, Bool.not_eq_true', decide_eq_false_iff_not]
     exact ⟨⟨k1, k4⟩, k2⟩
    rw [hkb]
    refine aw_cut (fun s G nx => s 4 = bV (goodF (bsL d.name) && rgOk d.range)) ?_ ?_
    ·cases root with
     | true =>
      with_reducible refine aS fun K' hK => ?_
      simp [k1, k4]
      refine acall_flat (good36_ok d.name (by omega)) rfl (by first | rfl | (simp; done) | (simp; rfl) | (simp; exact ⟨rfl, rfl⟩)) ?_
      by_cases hg : goodF (bsL d.name) = true
      ·simp [hg]
       refine acall_flat (right100_ok d.range hr) rfl (by simp [Rg.cells]) ?_
       simp
       refine hK _ _ _ ?_; clear K' hK
       with_reducible refine aw_end ?_
       simp [hg]
      ·simp [hg]
       refine hK _ _ _ ?_; clear K' hK
       with_reducible refine aw_end ?_
       simp [hg]
     | false =>
      have k2' : ¬ d.kind = 2 := k2.resolve_left (by simp)
      with_reducible refine aS fun K' hK => ?_
      simp [k1, k4, k2']
      refine acall_flat (good36_ok d.name (by omega)) rfl (by first | rfl | (simp; done) | (simp; rfl) | (simp; exact ⟨rfl, rfl⟩)) ?_
      by_cases hg : goodF (bsL d.name) = true
      ·simp [hg]
       refine acall_flat (right100_ok d.range hr) rfl (by simp [Rg.cells]) ?_
       simp
       refine hK _ _ _ ?_; clear K' hK
       with_reducible refine aw_end ?_
       simp [hg]
      ·simp [hg]
       refine hK _ _ _ ?_; clear K' hK
       with_reducible refine aw_end ?_
       simp [hg]
    ·rintro s G nx s4
     with_reducible refine aw_retL ?_
     simp [blockK, loopK, Post, resA, res1, expT, expA, exp1, expM, expL, okT, okA, ok1, rowOf, Tryz.f210, s4]
     simp [ruledB, Bool.and_comm]
   ·have hr0 : root = false := by cases root <;> simp_all
    have hk2 : d.kind = 2 := by
     rcases Classical.em (d.kind = 2) with h | h
     ·exact h
     ·exact absurd (.inr h) k2
    subst hr0
    with_reducible refine aR fun K' hK => ?_
    simp [k1, k4, hk2]
    refine hK _ _ _ ?_; clear K' hK
    with_reducible refine aw_retL ?_
    simp [blockK, loopK, Post, resA, res1, expT, expA, exp1, expM, expL, okT, okA, ok1, rowOf, Tryz.f210]
    simp [kindB, hk2]
  ·skip
   with_reducible refine aR fun K' hK => ?_
   simp [k1, k4]
   refine hK _ _ _ ?_; clear K' hK
   with_reducible refine aw_retL ?_
   simp [blockK, loopK, Post, resA, res1, expT, expA, exp1, expM, expL, okT, okA, ok1, rowOf, Tryz.f210]
   simp [kindB, k4]
 ·skip
  with_reducible refine aR fun K' hK => ?_
  simp [k1]
  refine hK _ _ _ ?_; clear K' hK
  with_reducible refine aw_retL ?_
  simp [blockK, loopK, Post, resA, res1, expT, expA, exp1, expM, expL, okT, okA, ok1, rowOf, Tryz.f210]
  simp [kindB, k1]
theorem ahead182_ok (a b : Man) (ha : a.ver.pre.size ≤ 1000000) (hb : b.ver.pre.size ≤ 1000000) : CallsOK Tryz.prog 182 [.agg a.cells, .agg b.cells] (bV (decide (manOrd a b < 0))) [] := by
 refine callsOK mixed Tryz.call182 Tryz.func182 rfl (by rw [Tryz.ntmps182]; simp) ?_ rfl
 rw [Tryz.ntmps182]
 with_reducible refine aR fun K' hK => ?_
 simp
 refine hK _ _ _ ?_; clear K' hK
 by_cases h1 : ltB a.name b.name = true
 ·skip
  with_reducible refine aR fun K' hK => ?_
  simp [h1]
  refine hK _ _ _ ?_; clear K' hK
  with_reducible refine aw_retL ?_
  simp [blockK, loopK, Post, resA, res1, expT, expA, exp1, expM, expL, okT, okA, ok1, rowOf, Tryz.f182]
  have : cmpB a.name b.name = -1 := by simp [cmpB, h1]
  simp [manOrd, orN, this]
 ·have h1' : ltB a.name b.name = false := by simpa using h1
  by_cases h2 : a.name = b.name
  ·have h2' : (a.name = b.name) = True := eq_true h2
   with_reducible refine aR fun K' hK => ?_
   simp [h1', h2']
   refine acall_flat (compare192_ok a.ver b.ver ha hb) rfl (by first | rfl | (simp; done) | (simp; rfl) | (simp; exact ⟨rfl, rfl⟩)) ?_
   simp
   refine hK _ _ _ ?_; clear K' hK
   with_reducible refine aw_retL ?_
   simp [blockK, loopK, Post, resA, res1, expT, expA, exp1, expM, expL, okT, okA, ok1, rowOf, Tryz.f182]
   have : cmpB a.name b.name = 0 := cmpB_zero.2 h2
   simp only [manOrd, orN, this, if_true]
   split
   ·rename_i h; rw [h]
   ·rfl
  ·skip
   with_reducible refine aR fun K' hK => ?_
   refine aops_part 6 fun K2 hK2 => ?_
   simp [h1']
   refine hK2 _ _ _ ?_
   clear K2 hK2
   refine aops_part 6 fun K2 hK2 => ?_
   simp [h2]
   refine hK2 _ _ _ ?_
   clear K2 hK2
   simp [h2]
   refine hK _ _ _ ?_; clear K' hK
   with_reducible refine aw_retL ?_
   simp [blockK, loopK, Post, resA, res1, expT, expA, exp1, expM, expL, okT, okA, ok1, rowOf, Tryz.f182]
   have h3 : ¬ cmpB a.name b.name = 0 := fun h => h2 (cmpB_zero.1 h)
   have h4 : ¬ cmpB a.name b.name < 0 := fun h => h1 (cmpB_neg.1 h)
   simp only [manOrd, orN, if_neg h3]
   omega
set_option maxRecDepth 100000
set_option maxHeartbeats 4000000
theorem depLt_iff (a b : Dep) : depLt a b = true ↔ ¬ b.kind < a.kind ∧ (¬ a.kind = b.kind ∨ ltB a.name b.name = true) := by
 unfold depLt
 rw [decide_eq_true_eq]
 have e : orN [cmpI a.kind b.kind, cmpB a.name b.name] = if cmpI a.kind b.kind = 0 then cmpB a.name b.name else cmpI a.kind b.kind := by
  simp only [orN]
  split
  ·split
   ·rename_i h; exact h.symm
   ·rfl
  ·rfl
 rw [e]
 rcases Int.lt_trichotomy a.kind b.kind with h | h | h
 ·rw [cmpI_lt h, if_neg (by decide)]
  exact ⟨fun _ => ⟨by omega, .inl (by omega)⟩, fun _ => by decide⟩
 ·rw [h, cmpI_self, if_pos rfl, cmpB_neg]
  exact ⟨fun h => ⟨by omega, .inr h⟩, fun h => h.2.resolve_left (by simp)⟩
 ·rw [cmpI_gt h, if_neg (by decide)]
  exact ⟨fun h => absurd h (by decide), fun h2 => absurd h h2.1⟩
theorem right181_ok (m : Man) (hm : Man.sz m) (root : Bool) : CallsOK Tryz.prog 181 [.agg m.cells, bV root] (bV (manRight m root)) [] := by
 obtain ⟨hn, hv, ⟨hdl, hdd⟩, hrl, hrr⟩ := hm
 refine callsOK mixed Tryz.call181 Tryz.func181 rfl (by rw [Tryz.ntmps181]; simp) ?_ rfl
 rw [Tryz.ntmps181]
 with_reducible refine aR fun K' hK => ?_
 simp
 refine hK _ _ _ ?_; clear K' hK
 with_reducible refine aA ?_
 refine aw_cut (fun s G nx => s 1 = bV root ∧ s 2 = .ptr 0 0 ∧ G 0 = some (.var 27 m.cells) ∧ s 35 = bV (!manHead m root)) ?_ ?_
 ·skip
  with_reducible refine aS fun K' hK => ?_
  refine aops_part 3 fun K2 hK2 => ?_
  simp
  refine acall_flat (right37_ok m.ver (by omega)) rfl (by first | rfl | (simp; done) | (simp; rfl) | (simp; exact ⟨rfl, rfl⟩)) ?_
  simp
  refine hK2 _ _ _ ?_
  clear K2 hK2
  by_cases c1 : verOk m.ver = true
  ·refine aops_part 7 fun K2 hK2 => ?_
   simp [c1]
   refine acall_flat (good36_ok m.name (by omega)) rfl (by first | rfl | (simp; done) | (simp; rfl) | (simp; exact ⟨rfl, rfl⟩)) ?_
   simp
   refine hK2 _ _ _ ?_
   clear K2 hK2
   by_cases c2 : goodF (bsL m.name) = true
   ·by_cases c3 : m.rules.length = 0
    ·have c3' : ¬ 0 < m.rules.length := by omega
     have c3i : ¬ (0 : Int) < m.rules.length := by omega
     refine aops_part 8 fun K2 hK2 => ?_
     simp [c1, c2]
     refine hK2 _ _ _ ?_
     clear K2 hK2
     simp [c1, c2, c3, c3', c3i]
     refine hK _ _ _ ?_; clear K' hK
     with_reducible refine aw_end ?_
     simp [manHead, c1, c2, c3]
    ·have c3' : 0 < m.rules.length := by omega
     have c3i : (0 : Int) < m.rules.length := by omega
     cases root <;> (
      refine aops_part 8 fun K2 hK2 => ?_
      simp [c1, c2]
      refine hK2 _ _ _ ?_
      clear K2 hK2
      simp [c1, c2, c3, c3', c3i]
      refine hK _ _ _ ?_; clear K' hK
      with_reducible refine aw_end ?_
      simp [manHead, c1, c2, c3])
   ·by_cases c4 : m.name = ⟨#[]⟩
    ·have c4' : (m.name = ⟨#[]⟩) = True := eq_true c4
     by_cases c3 : m.rules.length = 0
     ·have c3' : ¬ 0 < m.rules.length := by omega
      have c3i : ¬ (0 : Int) < m.rules.length := by omega
      cases root <;> (
       refine aops_part 8 fun K2 hK2 => ?_
       simp [c1, c2, c4']
       refine hK2 _ _ _ ?_
       clear K2 hK2
       simp [c1, c2, c3, c3', c3i]
       refine hK _ _ _ ?_; clear K' hK
       with_reducible refine aw_end ?_
       simp [manHead, c1, c2, c3, c4'])
     ·have c3' : 0 < m.rules.length := by omega
      have c3i : (0 : Int) < m.rules.length := by omega
      cases root <;> (
       refine aops_part 8 fun K2 hK2 => ?_
       simp [c1, c2, c4']
       refine hK2 _ _ _ ?_
       clear K2 hK2
       simp [c1, c2, c3, c3', c3i]
       refine hK _ _ _ ?_; clear K' hK
       with_reducible refine aw_end ?_
       simp [manHead, c1, c2, c3, c4'])
    ·refine aops_part 8 fun K2 hK2 => ?_
     simp [c1, c2, c4]
     refine hK2 _ _ _ ?_
     clear K2 hK2
     simp [c1, c2, c4]
     refine hK _ _ _ ?_; clear K' hK
     with_reducible refine aw_end ?_
     simp [manHead, c1, c2, c4]
  ·refine aops_part 8 fun K2 hK2 => ?_
   simp [c1]
   refine hK2 _ _ _ ?_
   clear K2 hK2
   refine aops_part 8 fun K2 hK2 => ?_
   simp [c1]
   refine hK2 _ _ _ ?_
   clear K2 hK2
   simp [c1]
   refine hK _ _ _ ?_; clear K' hK
   with_reducible refine aw_end ?_
   simp [manHead, c1]
 ·rintro s G nx ⟨s1, s2, g0, s35⟩
  by_cases hh : manHead m root = true
  ·rw [hh] at s35
   with_reducible refine aYk (by simp [s35]) ?_
   with_reducible refine aA ?_
   with_reducible refine aR fun K' hK => ?_
   simp
   refine hK _ _ _ ?_; clear K' hK
   refine aw_cutR (fun s G nx => s 1 = bV root ∧ s 2 = .ptr 0 0 ∧ G 0 = some (.var 27 m.cells) ∧ (List.range m.deps.length).all (depAt root m.deps) = true) ?_ ?_
   ·skip
    with_reducible refine aw_toS (aw_block ?_)
    refine aw_loop (fun s G nx => s 1 = bV root ∧ s 2 = .ptr 0 0 ∧ G 0 = some (.var 27 m.cells) ∧ ∃ i : Nat, s 5 = iV i ∧ i ≤ m.deps.length ∧ (List.range i).all (depAt root m.deps) = true) (fun s _ _ => match s 5 with | .v (.int _ n) => m.deps.length - n.toNat | _ => 0) ?_ ?_
    ·exact ⟨by simp [s1], by simp [s2], by simp [g0], 0, by simp, by omega, by simp⟩
    ·clear s1 s2 g0 s35 s G nx
     rintro s G nx hf ⟨s1, s2, g0, i, s5, hi, ht⟩
     have hw : IntKind.i64.wrap (↑i + 1) = ((i + 1 : Nat) : Int) := wrapS (by omega)
     with_reducible refine aA ?_
     with_reducible refine aR fun K' hK => ?_
     simp [s2, s5, g0]
     refine hK _ _ _ ?_; clear K' hK
     with_reducible refine aC fun A B hA hB => ?_
     simp
     refine ⟨fun hi2 => hA ?_, fun hi2 => hB ?_⟩ <;> clear hA hB A B <;> (try simp at hi2) <;> (try with_reducible refine aK ?_)
     ·have hd := hdd _ (nth_mem hi2)
      have hfalse : depAt root m.deps i = false → manRight m root = false := fun h => by rw [manRight, rng_all hi2 h]; simp
      have hstep := rng_step (p := depAt root m.deps) ht
      have hdef : depAt root m.deps i = (kindB root (nth m.deps i) && (ruledB (nth m.deps i).name (nth m.deps i).range && (decide (i = 0) || depLt (nth m.deps (i - 1)) (nth m.deps i)))) := rfl
      generalize hgd : nth m.deps i = d at *
      with_reducible refine aw_block ?_
      have hdep := dep210_ok d root hd.1 hd.2
      generalize hKR : (kindB root d && ruledB d.name d.range) = kr at hdep
      with_reducible refine aA ?_
      with_reducible refine aR fun K' hK => ?_
      simp [s1, s2, s5, g0, hi2, hgd]
      refine acall_flat hdep rfl (by first | rfl | (simp; done) | (simp; rfl) | (simp; exact ⟨rfl, rfl⟩)) ?_
      simp
      refine hK _ _ _ ?_; clear K' hK
      cases kr with
      | true =>
       with_reducible refine aYk (by simp) ?_
       have c' : kindB root d = true ∧ ruledB d.name d.range = true := by simpa using hKR
       rw [c'.1, c'.2] at hdef
       by_cases hz : i = 0
       ·have hz' : ¬ (0 : Int) < (i : Int) := by omega
        have hz2 : ¬ 0 < i := by omega
        with_reducible refine aQ fun K' hK => ?_
        refine aops_part 10 fun K2 hK2 => ?_
        simp [s5, hz', hz2]
        refine hK2 _ _ _ ?_
        clear K2 hK2
        refine aops_part 10 fun K2 hK2 => ?_
        simp [hz', hz2]
        refine hK2 _ _ _ ?_
        clear K2 hK2
        refine aops_part 10 fun K2 hK2 => ?_
        simp [hz', hz2]
        refine hK2 _ _ _ ?_
        clear K2 hK2
        refine aops_part 10 fun K2 hK2 => ?_
        simp [hz', hz2]
        refine hK2 _ _ _ ?_
        clear K2 hK2
        simp [hz', hz2]
        refine hK _ _ _ ?_; clear K' hK
        with_reducible refine aVk (by simp) ?_
        with_reducible refine aw_skipL ?_
        refine blockK_normal ?_
        with_reducible refine aS fun K' hK => ?_
        simp [s5, hw]
        refine hK _ _ _ ?_; clear K' hK
        refine aw_skipL (loopK_normal ?_ ?_)
        ·exact ⟨by simp [s1], by simp [s2], by simp [g0], i + 1, by simp [hw], by omega, hstep (by rw [hdef]; simp [hz])⟩
        ·simp [s5, hw]; omega
       ·obtain ⟨p, hp⟩ : ∃ p, i = p + 1 := ⟨i - 1, by omega⟩
        have hz' : (0 : Int) < (i : Int) := by omega
        have hz2 : 0 < i := by omega
        have hsub : IntKind.i64.wrap ((i : Int) - 1) = (p : Int) := by rw [wrap64 (by omega) (by omega)]; omega
        have hpl : p < m.deps.length := by omega
        have hip : i - 1 = p := by omega
        rw [hip] at hdef
        have hlt := depLt_iff (nth m.deps p) d
        generalize hgp : nth m.deps p = e at *
        by_cases k1 : d.kind < e.kind
        ·skip
         with_reducible refine aQ fun K' hK => ?_
         refine aops_part 17 fun K2 hK2 => ?_
         simp [s2, s5, g0, hz', hz2, hsub, hpl, hgp, hi2, hgd, k1]
         refine hK2 _ _ _ ?_
         clear K2 hK2
         refine aops_part 12 fun K2 hK2 => ?_
         simp [hz', hz2, k1]
         refine hK2 _ _ _ ?_
         clear K2 hK2
         refine aops_part 12 fun K2 hK2 => ?_
         simp [hz', hz2, k1]
         refine hK2 _ _ _ ?_
         clear K2 hK2
         simp [hz', hz2, k1]
         refine hK _ _ _ ?_; clear K' hK
         with_reducible refine aU (by simp) ?_
         with_reducible refine aA ?_
         with_reducible refine aR fun K' hK => ?_
         simp
         refine hK _ _ _ ?_; clear K' hK
         with_reducible refine aw_ret ?_
         simp [blockK, loopK, Post, resA, res1, expT, expA, exp1, expM, expL, okT, okA, ok1, rowOf, Tryz.f181, cutK]
         have : depLt e d = false := by
          rw [Bool.eq_false_iff]; exact fun h => (hlt.1 h).1 k1
         rw [hfalse (by rw [hdef, this]; simp [hz])]
        ·by_cases k2 : e.kind = d.kind
         ·have k2' : (e.kind = d.kind) = True := eq_true k2
          by_cases k3 : ltB e.name d.name = true
          ·skip
           with_reducible refine aQ fun K' hK => ?_
           refine aops_part 17 fun K2 hK2 => ?_
           simp [s2, s5, g0, hz', hz2, hsub, hpl, hgp, hi2, hgd, k1]
           refine hK2 _ _ _ ?_
           clear K2 hK2
           refine aops_part 15 fun K2 hK2 => ?_
           simp [s2, s5, g0, hz', hz2, hsub, hpl, hgp, hi2, hgd, k1, k2']
           refine hK2 _ _ _ ?_
           clear K2 hK2
           refine aops_part 15 fun K2 hK2 => ?_
           simp [s2, s5, g0, hz', hz2, hsub, hpl, hgp, hi2, hgd, k1, k2', k3]
           refine hK2 _ _ _ ?_
           clear K2 hK2
           simp [hz', hz2, k1, k2', k3]
           refine hK _ _ _ ?_; clear K' hK
           with_reducible refine aVk (by simp) ?_
           with_reducible refine aw_skipL ?_
           refine blockK_normal ?_
           with_reducible refine aS fun K' hK => ?_
           simp [s5, hw]
           refine hK _ _ _ ?_; clear K' hK
           refine aw_skipL (loopK_normal ?_ ?_)
           ·exact ⟨by simp [s1], by simp [s2], by simp [g0], i + 1, by simp [hw], by omega, hstep (by rw [hdef, hlt.2 ⟨k1, .inr k3⟩]; simp)⟩
           ·simp [s5, hw]; omega
          ·have k3' : ltB e.name d.name = false := by simpa using k3
           with_reducible refine aQ fun K' hK => ?_
           refine aops_part 17 fun K2 hK2 => ?_
           simp [s2, s5, g0, hz', hz2, hsub, hpl, hgp, hi2, hgd, k1]
           refine hK2 _ _ _ ?_
           clear K2 hK2
           refine aops_part 15 fun K2 hK2 => ?_
           simp [s2, s5, g0, hz', hz2, hsub, hpl, hgp, hi2, hgd, k1, k2']
           refine hK2 _ _ _ ?_
           clear K2 hK2
           refine aops_part 15 fun K2 hK2 => ?_
           simp [s2, s5, g0, hz', hz2, hsub, hpl, hgp, hi2, hgd, k1, k2', k3']
           refine hK2 _ _ _ ?_
           clear K2 hK2
           simp [hz', hz2, k1, k2', k3']
           refine hK _ _ _ ?_; clear K' hK
           with_reducible refine aU (by simp) ?_
           with_reducible refine aA ?_
           with_reducible refine aR fun K' hK => ?_
           simp
           refine hK _ _ _ ?_; clear K' hK
           with_reducible refine aw_ret ?_
           simp [blockK, loopK, Post, resA, res1, expT, expA, exp1, expM, expL, okT, okA, ok1, rowOf, Tryz.f181, cutK]
           have : depLt e d = false := by
            rw [Bool.eq_false_iff]; exact fun h => (hlt.1 h).2.elim (fun h => h k2) k3
           rw [hfalse (by rw [hdef, this]; simp [hz])]
         ·skip
          with_reducible refine aQ fun K' hK => ?_
          refine aops_part 17 fun K2 hK2 => ?_
          simp [s2, s5, g0, hz', hz2, hsub, hpl, hgp, hi2, hgd, k1]
          refine hK2 _ _ _ ?_
          clear K2 hK2
          refine aops_part 15 fun K2 hK2 => ?_
          simp [s2, s5, g0, hz', hz2, hsub, hpl, hgp, hi2, hgd, k1, k2]
          refine hK2 _ _ _ ?_
          clear K2 hK2
          refine aops_part 15 fun K2 hK2 => ?_
          simp [s2, s5, g0, hz', hz2, hsub, hpl, hgp, hi2, hgd, k1, k2]
          refine hK2 _ _ _ ?_
          clear K2 hK2
          simp [hz', hz2, k1, k2]
          refine hK _ _ _ ?_; clear K' hK
          with_reducible refine aVk (by simp) ?_
          with_reducible refine aw_skipL ?_
          refine blockK_normal ?_
          with_reducible refine aS fun K' hK => ?_
          simp [s5, hw]
          refine hK _ _ _ ?_; clear K' hK
          refine aw_skipL (loopK_normal ?_ ?_)
          ·exact ⟨by simp [s1], by simp [s2], by simp [g0], i + 1, by simp [hw], by omega, hstep (by rw [hdef, hlt.2 ⟨k1, .inl k2⟩]; simp)⟩
          ·simp [s5, hw]; omega
      | false =>
       with_reducible refine aX (by simp) ?_
       with_reducible refine aA ?_
       with_reducible refine aR fun K' hK => ?_
       simp
       refine hK _ _ _ ?_; clear K' hK
       with_reducible refine aw_ret ?_
       simp [blockK, loopK, Post, resA, res1, expT, expA, exp1, expM, expL, okT, okA, ok1, rowOf, Tryz.f181, cutK]
       rw [hfalse (by rw [hdef, ← Bool.and_assoc, hKR]; rfl)]
     ·skip
      with_reducible refine aw_exit ?_
      refine loopK_exit (blockK_exit ?_)
      have hie : i = m.deps.length := by omega
      subst hie
      with_reducible refine aw_endR ?_
      exact ⟨by simp [s1], by simp [s2], by simp [g0], ht⟩
   ·clear s1 s2 g0 s35 s G nx
    rintro s G nx ⟨s1, s2, g0, hall⟩
    have hmr : manRight m root = (List.range m.rules.length).all (ruAt m.rules) := by rw [manRight, hh, hall]; rfl
    with_reducible refine aA ?_
    with_reducible refine aR fun K' hK => ?_
    simp
    refine hK _ _ _ ?_; clear K' hK
    with_reducible refine aw_block ?_
    refine aw_loop (fun s G nx => s 2 = .ptr 0 0 ∧ G 0 = some (.var 27 m.cells) ∧ ∃ i : Nat, s 6 = iV i ∧ i ≤ m.rules.length ∧ (List.range i).all (ruAt m.rules) = true) (fun s _ _ => match s 6 with | .v (.int _ n) => m.rules.length - n.toNat | _ => 0) ?_ ?_
    ·exact ⟨by simp [s2], by simp [g0], 0, by simp, by omega, by simp⟩
    ·clear s1 s2 g0 s G nx
     rintro s G nx hf ⟨s2, g0, i, s6, hi, ht⟩
     have hw : IntKind.i64.wrap (↑i + 1) = ((i + 1 : Nat) : Int) := wrapS (by omega)
     with_reducible refine aA ?_
     with_reducible refine aR fun K' hK => ?_
     simp [s2, s6, g0]
     refine hK _ _ _ ?_; clear K' hK
     with_reducible refine aC fun A B hA hB => ?_
     simp
     refine ⟨fun hi2 => hA ?_, fun hi2 => hB ?_⟩ <;> clear hA hB A B <;> (try simp at hi2) <;> (try with_reducible refine aK ?_)
     ·have hd := hrr _ (nth_mem hi2)
      have hfalse : ruAt m.rules i = false → manRight m root = false := fun h => by rw [hmr, rng_all hi2 h]
      have hstep := rng_step (p := ruAt m.rules) ht
      have hdef : ruAt m.rules i = (ruledB (nth m.rules i).name (nth m.rules i).range && (decide (i = 0) || ltB (nth m.rules (i - 1)).name (nth m.rules i).name)) := rfl
      generalize hgd : nth m.rules i = d at *
      have hrd : ruledB d.name d.range = (rgOk d.range && goodF (bsL d.name)) := rfl
      with_reducible refine aw_block ?_
      with_reducible refine aQ fun K' hK => ?_
      refine aops_part 7 fun K2 hK2 => ?_
      simp [s2, s6, g0, hi2, hgd]
      refine acall_flat (good36_ok d.name (by omega)) rfl (by first | rfl | (simp; done) | (simp; rfl) | (simp; exact ⟨rfl, rfl⟩)) ?_
      simp
      refine hK2 _ _ _ ?_
      clear K2 hK2
      by_cases c1 : goodF (bsL d.name) = true
      ·refine aops_part 9 fun K2 hK2 => ?_
       simp [s2, s6, g0, hi2, hgd, c1]
       refine acall_flat (right100_ok d.range hd.2) rfl (by simp [Rg.cells]) ?_
       simp
       refine hK2 _ _ _ ?_
       clear K2 hK2
       by_cases c2 : rgOk d.range = true
       ·have hrt : ruledB d.name d.range = true := by rw [hrd, c1, c2]; rfl
        rw [hrt] at hdef
        by_cases hz : i = 0
        ·have hz' : ¬ (0 : Int) < (i : Int) := by omega
         have hz2 : ¬ 0 < i := by omega
         refine aops_part 10 fun K2 hK2 => ?_
         simp [c1, c2, s6, hz', hz2]
         refine hK2 _ _ _ ?_
         clear K2 hK2
         simp [c1, c2, hz', hz2]
         refine hK _ _ _ ?_; clear K' hK
         with_reducible refine aVk (by simp) ?_
         with_reducible refine aw_skipL ?_
         refine blockK_normal ?_
         with_reducible refine aS fun K' hK => ?_
         simp [s6, hw]
         refine hK _ _ _ ?_; clear K' hK
         refine aw_skipL (loopK_normal ?_ ?_)
         ·exact ⟨by simp [s2], by simp [g0], i + 1, by simp [hw], by omega, hstep (by rw [hdef]; simp [hz])⟩
         ·simp [s6, hw]; omega
        ·obtain ⟨p, hp⟩ : ∃ p, i = p + 1 := ⟨i - 1, by omega⟩
         have hz' : (0 : Int) < (i : Int) := by omega
         have hz2 : 0 < i := by omega
         have hsub : IntKind.i64.wrap ((i : Int) - 1) = (p : Int) := by rw [wrap64 (by omega) (by omega)]; omega
         have hpl : p < m.rules.length := by omega
         have hip : i - 1 = p := by omega
         rw [hip] at hdef
         generalize hgp : nth m.rules p = e at *
         by_cases k3 : ltB e.name d.name = true
         ·refine aops_part 8 fun K2 hK2 => ?_
          simp [c1, c2, s2, s6, g0, hz', hz2, hsub, hpl, hgp, hi2, hgd]
          refine hK2 _ _ _ ?_
          clear K2 hK2
          refine aops_part 8 fun K2 hK2 => ?_
          simp [c1, c2, s2, s6, g0, hz', hz2, hsub, hpl, hgp, hi2, hgd]
          refine hK2 _ _ _ ?_
          clear K2 hK2
          simp [c1, c2, hz', hz2, k3, hi2, hgd, s2, s6, g0]
          refine hK _ _ _ ?_; clear K' hK
          with_reducible refine aVk (by simp) ?_
          with_reducible refine aw_skipL ?_
          refine blockK_normal ?_
          with_reducible refine aS fun K' hK => ?_
          simp [s6, hw]
          refine hK _ _ _ ?_; clear K' hK
          refine aw_skipL (loopK_normal ?_ ?_)
          ·exact ⟨by simp [s2], by simp [g0], i + 1, by simp [hw], by omega, hstep (by rw [hdef, k3]; simp)⟩
          ·simp [s6, hw]; omega
         ·have k3' : ltB e.name d.name = false := by simpa using k3
          refine aops_part 8 fun K2 hK2 => ?_
          simp [c1, c2, s2, s6, g0, hz', hz2, hsub, hpl, hgp, hi2, hgd]
          refine hK2 _ _ _ ?_
          clear K2 hK2
          refine aops_part 8 fun K2 hK2 => ?_
          simp [c1, c2, s2, s6, g0, hz', hz2, hsub, hpl, hgp, hi2, hgd]
          refine hK2 _ _ _ ?_
          clear K2 hK2
          simp [c1, c2, hz', hz2, k3', hi2, hgd, s2, s6, g0]
          refine hK _ _ _ ?_; clear K' hK
          with_reducible refine aU (by simp) ?_
          with_reducible refine aA ?_
          with_reducible refine aR fun K' hK => ?_
          simp
          refine hK _ _ _ ?_; clear K' hK
          with_reducible refine aw_ret ?_
          simp [blockK, loopK, Post, resA, res1, expT, expA, exp1, expM, expL, okT, okA, ok1, rowOf, Tryz.f181]
          rw [hfalse (by rw [hdef, k3']; simp [hz])]
       ·refine aops_part 10 fun K2 hK2 => ?_
        simp [c1, c2]
        refine hK2 _ _ _ ?_
        clear K2 hK2
        simp [c1, c2]
        refine hK _ _ _ ?_; clear K' hK
        with_reducible refine aU (by simp) ?_
        with_reducible refine aA ?_
        with_reducible refine aR fun K' hK => ?_
        simp
        refine hK _ _ _ ?_; clear K' hK
        with_reducible refine aw_ret ?_
        simp [blockK, loopK, Post, resA, res1, expT, expA, exp1, expM, expL, okT, okA, ok1, rowOf, Tryz.f181]
        rw [hfalse (by rw [hdef, hrd]; simp [c2])]
      ·refine aops_part 10 fun K2 hK2 => ?_
       simp [c1]
       refine hK2 _ _ _ ?_
       clear K2 hK2
       refine aops_part 10 fun K2 hK2 => ?_
       simp [c1]
       refine hK2 _ _ _ ?_
       clear K2 hK2
       simp [c1]
       refine hK _ _ _ ?_; clear K' hK
       with_reducible refine aU (by simp) ?_
       with_reducible refine aA ?_
       with_reducible refine aR fun K' hK => ?_
       simp
       refine hK _ _ _ ?_; clear K' hK
       with_reducible refine aw_ret ?_
       simp [blockK, loopK, Post, resA, res1, expT, expA, exp1, expM, expL, okT, okA, ok1, rowOf, Tryz.f181]
       rw [hfalse (by rw [hdef, hrd]; simp [c1])]
     ·skip
      with_reducible refine aw_exit ?_
      refine loopK_exit (blockK_exit ?_)
      have hie : i = m.rules.length := by omega
      subst hie
      with_reducible refine aR fun K' hK => ?_
      simp
      refine hK _ _ _ ?_; clear K' hK
      with_reducible refine aw_retL ?_
      simp [blockK, loopK, Post, resA, res1, expT, expA, exp1, expM, expL, okT, okA, ok1, rowOf, Tryz.f181]
      rw [hmr, ht]
  ·have hh' : manHead m root = false := by simpa using hh
   rw [hh'] at s35
   with_reducible refine aX (by simp [s35]) ?_
   with_reducible refine aA ?_
   with_reducible refine aR fun K' hK => ?_
   simp
   refine hK _ _ _ ?_; clear K' hK
   with_reducible refine aw_ret ?_
   simp [blockK, loopK, Post, resA, res1, expT, expA, exp1, expM, expL, okT, okA, ok1, rowOf, Tryz.f181]
   simp [manRight, hh']
set_option maxRecDepth 100000
set_option maxHeartbeats 4000000
theorem check143_ok (m : Man) (hm : Man.sz m) (root : Bool) : CallsOK Tryz.prog 143 [.agg m.cells, bV root] (iV (manCheck m root)) [] := by
 refine callsOK mixed Tryz.call143 Tryz.func143 rfl (by rw [Tryz.ntmps143]; simp) ?_ rfl
 rw [Tryz.ntmps143]
 with_reducible refine aR fun K' hK => ?_
 simp
 refine hK _ _ _ ?_; clear K' hK
 by_cases c1 : 30 < m.deps.length
 ·have c1' : (30 : Int) < m.deps.length := by omega
  with_reducible refine aA ?_
  with_reducible refine aR fun K' hK => ?_
  simp [c1, c1']
  refine hK _ _ _ ?_; clear K' hK
  with_reducible refine aX (by simp) ?_
  with_reducible refine aA ?_
  with_reducible refine aR fun K' hK => ?_
  simp
  refine hK _ _ _ ?_; clear K' hK
  with_reducible refine aw_ret ?_
  simp [blockK, loopK, Post, resA, res1, expT, expA, exp1, expM, expL, okT, okA, ok1, rowOf, Tryz.f143]
  simp [manCheck, c1]
 ·have c1' : ¬ (30 : Int) < m.deps.length := by omega
  by_cases c2 : 30 < m.rules.length
  ·have c2' : (30 : Int) < m.rules.length := by omega
   with_reducible refine aA ?_
   with_reducible refine aR fun K' hK => ?_
   simp [c1, c1', c2, c2']
   refine hK _ _ _ ?_; clear K' hK
   with_reducible refine aX (by simp) ?_
   with_reducible refine aA ?_
   with_reducible refine aR fun K' hK => ?_
   simp
   refine hK _ _ _ ?_; clear K' hK
   with_reducible refine aw_ret ?_
   simp [blockK, loopK, Post, resA, res1, expT, expA, exp1, expM, expL, okT, okA, ok1, rowOf, Tryz.f143]
   simp [manCheck, c2]
  ·have c2' : ¬ (30 : Int) < m.rules.length := by omega
   with_reducible refine aA ?_
   with_reducible refine aR fun K' hK => ?_
   simp [c1, c1', c2, c2']
   refine hK _ _ _ ?_; clear K' hK
   with_reducible refine aYk (by simp) ?_
   with_reducible refine aA ?_
   with_reducible refine aR fun K' hK => ?_
   simp
   refine acall_flat (right181_ok m hm root) rfl (by first | rfl | (simp; done) | (simp; rfl) | (simp; exact ⟨rfl, rfl⟩)) ?_
   simp
   refine hK _ _ _ ?_; clear K' hK
   by_cases c3 : manRight m root = true
   ·skip
    with_reducible refine aYk (by simp [c3]) ?_
    with_reducible refine aR fun K' hK => ?_
    simp
    refine hK _ _ _ ?_; clear K' hK
    with_reducible refine aw_retL ?_
    simp [blockK, loopK, Post, resA, res1, expT, expA, exp1, expM, expL, okT, okA, ok1, rowOf, Tryz.f143]
    simp [manCheck, c1, c2, c3]
   ·skip
    with_reducible refine aX (by simp [c3]) ?_
    with_reducible refine aA ?_
    with_reducible refine aR fun K' hK => ?_
    simp
    refine hK _ _ _ ?_; clear K' hK
    with_reducible refine aw_ret ?_
    simp [blockK, loopK, Post, resA, res1, expT, expA, exp1, expM, expL, okT, okA, ok1, rowOf, Tryz.f143]
    simp [manCheck, c1, c2, c3]
theorem check144_ok (L : List Man) (hL : Idx.sz L) : CallsOK Tryz.prog 144 [rowT Man.cells L] (iV (idxCheck L)) [] := by
 refine callsOK mixed Tryz.call144 Tryz.func144 rfl (by rw [Tryz.ntmps144]; simp) ?_ rfl
 rw [Tryz.ntmps144]
 have hl := hL.1
 with_reducible refine aR fun K' hK => ?_
 simp
 refine hK _ _ _ ?_; clear K' hK
 with_reducible refine aA ?_
 with_reducible refine aR fun K' hK => ?_
 simp
 refine hK _ _ _ ?_; clear K' hK
 with_reducible refine aC fun A B hA hB => ?_
 simp
 refine ⟨fun hn => hA ?_, fun hn => hB ?_⟩ <;> clear hA hB A B <;> (try simp at hn) <;> (try with_reducible refine aK ?_)
 ·with_reducible refine aA ?_
  with_reducible refine aR fun K' hK => ?_
  simp
  refine hK _ _ _ ?_; clear K' hK
  with_reducible refine aw_ret ?_
  simp [blockK, loopK, Post, resA, res1, expT, expA, exp1, expM, expL, okT, okA, ok1, rowOf, Tryz.f144]
  have hn : 100 < L.length := by omega
  rw [idxCheck, if_pos hn]
 ·have hn : ¬ 100 < L.length := by omega
  with_reducible refine aA ?_
  with_reducible refine aR fun K' hK => ?_
  simp
  refine hK _ _ _ ?_; clear K' hK
  with_reducible refine aw_block ?_
  refine aw_loop (fun s G nx => s 0 = rowT Man.cells L ∧ ∃ i : Nat, s 3 = iV i ∧ i ≤ L.length ∧ (List.range i).all (idxAt L) = true) (fun s _ _ => match s 3 with | .v (.int _ n) => L.length - n.toNat | _ => 0) ?_ ?_
  ·exact ⟨by simp, 0, by simp, by omega, by simp⟩
  ·rintro s G nx hf ⟨s0, i, s3, hi, ht⟩
   have hw : IntKind.i64.wrap (↑i + 1) = ((i + 1 : Nat) : Int) := wrapS (by omega)
   with_reducible refine aA ?_
   with_reducible refine aR fun K' hK => ?_
   simp [s0, s3]
   refine hK _ _ _ ?_; clear K' hK
   with_reducible refine aC fun A B hA hB => ?_
   simp
   refine ⟨fun hi2 => hA ?_, fun hi2 => hB ?_⟩ <;> clear hA hB A B <;> (try simp at hi2) <;> (try with_reducible refine aK ?_)
   ·have hdd := hL.2 _ (nth_mem hi2)
    have hfalse : idxAt L i = false → idxCheck L = 1 := fun h => by rw [idxCheck, if_neg hn, rng_all hi2 h]; rfl
    have hstep := rng_step (p := idxAt L) ht
    have hdef : idxAt L i = (decide (manCheck (nth L i) false = 0) && (decide (i = 0) || decide (manOrd (nth L (i - 1)) (nth L i) < 0))) := rfl
    generalize hgd : nth L i = d at *
    with_reducible refine aw_block ?_
    with_reducible refine aQ fun K' hK => ?_
    refine aops_part 5 fun K2 hK2 => ?_
    simp [s0, s3, hi2, hgd]
    refine acall_flat (check143_ok d hdd false) rfl (by first | rfl | (simp; done) | (simp; rfl) | (simp; exact ⟨rfl, rfl⟩)) ?_
    simp
    refine hK2 _ _ _ ?_
    clear K2 hK2
    by_cases hc : manCheck d false = 0
    ·by_cases hz : i = 0
     ·have hz' : ¬ (0 : Int) < (i : Int) := by omega
      have hz2 : ¬ 0 < i := by omega
      refine aops_part 8 fun K2 hK2 => ?_
      simp [hc, s3, hz', hz2]
      refine hK2 _ _ _ ?_
      clear K2 hK2
      simp [hc, hz', hz2]
      refine hK _ _ _ ?_; clear K' hK
      with_reducible refine aVk (by simp) ?_
      with_reducible refine aw_skipL ?_
      refine blockK_normal ?_
      with_reducible refine aS fun K' hK => ?_
      simp [s3, hw]
      refine hK _ _ _ ?_; clear K' hK
      refine aw_skipL (loopK_normal ?_ ?_)
      ·exact ⟨by simp [s0], i + 1, by simp [hw], by omega, hstep (by rw [hdef, hc]; simp [hz])⟩
      ·simp [s3, hw]; omega
     ·obtain ⟨p, hp⟩ : ∃ p, i = p + 1 := ⟨i - 1, by omega⟩
      have hz' : (0 : Int) < (i : Int) := by omega
      have hz2 : 0 < i := by omega
      have hsub : IntKind.i64.wrap ((i : Int) - 1) = (p : Int) := by rw [wrap64 (by omega) (by omega)]; omega
      have hpl : p < L.length := by omega
      have hip : i - 1 = p := by omega
      rw [hip] at hdef
      have hpp := hL.2 _ (nth_mem hpl)
      refine aops_part 10 fun K2 hK2 => ?_
      simp [hc, hz', hz2, s0, s3, hsub, hpl]
      refine hK2 _ _ _ ?_
      clear K2 hK2
      simp [hc, hz', hz2, s0, s3, hi2, hgd]
      refine acall_flat (ahead182_ok (nth L p) d hpp.2.1 hdd.2.1) rfl (by first | rfl | (simp; done) | (simp; rfl) | (simp; exact ⟨rfl, rfl⟩)) ?_
      by_cases hlt : manOrd (nth L p) d < 0
      ·simp [hc, hz', hz2, hlt]
       refine hK _ _ _ ?_; clear K' hK
       with_reducible refine aVk (by simp) ?_
       with_reducible refine aw_skipL ?_
       refine blockK_normal ?_
       with_reducible refine aS fun K' hK => ?_
       simp [s3, hw]
       refine hK _ _ _ ?_; clear K' hK
       refine aw_skipL (loopK_normal ?_ ?_)
       ·exact ⟨by simp [s0], i + 1, by simp [hw], by omega, hstep (by rw [hdef, hc]; simp [hlt])⟩
       ·simp [s3, hw]; omega
      ·simp [hc, hz', hz2, hlt]
       refine hK _ _ _ ?_; clear K' hK
       with_reducible refine aU (by simp) ?_
       with_reducible refine aA ?_
       with_reducible refine aR fun K' hK => ?_
       simp
       refine hK _ _ _ ?_; clear K' hK
       with_reducible refine aw_ret ?_
       simp [blockK, loopK, Post, resA, res1, expT, expA, exp1, expM, expL, okT, okA, ok1, rowOf, Tryz.f144]
       exact (hfalse (by rw [hdef, hc]; simp [hlt, hz])).symm
    ·refine aops_part 8 fun K2 hK2 => ?_
     simp [hc]
     refine hK2 _ _ _ ?_
     clear K2 hK2
     simp [hc]
     refine hK _ _ _ ?_; clear K' hK
     with_reducible refine aU (by simp) ?_
     with_reducible refine aA ?_
     with_reducible refine aR fun K' hK => ?_
     simp
     refine hK _ _ _ ?_; clear K' hK
     with_reducible refine aw_ret ?_
     simp [blockK, loopK, Post, resA, res1, expT, expA, exp1, expM, expL, okT, okA, ok1, rowOf, Tryz.f144]
     exact (hfalse (by rw [hdef]; simp [hc])).symm
   ·skip
    with_reducible refine aw_exit ?_
    refine loopK_exit (blockK_exit ?_)
    have hi8 : i = L.length := by omega
    subst hi8
    with_reducible refine aR fun K' hK => ?_
    simp
    refine hK _ _ _ ?_; clear K' hK
    with_reducible refine aw_retL ?_
    simp [blockK, loopK, Post, resA, res1, expT, expA, exp1, expM, expL, okT, okA, ok1, rowOf, Tryz.f144]
    rw [idxCheck, if_neg hn, if_pos ht]
theorem check91_ok (root : Man) (L : List Man) (t : List Pl) (hr : Man.sz root) (hL : Idx.sz L) (ht : OKs t) : CallsOK Tryz.prog 91 [.agg root.cells, rowT Man.cells L, rowT Pl.cells t] (iV (codeV root L t)) [] := by
 refine callsOK mixed Tryz.call91 Tryz.func91 rfl (by rw [Tryz.ntmps91]; simp) ?_ rfl
 rw [Tryz.ntmps91]
 with_reducible refine aR fun K' hK => ?_
 simp
 refine hK _ _ _ ?_; clear K' hK
 with_reducible refine aR fun K' hK => ?_
 simp
 refine acall_flat (check143_ok root hr true) rfl (by first | rfl | (simp; done) | (simp; rfl) | (simp; exact ⟨rfl, rfl⟩)) ?_
 simp
 refine hK _ _ _ ?_; clear K' hK
 by_cases c1 : manCheck root true = 0
 ·with_reducible refine aA ?_
  with_reducible refine aR fun K' hK => ?_
  simp [c1]
  refine hK _ _ _ ?_; clear K' hK
  with_reducible refine aYk (by simp) ?_
  with_reducible refine aR fun K' hK => ?_
  simp
  refine acall_flat (check144_ok L hL) rfl (by first | rfl | (simp; done) | (simp; rfl) | (simp; exact ⟨rfl, rfl⟩)) ?_
  simp
  refine hK _ _ _ ?_; clear K' hK
  by_cases c2 : idxCheck L = 0
  ·with_reducible refine aA ?_
   with_reducible refine aR fun K' hK => ?_
   simp [c2]
   refine hK _ _ _ ?_; clear K' hK
   with_reducible refine aYk (by simp) ?_
   with_reducible refine aR fun K' hK => ?_
   simp
   refine acall_flat (check25_ok t ht) rfl (by first | rfl | (simp; done) | (simp; rfl) | (simp; exact ⟨rfl, rfl⟩)) ?_
   simp
   refine hK _ _ _ ?_; clear K' hK
   with_reducible refine aw_retL ?_
   simp [blockK, loopK, Post, resA, res1, expT, expA, exp1, expM, expL, okT, okA, ok1, rowOf, Tryz.f91]
   simp only [codeV, valCodes, orN, c1, c2, if_true]
   split
   ·assumption
   ·rfl
  ·with_reducible refine aA ?_
   with_reducible refine aR fun K' hK => ?_
   simp [c2]
   refine hK _ _ _ ?_; clear K' hK
   with_reducible refine aX (by simp [c2]) ?_
   with_reducible refine aA ?_
   with_reducible refine aR fun K' hK => ?_
   simp
   refine hK _ _ _ ?_; clear K' hK
   with_reducible refine aw_ret ?_
   simp [blockK, loopK, Post, resA, res1, expT, expA, exp1, expM, expL, okT, okA, ok1, rowOf, Tryz.f91]
   simp [codeV, valCodes, orN, c1, c2]
 ·with_reducible refine aA ?_
  with_reducible refine aR fun K' hK => ?_
  simp [c1]
  refine hK _ _ _ ?_; clear K' hK
  with_reducible refine aX (by simp [c1]) ?_
  with_reducible refine aA ?_
  with_reducible refine aR fun K' hK => ?_
  simp
  refine hK _ _ _ ?_; clear K' hK
  with_reducible refine aw_ret ?_
  simp [blockK, loopK, Post, resA, res1, expT, expA, exp1, expM, expL, okT, okA, ok1, rowOf, Tryz.f91]
  simp [codeV, valCodes, orN, c1]
theorem needs141_ok (d : Dep) : CallsOK Tryz.prog 141 [.agg d.cells] (bV (!decide (d.kind = 3))) [] := by
 refine callsOK mixed Tryz.call141 Tryz.func141 rfl (by rw [Tryz.ntmps141]; simp) ?_ rfl
 rw [Tryz.ntmps141]
 with_reducible refine aR fun K' hK => ?_
 simp
 refine hK _ _ _ ?_; clear K' hK
 with_reducible refine aR fun K' hK => ?_
 simp
 refine hK _ _ _ ?_; clear K' hK
 with_reducible refine aw_retL ?_
 simp [blockK, loopK, Post, resA, res1, expT, expA, exp1, expM, expL, okT, okA, ok1, rowOf, Tryz.f141]
theorem lead83_ok (t : List Pl) (g : Good t) (ht : OKs t) (n : Nat) (hn : n < t.length) (d : Dep) : CallsOK Tryz.prog 83 [rowT Pl.cells t, iV n, .agg d.cells] (iV (toN t n d)) [] := by
 refine callsOK mixed Tryz.call83 Tryz.func83 rfl (by rw [Tryz.ntmps83]; simp) ?_ rfl
 rw [Tryz.ntmps83]
 have hB : ¬ ((n : Int) < 0 ∨ (t.length : Int) ≤ n) := by omega
 have hv : toN t n d = resolveN t (if d.kind = 4 ∧ (0 : Int) < n then (nth t (n : Int).toNat).par else n) d.name := by rw [toN, if_neg hB]
 rw [Int.toNat_natCast] at hv
 rw [hv]
 with_reducible refine aR fun K' hK => ?_
 simp
 refine hK _ _ _ ?_; clear K' hK
 with_reducible refine aR fun K' hK => ?_
 simp
 refine hK _ _ _ ?_; clear K' hK
 by_cases c : d.kind = 4
 ·by_cases c2 : 0 < n
  ·have c2' : (0 : Int) < n := by omega
   obtain ⟨p0, p1⟩ := g.par n (by omega) hn
   have hp : (nth t n).par = ((parN t n).toNat : Nat) := by show parN t n = _; omega
   have hR := resolved49_ok t g ht (parN t n).toNat (by omega) d.name
   rw [if_pos ⟨c, c2'⟩, hp]
   with_reducible refine aA ?_
   with_reducible refine aR fun K' hK => ?_
   simp [c, c2, c2']
   refine hK _ _ _ ?_; clear K' hK
   with_reducible refine aX (by simp) ?_
   with_reducible refine aR fun K' hK => ?_
   simp [hn, hp]
   refine hK _ _ _ ?_; clear K' hK
   with_reducible refine aR fun K' hK => ?_
   simp
   refine acall_flat hR rfl (by first | rfl | (simp; done) | (simp; rfl) | (simp; exact ⟨rfl, rfl⟩)) ?_
   simp
   refine hK _ _ _ ?_; clear K' hK
   with_reducible refine aw_retL ?_
   simp [blockK, loopK, Post, resA, res1, expT, expA, exp1, expM, expL, okT, okA, ok1, rowOf, Tryz.f83]
  ·have c2' : ¬ (0 : Int) < n := by omega
   rw [if_neg (fun h => c2' h.2)]
   with_reducible refine aA ?_
   with_reducible refine aR fun K' hK => ?_
   simp [c, c2, c2']
   refine hK _ _ _ ?_; clear K' hK
   with_reducible refine aYk (by simp) ?_
   with_reducible refine aR fun K' hK => ?_
   simp
   refine acall_flat (resolved49_ok t g ht n hn d.name) rfl (by first | rfl | (simp; done) | (simp; rfl) | (simp; exact ⟨rfl, rfl⟩)) ?_
   simp
   refine hK _ _ _ ?_; clear K' hK
   with_reducible refine aw_retL ?_
   simp [blockK, loopK, Post, resA, res1, expT, expA, exp1, expM, expL, okT, okA, ok1, rowOf, Tryz.f83]
 ·rw [if_neg (fun h => c h.1)]
  with_reducible refine aA ?_
  with_reducible refine aR fun K' hK => ?_
  simp [c]
  refine hK _ _ _ ?_; clear K' hK
  with_reducible refine aYk (by simp [c]) ?_
  with_reducible refine aR fun K' hK => ?_
  simp
  refine acall_flat (resolved49_ok t g ht n hn d.name) rfl (by first | rfl | (simp; done) | (simp; rfl) | (simp; exact ⟨rfl, rfl⟩)) ?_
  simp
  refine hK _ _ _ ?_; clear K' hK
  with_reducible refine aw_retL ?_
  simp [blockK, loopK, Post, resA, res1, expT, expA, exp1, expM, expL, okT, okA, ok1, rowOf, Tryz.f83]
theorem good85_ok (t : List Pl) (g : Good t) (ht : OKs t) (hv : ∀ p ∈ t, p.ver.pre.size ≤ 1000000) (n : Nat) (hn : n < t.length) (d : Dep) (hd : Rg.sz d.range) : CallsOK Tryz.prog 85 [rowT Pl.cells t, iV n, .agg d.cells] (bV (holdsV t n d)) [] := by
 refine callsOK mixed Tryz.call85 Tryz.func85 rfl (by rw [Tryz.ntmps85]; simp) ?_ rfl
 rw [Tryz.ntmps85]
 have hdef : holdsV t n d = if toN t n d < 0 then decide (d.kind = 3) else rgHolds (nth t (toN t n d).toNat).ver d.range := by rw [holdsV, if_pos (holds_iff.2 ⟨g, by omega, by omega⟩)]
 have hlt := toN_lt t n d
 with_reducible refine aR fun K' hK => ?_
 simp
 refine hK _ _ _ ?_; clear K' hK
 with_reducible refine aR fun K' hK => ?_
 simp
 refine acall_flat (lead83_ok t g ht n hn d) rfl (by first | rfl | (simp; done) | (simp; rfl) | (simp; exact ⟨rfl, rfl⟩)) ?_
 simp
 refine hK _ _ _ ?_; clear K' hK
 rw [hdef]
 generalize toN t n d = k at *
 by_cases hk : k < 0
 ·with_reducible refine aA ?_
  with_reducible refine aR fun K' hK => ?_
  simp [hk]
  refine hK _ _ _ ?_; clear K' hK
  with_reducible refine aX (by simp) ?_
  with_reducible refine aA ?_
  with_reducible refine aR fun K' hK => ?_
  simp
  refine acall_flat (needs141_ok d) rfl (by first | rfl | (simp; done) | (simp; rfl) | (simp; exact ⟨rfl, rfl⟩)) ?_
  simp
  refine hK _ _ _ ?_; clear K' hK
  with_reducible refine aw_ret ?_
  simp [blockK, loopK, Post, resA, res1, expT, expA, exp1, expM, expL, okT, okA, ok1, rowOf, Tryz.f85]
  exact fun h => by omega
 ·have hk0 : 0 ≤ k := by omega
  have hin : k.toNat < t.length := by omega
  with_reducible refine aA ?_
  with_reducible refine aR fun K' hK => ?_
  simp [hk]
  refine hK _ _ _ ?_; clear K' hK
  with_reducible refine aYk (by simp) ?_
  generalize hj : k.toNat = j at *
  with_reducible refine aQ fun K' hK => ?_
  simp [hk0, hlt, hin, hj]
  refine acall_flat (holds44_ok d.range (nth t j).ver hd (hv _ (nth_mem hin))) rfl (by simp [Rg.cells]) ?_
  simp
  refine hK _ _ _ ?_; clear K' hK
  with_reducible refine aw_retL ?_
  simp [blockK, loopK, Post, resA, res1, expT, expA, exp1, expM, expL, okT, okA, ok1, rowOf, Tryz.f85]
  exact fun h => by omega
set_option maxRecDepth 100000
set_option maxHeartbeats 400000
def keptQ (q : Nat → Bool) (k : Nat) : List Nat := (List.range k).filter q
def rkQ (q : Nat → Bool) (j : Nat) : Nat := (keptQ q j).length
def renQ (q : Nat → Bool) (n : Int) : Int := if n < 0 then n else rkQ q n.toNat
def keepP (t : List Pl) (q : Nat → Bool) (j : Nat) : Pl := { nth t j with par := renQ q (parN t j) }
def keepT (t : List Pl) (q : Nat → Bool) (k : Nat) : List Pl := (keptQ q k).map (keepP t q)
structure Clo (t : List Pl) (q : Nat → Bool) : Prop where
 zero : q 0 = true
 par : ∀ j, 1 ≤ j → j < t.length → q j = true → q (parN t j).toNat = true
section
variable {q : Nat → Bool}
end
section
variable {t : List Pl} {q : Nat → Bool}
end
set_option linter.unusedSectionVars false
section
variable {t : List Pl} {q : Nat → Bool} (g : Good t) (c : Clo t q)
include g c
end
set_option maxRecDepth 100000
set_option maxHeartbeats 400000
def edgesV (root : Man) (L : List Man) (t : List Pl) (n : Nat) : List Dep := match manVal root L t n with
 | none => []
 | some m => ofF m.deps root.rules (decide ((n : Int) = 0))
inductive Rch (root : Man) (L : List Man) (t : List Pl) : Nat → Prop
 | zero : Rch root L t 0
 | par {n : Nat} : Rch root L t n → 0 ≤ parN t n → Rch root L t (parN t n).toNat
 | edge {n k : Nat} {d : Dep} : Rch root L t n → d ∈ edgesV root L t n → toN t n d = k → Rch root L t k
open Classical in
noncomputable def rchB (root : Man) (L : List Man) (t : List Pl) (n : Nat) : Bool := decide (Rch root L t n)
noncomputable def reachL (root : Man) (L : List Man) (t : List Pl) : List Int := if codeV root L t = 0 then (keptQ (rchB root L t) t.length).map fun (n : Nat) => (n : Int) else []
noncomputable def pruneT (root : Man) (L : List Man) (t : List Pl) : List Pl := if codeV root L t = 0 then keepT t (rchB root L t) t.length else []
section
variable {root : Man} {L : List Man} {t : List Pl} {q : Nat → Bool} (g : Good t) (c : Clo t q)
include g c
end
section
variable {root : Man} {L : List Man} {t : List Pl} (g : Good t)
include g
end
-- None: a root without edges
set_option maxRecDepth 100000
set_option maxHeartbeats 4000000
theorem of183_z (rules : List Ru) (b : Bool) (hrl : Ru.okL rules) : CallsOK Tryz.prog 183 [.agg manN, rowT Ru.cells rules, bV b] (.row 0 0) [(35, [])] := by
 have h := of183_ok man0 rules b ⟨by simp [man0], by simp [man0]⟩ (by simp [man0]) hrl
 have e : ofF man0.deps rules b = [] := ofF_nil rules b
 rw [e] at h
 exact h.weak (.cons (.agg (.cons (.refl _) (.cons (.refl _) (.cons (.refl _) (.cons (.refl _) (.cons (.refl _) (.cons .nilRow (.cons .nilRow .nil)))))))) (.cons (.refl _) (.cons (.refl _) .nil)))
theorem manVal_nat {root : Man} {L : List Man} {t : List Pl} {n : Nat} (g : Good t) (hn : n < t.length) : manVal root L t n = if n = 0 then some root else findM L (nth t n).name (nth t n).ver := by
 unfold manVal
 rw [if_pos (holds_iff.2 ⟨g, by omega, by omega⟩), Int.toNat_natCast]
 by_cases h : n = 0
 ·rw [if_pos h, if_pos (by omega)]
 ·rw [if_neg h, if_neg (by omega)]
theorem edges145_ok (root : Man) (hr : Man.sz root) (hro : Man.okS root) (L : List Man) (hL : Idx.sz L) (hLo : ∀ m ∈ L, Man.okS m) (t : List Pl) (g : Good t) (n : Nat) (hn : n < t.length) :
  CallsOK Tryz.prog 145 [.agg root.cells, rowT Man.cells L, rowT Pl.cells t, iV n] (.tup [.row 0 (edgesV root L t n).length, bV (manVal root L t n).isSome]) [(35, flat Dep.cells (edgesV root L t n))] := by
 refine callsOK mixed Tryz.call145 Tryz.func145 rfl (by rw [Tryz.ntmps145]; simp) ?_ rfl
 rw [Tryz.ntmps145]
 have hmv := manVal_nat (root := root) (L := L) g hn
 unfold edgesV
 with_reducible refine aR fun K' hK => ?_
 simp
 refine hK _ _ _ ?_; clear K' hK
 by_cases hz : n = 0
 ·rw [if_pos hz] at hmv
  rw [hmv]
  subst hz
  with_reducible refine aA ?_
  with_reducible refine aR fun K' hK => ?_
  simp
  refine hK _ _ _ ?_; clear K' hK
  with_reducible refine aX (by simp) ?_
  with_reducible refine aA ?_
  with_reducible refine aR fun K' hK => ?_
  simp
  refine acall_new (of183_ok root root.rules true hro.1 hr.2.2.1.1 hro.2) (by first | rfl | (simp; done) | (simp; rfl) | (simp; exact ⟨rfl, rfl⟩)) ?_
  simp [addJ_one]
  refine hK _ _ _ ?_; clear K' hK
  with_reducible refine aw_ret ?_
  simp [blockK, loopK, Post, resA, res1, expT, expA, exp1, expM, expL, okT, okA, ok1, rowOf, Tryz.f145]
 ·rw [if_neg hz] at hmv
  rw [hmv]
  have hz2 : ¬ (n : Int) = 0 := by omega
  have hdec : decide ((n : Int) = 0) = false := by simpa using hz
  rw [hdec]
  with_reducible refine aA ?_
  with_reducible refine aR fun K' hK => ?_
  simp [hz, hz2]
  refine hK _ _ _ ?_; clear K' hK
  with_reducible refine aYk (by simp) ?_
  have hF := find78_ok L hL.1 hLo (nth t n).name (nth t n).ver
  have hmm : ∀ m, findM L (nth t n).name (nth t n).ver = some m → Man.sz m ∧ Man.okS m := fun m h => by
   have := List.mem_of_find?_eq_some h
   exact ⟨hL.2 _ this, hLo _ this⟩
  generalize findM L (nth t n).name (nth t n).ver = r at *
  cases r with
  | none =>
   refine aw_regionL none [] (by decide +kernel) (by decide +kernel) (fun p' hp' => by cases hp') fun K' hK => ?_
   simp [hn]
   refine acall_new hF (by first | rfl | (simp; done) | (simp; rfl) | (simp; exact ⟨rfl, rfl⟩)) ?_
   simp [manR, addJ_nil]
   refine hK _ _ _ ?_; clear K' hK
   with_reducible refine aR fun K' hK => ?_
   simp
   refine acall_new (of183_z root.rules false hro.2) (by first | rfl | (simp; done) | (simp; rfl) | (simp; exact ⟨rfl, rfl⟩)) ?_
   simp [addJ_one]
   refine hK _ _ _ ?_; clear K' hK
   with_reducible refine aw_retL ?_
   simp [blockK, loopK, Post, resA, res1, expT, expA, exp1, expM, expL, okT, okA, ok1, rowOf, Tryz.f145]
  | some m =>
   obtain ⟨mz, mo⟩ := hmm m rfl
   refine aw_regionL none [] (by decide +kernel) (by decide +kernel) (fun p' hp' => by cases hp') fun K' hK => ?_
   simp [hn]
   refine acall_new hF (by first | rfl | (simp; done) | (simp; rfl) | (simp; exact ⟨rfl, rfl⟩)) ?_
   simp [manR, addJ_two]
   refine hK _ _ _ ?_; clear K' hK
   refine aw_gen (fun u H nz => u 4 = .ptr 0 0 ∧ u 10 = .ptr 4 0 ∧ u 11 = bV true ∧ nz = 5 ∧ H 0 = some (.var 27 root.cells) ∧ H 2 = some (.row 35 (flat Dep.cells m.deps)) ∧ H 3 = some (.row 96 (flat Ru.cells m.rules)) ∧ H 4 = some (.var 27 (m.cellsR (.row 2 m.deps.length) (.row 3 m.rules.length)))) ?_ ?_
   ·exact ⟨by simp, by simp, by simp, by simp, by simp, by simp, by simp, by simp⟩
   rintro u H nz ⟨u4, u10, u11, rfl, h0, k1, k2, k3⟩
   have hT := manR_trees (show ¬ 3 = 2 by omega) k1 k2
   with_reducible refine aR fun K' hK => ?_
   simp [u4, u10, h0, k3]
   refine acall_new (of183_ok m root.rules false mo.1 mz.2.2.1.1 hro.2) (by simp [hT]) ?_
   simp [addJ_one, hT, u11]
   refine hK _ _ _ ?_; clear K' hK
   with_reducible refine aw_retL ?_
   simp [blockK, loopK, Post, resA, res1, expT, expA, exp1, expM, expL, okT, okA, ok1, rowOf, Tryz.f145]
theorem fine_edges {root : Man} {L : List Man} {t : List Pl} {n : Nat} : fineV root L t n = ((manVal root L t n).isSome && (edgesV root L t n).all (holdsV t n)) := by
 unfold fineV edgesV
 cases manVal root L t n with
 | none => rfl
 | some m => rfl
theorem edgesV_sz {root : Man} {L : List Man} {t : List Pl} {n : Nat} (hr : Man.sz root) (hL : Idx.sz L) : (edgesV root L t n).length ≤ 1000000000 ∧ ∀ d ∈ edgesV root L t n, Rg.sz d.range := by
 unfold edgesV
 cases hm : manVal root L t n with
 | none => exact ⟨by simp, fun d hd => by simp at hd⟩
 | some m =>
  have hmz : Man.sz m := by
   rcases manVal_mem hm with rfl | h
   ·exact hr
   ·exact hL.2 _ h
  exact ⟨ofF_lenle hmz.2.2.1.1, fun d hd => by
   rcases ofF_range hd with ⟨e, he, h⟩ | ⟨e, he, h⟩
   ·rw [h]; exact (hmz.2.2.1.2 e he).2
   ·rw [h]; exact (hr.2.2.2.2 e he).2⟩
theorem fine92_ok (root : Man) (L : List Man) (t : List Pl) (h : ValSz root L t) (g : Good t) (n : Nat) (hn : n < t.length) : CallsOK Tryz.prog 92 [.agg root.cells, rowT Man.cells L, rowT Pl.cells t, iV n] (bV (fineV root L t n)) [] := by
 obtain ⟨hrz, hro, hLz, hLo, ht, hv⟩ := h
 refine callsOK mixed Tryz.call92 Tryz.func92 rfl (by rw [Tryz.ntmps92]; simp) ?_ rfl
 rw [Tryz.ntmps92]
 have hE := edges145_ok root hrz hro L hLz hLo t g n hn
 have hf := fine_edges (root := root) (L := L) (t := t) (n := n)
 obtain ⟨hEl, hEz⟩ := edgesV_sz (root := root) (L := L) (t := t) (n := n) hrz hLz
 generalize edgesV root L t n = E at *
 generalize (manVal root L t n).isSome = ok0 at *
 generalize fineV root L t n = F at *
 with_reducible refine aR fun K' hK => ?_
 simp
 refine hK _ _ _ ?_; clear K' hK
 with_reducible refine aR fun K' hK => ?_
 simp
 refine acall_new hE (by first | rfl | (simp; done) | (simp; rfl) | (simp; exact ⟨rfl, rfl⟩)) ?_
 simp [addJ_one]
 refine hK _ _ _ ?_; clear K' hK
 with_reducible refine aA ?_
 with_reducible refine aR fun K' hK => ?_
 simp
 refine hK _ _ _ ?_; clear K' hK
 with_reducible refine aw_block ?_
 refine aw_loop (fun s G nx => s 2 = rowT Pl.cells t ∧ s 3 = iV n ∧ s 9 = .row 1 E.length ∧ G 1 = some (.row 35 (flat Dep.cells E)) ∧ ∃ j : Nat, s 11 = iV j ∧ j ≤ E.length ∧ s 10 = bV (ok0 && (E.take j).all (holdsV t n))) (fun s _ _ => match s 11 with | .v (.int _ n) => E.length - n.toNat | _ => 0) ?_ ?_
 ·exact ⟨by simp, by simp, by simp, by simp, 0, by simp, by omega, by simp⟩
 ·rintro s G nx hfr ⟨s2, s3, s9, g1, j, s11, hj, s10⟩
  have hw : IntKind.i64.wrap (↑j + 1) = ((j + 1 : Nat) : Int) := wrapS (by omega)
  by_cases hj2 : j < E.length
  ·have hstep := all_take1 (p := holdsV t n) hj2
   have hall : (ok0 && (E.take j).all (holdsV t n)) = false → F = false := fun h => by
    rw [hf]
    cases ok0 with
    | false => rfl
    | true =>
     simp only [Bool.true_and] at h ⊢
     rw [← List.take_append_drop j E, List.all_append, h]; rfl
   generalize hcur : (ok0 && (E.take j).all (holdsV t n)) = cur at *
   cases cur with
   | false =>
    with_reducible refine aA ?_
    with_reducible refine aR fun K' hK => ?_
    simp [s9, s10, s11, g1, hj2]
    refine hK _ _ _ ?_; clear K' hK
    with_reducible refine aY (by simp) ?_
    with_reducible refine aw_exit ?_
    refine loopK_exit (blockK_exit ?_)
    with_reducible refine aR fun K' hK => ?_
    simp [s10]
    refine hK _ _ _ ?_; clear K' hK
    with_reducible refine aw_retL ?_
    simp [blockK, loopK, Post, resA, res1, expT, expA, exp1, expM, expL, okT, okA, ok1, rowOf, Tryz.f92]
    first | exact hall rfl | exact (hall rfl).symm
   | true =>
    with_reducible refine aA ?_
    with_reducible refine aR fun K' hK => ?_
    simp [s9, s10, s11, g1, hj2]
    refine hK _ _ _ ?_; clear K' hK
    with_reducible refine aXk (by simp) ?_
    with_reducible refine aw_block ?_
    with_reducible refine aS fun K' hK => ?_
    simp [s2, s3, s9, s11, g1, hj2]
    refine acall_flat (good85_ok t g ht hv n hn (nth E j) (hEz _ (nth_mem hj2))) rfl (by first | rfl | (simp; done) | (simp; rfl) | (simp; exact ⟨rfl, rfl⟩)) ?_
    simp
    refine hK _ _ _ ?_; clear K' hK
    with_reducible refine aw_skipL ?_
    refine blockK_normal ?_
    with_reducible refine aS fun K' hK => ?_
    simp [s11, hw]
    refine hK _ _ _ ?_; clear K' hK
    refine aw_skipL (loopK_normal ?_ ?_)
    ·exact ⟨by simp [s2], by simp [s3], by simp [s9], by simp [g1], j + 1, by simp [hw], by omega, by rw [hstep, ← Bool.and_assoc, hcur]; simp⟩
    ·simp [s11, hw]; omega
  ·have hjE : j = E.length := by omega
   rw [hjE, List.take_length, ← hf] at s10
   with_reducible refine aA ?_
   with_reducible refine aR fun K' hK => ?_
   simp [s9, s10, s11, g1, hj2]
   refine hK _ _ _ ?_; clear K' hK
   with_reducible refine aY (by simp) ?_
   with_reducible refine aw_exit ?_
   refine loopK_exit (blockK_exit ?_)
   with_reducible refine aR fun K' hK => ?_
   simp [s10]
   refine hK _ _ _ ?_; clear K' hK
   with_reducible refine aw_retL ?_
   simp [blockK, loopK, Post, resA, res1, expT, expA, exp1, expM, expL, okT, okA, ok1, rowOf, Tryz.f92]
theorem below_eq {t : List Pl} (g : Good t) : belowL t 0 = (List.range t.length).map fun (n : Nat) => (n : Int) := by
 unfold belowL
 rw [if_pos (holds_iff.2 ⟨g, by omega, by have := g.pos; omega⟩)]
 unfold belowK
 congr 1
 rw [List.filter_eq_self]
 intro j hj
 have hj := List.mem_range.1 hj
 have hmem := below_all g hj
 have hb := below_mem (i := 0) g g.pos hj
 have hu : underF t j (0 : Nat) = true := by
  rw [← hb]; exact List.any_eq_true.2 ⟨_, hmem, by simp⟩
 simpa using hu
theorem wrong_eq {root : Man} {L : List Man} {t : List Pl} (g : Good t) : wrongL root L t = ((List.range t.length).filter fun n => !fineV root L t (n : Nat)).map fun (n : Nat) => (n : Int) := by
 unfold wrongL
 rw [below_eq g, List.filter_map]
 rfl
set_option maxRecDepth 100000
set_option maxHeartbeats 4000000
theorem wrong36_ok (root : Man) (L : List Man) (t : List Pl) (h : ValSz root L t) : CallsOK Tryz.prog 36 [.agg root.cells, rowT Man.cells L, rowT Pl.cells t] (.tup [.row 0 (wrongO root L t).length, iV (codeV root L t)]) [(3, flat iC (wrongO root L t))] := by
 have hh := h
 obtain ⟨hrz, hro, hLz, hLo, ht, hv⟩ := h
 have htl := ht.1
 refine callsOK mixed Tryz.call36 Tryz.func36 rfl (by rw [Tryz.ntmps36]; simp) ?_ rfl
 rw [Tryz.ntmps36]
 with_reducible refine aR fun K' hK => ?_
 simp
 refine hK _ _ _ ?_; clear K' hK
 with_reducible refine aR fun K' hK => ?_
 simp
 refine acall_flat (check91_ok root L t hrz hLz ht) rfl (by first | rfl | (simp; done) | (simp; rfl) | (simp; exact ⟨rfl, rfl⟩)) ?_
 simp
 refine hK _ _ _ ?_; clear K' hK
 by_cases hc : codeV root L t = 0
 ·have g : Good t := check_iff.1 (codeV_zero.1 hc).2.2
  have hwo : wrongO root L t = ((List.range t.length).filter fun n => !fineV root L t (n : Nat)).map fun (n : Nat) => (n : Int) := by rw [wrongO, if_pos hc, wrong_eq g]
  rw [hwo, hc]
  with_reducible refine aA ?_
  with_reducible refine aR fun K' hK => ?_
  simp [hc]
  refine hK _ _ _ ?_; clear K' hK
  with_reducible refine aYk (by simp) ?_
  with_reducible refine aR fun K' hK => ?_
  simp
  refine hK _ _ _ ?_; clear K' hK
  with_reducible refine aA ?_
  with_reducible refine aR fun K' hK => ?_
  simp
  refine hK _ _ _ ?_; clear K' hK
  with_reducible refine aw_block ?_
  refine aw_loop (fun s G nx => s 1 = rowT Man.cells L ∧ s 2 = rowT Pl.cells t ∧ s 3 = .ptr 0 0 ∧ G 0 = some (.var 27 root.cells) ∧ ∃ (i q : Nat), s 10 = iV i ∧ i ≤ t.length ∧ s 9 = .row q (((List.range i).filter fun n => !fineV root L t (n : Nat)).map fun (n : Nat) => (n : Int)).length ∧ 1 ≤ q ∧ G q = some (.row 3 (flat iC (((List.range i).filter fun n => !fineV root L t (n : Nat)).map fun (n : Nat) => (n : Int))))) (fun s _ _ => match s 10 with | .v (.int _ n) => t.length - n.toNat | _ => 0) ?_ ?_
  ·exact ⟨by simp, by simp, by simp, by simp, 0, 2, by simp, by omega, by simp, by omega, by simp⟩
  ·rintro s G nx hf ⟨s1, s2, s3, g0, i, q, s10, hi, s9, hq, hG⟩
   have o10 := s10
   have hw : IntKind.i64.wrap (↑i + 1) = ((i + 1 : Nat) : Int) := wrapS (by omega)
   with_reducible refine aA ?_
   with_reducible refine aR fun K' hK => ?_
   simp [s2, s10]
   refine hK _ _ _ ?_; clear K' hK
   with_reducible refine aC fun A B hA hB => ?_
   simp
   refine ⟨fun hi2 => hA ?_, fun hi2 => hB ?_⟩ <;> clear hA hB A B <;> (try simp at hi2) <;> (try with_reducible refine aK ?_)
   ·have hst : (((List.range (i + 1)).filter fun n => !fineV root L t (n : Nat)).map fun (n : Nat) => (n : Int)) = (((List.range i).filter fun n => !fineV root L t (n : Nat)).map fun (n : Nat) => (n : Int)) ++ if fineV root L t (i : Nat) = true then [] else [(i : Int)] := by
     rw [List.range_succ, List.filter_append, List.map_append]
     congr 1
     cases hf2 : fineV root L t (i : Nat) <;> simp [hf2]
    have hal : (((List.range i).filter fun n => !fineV root L t (n : Nat)).map fun (n : Nat) => (n : Int)).length ≤ i := by
     rw [List.length_map]
     exact Nat.le_trans (List.length_filter_le _ _) (by simp)
    have hfi := fine92_ok root L t hh g i hi2
    generalize (((List.range i).filter fun n => !fineV root L t (n : Nat)).map fun (n : Nat) => (n : Int)) = acc at *
    generalize fineV root L t (i : Nat) = F at *
    have hqn : q < nx := fresh_lt hf hG
    have n0 : ¬ 0 = nx := by have := fresh_lt hf g0; omega
    have n1 : ¬ 0 = nx + 1 := by omega
    have n2 : ¬ q = nx := by omega
    have n3 : ¬ nx = q := by omega
    have n4 : ¬ 0 = q := by omega
    have b1 : acc.length + 1 ≤ 9223372036854775807 := by omega
    have b2 : (acc.length + 1) * 8 ≤ 140737488355328 := by omega
    with_reducible refine aw_block ?_
    with_reducible refine aR fun K' hK => ?_
    simp [s1, s2, s3, s10, g0]
    refine acall_flat hfi rfl (by first | rfl | (simp; done) | (simp; rfl) | (simp; exact ⟨rfl, rfl⟩)) ?_
    simp
    refine hK _ _ _ ?_; clear K' hK
    cases F with
    | true =>
     with_reducible refine aVk (by simp) ?_
     with_reducible refine aw_skipL ?_
     refine blockK_normal ?_
     with_reducible refine aS fun K' hK => ?_
     simp [s10, hw]
     refine hK _ _ _ ?_; clear K' hK
     refine aw_skipL (loopK_normal ?_ ?_)
     ·exact ⟨by simp [s1], by simp [s2], by simp [s3], by simp [g0], i + 1, q, by simp [hw], by omega, by rw [hst]; simp [s9], hq, by rw [hst]; simpa using hG⟩
     ·simp [o10, s10, hw]; omega
    | false =>
     with_reducible refine aU (by simp) ?_
     with_reducible refine aR fun K' hK => ?_
     simp [s9, s10, hG, n2, n3, b1, b2, treeOf_row, srcOf_row]
     refine hK _ _ _ ?_; clear K' hK
     with_reducible refine aw_skipL ?_
     refine blockK_normal ?_
     with_reducible refine aS fun K' hK => ?_
     simp [s10, hw]
     refine hK _ _ _ ?_; clear K' hK
     refine aw_skipL (loopK_normal ?_ ?_)
     ·exact ⟨by simp [s1], by simp [s2], by simp [s3], by simp [n0, n1, n4, g0], i + 1, nx + 1, by simp [hw], by omega, by rw [hst]; simp, by omega, by rw [hst]; simp [← flat_snoc]; rfl⟩
     ·simp [o10, s10, hw]; omega
   ·skip
    with_reducible refine aw_exit ?_
    refine loopK_exit (blockK_exit ?_)
    have hie : i = t.length := by omega
    subst hie
    with_reducible refine aR fun K' hK => ?_
    simp [s9]
    refine hK _ _ _ ?_; clear K' hK
    with_reducible refine aw_retL ?_
    simp [blockK, loopK, Post, resA, res1, expT, expA, exp1, expM, expL, okT, okA, ok1, rowOf, Tryz.f36, hG]
 ·have hwo : wrongO root L t = [] := by rw [wrongO, if_neg hc]
  rw [hwo]
  with_reducible refine aA ?_
  with_reducible refine aR fun K' hK => ?_
  simp [hc]
  refine hK _ _ _ ?_; clear K' hK
  with_reducible refine aX (by simp [hc]) ?_
  with_reducible refine aA ?_
  with_reducible refine aR fun K' hK => ?_
  simp
  refine hK _ _ _ ?_; clear K' hK
  with_reducible refine aw_ret ?_
  simp [blockK, loopK, Post, resA, res1, expT, expA, exp1, expM, expL, okT, okA, ok1, rowOf, Tryz.f36]
theorem valid39_ok (root : Man) (L : List Man) (t : List Pl) (h : ValSz root L t) : CallsOK Tryz.prog 39 [.agg root.cells, rowT Man.cells L, rowT Pl.cells t] (bV (validN root L t)) [] := by
 have hW := wrong36_ok root L t h
 have hvn : validN root L t = (decide (codeV root L t = 0) && decide (wrongO root L t = [])) := by
  unfold validN wrongO
  by_cases hc : codeV root L t = 0
  ·rw [if_pos hc]
  ·simp [hc]
 rw [hvn]
 refine callsOK mixed Tryz.call39 Tryz.func39 rfl (by rw [Tryz.ntmps39]; simp) ?_ rfl
 rw [Tryz.ntmps39]
 generalize wrongO root L t = W at *
 generalize codeV root L t = c at *
 with_reducible refine aR fun K' hK => ?_
 simp
 refine hK _ _ _ ?_; clear K' hK
 with_reducible refine aR fun K' hK => ?_
 simp
 refine acall_new hW (by first | rfl | (simp; done) | (simp; rfl) | (simp; exact ⟨rfl, rfl⟩)) ?_
 simp [addJ_one]
 refine hK _ _ _ ?_; clear K' hK
 by_cases hc : c = 0
 ·by_cases hw : W = []
  ·skip
   with_reducible refine aR fun K' hK => ?_
   simp [hc, hw]
   refine hK _ _ _ ?_; clear K' hK
   with_reducible refine aw_retL ?_
   simp [blockK, loopK, Post, resA, res1, expT, expA, exp1, expM, expL, okT, okA, ok1, rowOf, Tryz.f39]
   exact ⟨hc, hw⟩
  ·have hl : ¬ W.length = 0 := fun e => hw (List.eq_nil_of_length_eq_zero e)
   with_reducible refine aR fun K' hK => ?_
   simp [hc, hl, hw]
   refine hK _ _ _ ?_; clear K' hK
   with_reducible refine aw_retL ?_
   simp [blockK, loopK, Post, resA, res1, expT, expA, exp1, expM, expL, okT, okA, ok1, rowOf, Tryz.f39]
   exact fun _ => hw
 ·skip
  with_reducible refine aR fun K' hK => ?_
  simp [hc]
  refine hK _ _ _ ?_; clear K' hK
  with_reducible refine aw_retL ?_
  simp [blockK, loopK, Post, resA, res1, expT, expA, exp1, expM, expL, okT, okA, ok1, rowOf, Tryz.f39]
  exact fun h => absurd h hc
set_option maxRecDepth 100000
set_option maxHeartbeats 4000000
theorem Ru.ext' {a b : Ru} (h2 : a.name = b.name) (h3 : a.range = b.range) : a = b := by
 cases a; cases b; simp_all
theorem Man.ext' {a b : Man} (h1 : a.name = b.name) (h2 : a.ver = b.ver) (h3 : a.deps = b.deps) (h4 : a.rules = b.rules) : a = b := by
 cases a; cases b; simp_all
theorem Ru.okR {ds : List Ru} (h : Ru.okL ds) {d : Ru} (hd : d ∈ ds) : d.range.ok :=
 ⟨by have := (h.2 d hd).1; omega, fun l hl => by have := (h.2 d hd).2 l hl; omega⟩
theorem rules81_ok (a b : List Ru) (ha : Ru.okL a) : CallsOK Tryz.prog 81 [rowT Ru.cells a, rowT Ru.cells b] (bV (decide (a = b))) [] := by
 refine callsOK mixed Tryz.call81 Tryz.func81 rfl (by rw [Tryz.ntmps81]; simp) ?_ rfl
 rw [Tryz.ntmps81]
 with_reducible refine aR fun K' hK => ?_
 simp
 refine hK _ _ _ ?_; clear K' hK
 with_reducible refine aA ?_
 with_reducible refine aR fun K' hK => ?_
 simp
 refine hK _ _ _ ?_; clear K' hK
 with_reducible refine aC fun A B hA hB => ?_
 simp
 refine ⟨fun hl => hA ?_, fun hl => hB ?_⟩ <;> clear hA hB A B <;> (try simp at hl) <;> (try with_reducible refine aK ?_)
 ·with_reducible refine aA ?_
  with_reducible refine aR fun K' hK => ?_
  simp
  refine hK _ _ _ ?_; clear K' hK
  with_reducible refine aw_ret ?_
  simp [blockK, loopK, Post, resA, res1, expT, expA, exp1, expM, expL, okT, okA, ok1, rowOf, Tryz.f81]
  intro e; exact hl (by rw [e])
 ·with_reducible refine aA ?_
  with_reducible refine aR fun K' hK => ?_
  simp
  refine hK _ _ _ ?_; clear K' hK
  with_reducible refine aw_block ?_
  refine aw_loop (fun s G nx => s 0 = rowT Ru.cells a ∧ s 1 = rowT Ru.cells b ∧ ∃ i : Nat, s 5 = iV i ∧ i ≤ a.length ∧ a.take i = b.take i) (fun s _ _ => match s 5 with | .v (.int _ n) => a.length - n.toNat | _ => 0) ?_ ?_
  ·exact ⟨by simp, by simp, 0, by simp, by omega, by simp⟩
  ·rintro s G nx - ⟨s0, s1, i, s5, hi, ht⟩
   have hw : IntKind.i64.wrap (↑i + 1) = ((i + 1 : Nat) : Int) := wrapS (by have := ha.1; omega)
   with_reducible refine aA ?_
   with_reducible refine aR fun K' hK => ?_
   simp [s0, s5]
   refine hK _ _ _ ?_; clear K' hK
   with_reducible refine aC fun A B hA hB => ?_
   simp
   refine ⟨fun hi2 => hA ?_, fun hi2 => hB ?_⟩ <;> clear hA hB A B <;> (try simp at hi2) <;> (try with_reducible refine aK ?_)
   ·have hi3 : i < b.length := by omega
    with_reducible refine aw_block ?_
    by_cases h2 : (nth a i).name = (nth b i).name
    ·skip
     with_reducible refine aQ fun K' hK => ?_
     simp [s0, s1, s5, hi2, hi3, h2]
     refine acall_flat (same05_ok (nth a i).range (nth b i).range (Ru.okR ha (nth_mem hi2))) rfl (by simp [Rg.cells]) ?_
     simp
     refine hK _ _ _ ?_; clear K' hK
     with_reducible refine aD fun A B hA hB => ?_
     simp
     refine ⟨fun hne => hA ?_, fun hne => hB ?_⟩ <;> clear hA hB A B <;> (try simp at hne) <;> (try with_reducible refine aK ?_)
     ·with_reducible refine aA ?_
      with_reducible refine aR fun K' hK => ?_
      simp
      refine hK _ _ _ ?_; clear K' hK
      with_reducible refine aw_ret ?_
      simp [blockK, loopK, Post, resA, res1, expT, expA, exp1, expM, expL, okT, okA, ok1, rowOf, Tryz.f81]
      exact ne_nth (i := i) fun e => hne (by rw [e])
     ·with_reducible refine aw_skipL ?_
      refine blockK_normal ?_
      with_reducible refine aS fun K' hK => ?_
      simp [s5, hw]
      refine hK _ _ _ ?_; clear K' hK
      refine aw_skipL (loopK_normal ?_ ?_)
      ·exact ⟨by simp [s0], by simp [s1], i + 1, by simp [hw], by omega, take_nth hi2 hi3 ht (Ru.ext' h2 hne)⟩
      ·simp [s5, hw]; omega
    ·skip
     with_reducible refine aQ fun K' hK => ?_
     simp (maxSteps := 1000000) [s0, s1, s5, hi2, hi3, h2]
     refine hK _ _ _ ?_; clear K' hK
     with_reducible refine aU (by simp) ?_
     with_reducible refine aA ?_
     with_reducible refine aR fun K' hK => ?_
     simp
     refine hK _ _ _ ?_; clear K' hK
     with_reducible refine aw_ret ?_
     simp [blockK, loopK, Post, resA, res1, expT, expA, exp1, expM, expL, okT, okA, ok1, rowOf, Tryz.f81]
     exact ne_nth (i := i) fun e => h2 (by rw [e])
   ·skip
    with_reducible refine aw_exit ?_
    refine loopK_exit (blockK_exit ?_)
    with_reducible refine aR fun K' hK => ?_
    simp
    refine hK _ _ _ ?_; clear K' hK
    with_reducible refine aw_retL ?_
    simp [blockK, loopK, Post, resA, res1, expT, expA, exp1, expM, expL, okT, okA, ok1, rowOf, Tryz.f81]
    exact eq_of_take (by omega) (by omega) ht
theorem same27_ok (a b : Man) (ha : Man.okS a) : CallsOK Tryz.prog 27 [.agg a.cells, .agg b.cells] (bV (decide (a = b))) [] := by
 refine callsOK mixed Tryz.call27 Tryz.func27 rfl (by rw [Tryz.ntmps27]; simp) ?_ rfl
 rw [Tryz.ntmps27]
 with_reducible refine aR fun K' hK => ?_
 simp
 refine hK _ _ _ ?_; clear K' hK
 by_cases h1 : a.name = b.name
 ·by_cases h2 : a.ver = b.ver
  ·skip
   with_reducible refine aR fun K' hK => ?_
   simp [h1, h2]
   refine acall_flat (deps13_ok a.deps b.deps ha.1) rfl (by first | rfl | (simp; done) | (simp; rfl) | (simp; exact ⟨rfl, rfl⟩)) ?_
   by_cases h3 : a.deps = b.deps
   ·simp [h3]
    refine acall_flat (rules81_ok a.rules b.rules ha.2) rfl (by first | rfl | (simp; done) | (simp; rfl) | (simp; exact ⟨rfl, rfl⟩)) ?_
    simp
    refine hK _ _ _ ?_; clear K' hK
    with_reducible refine aw_retL ?_
    simp [blockK, loopK, Post, resA, res1, expT, expA, exp1, expM, expL, okT, okA, ok1, rowOf, Tryz.f27]
    exact ⟨fun h => Man.ext' h1 h2 h3 h, fun h => by rw [h]⟩
   ·simp [h3]
    refine hK _ _ _ ?_; clear K' hK
    with_reducible refine aw_retL ?_
    simp [blockK, loopK, Post, resA, res1, expT, expA, exp1, expM, expL, okT, okA, ok1, rowOf, Tryz.f27]
    exact fun h => h3 (by rw [h])
  ·skip
   with_reducible refine aR fun K' hK => ?_
   simp [h1, h2]
   refine hK _ _ _ ?_; clear K' hK
   with_reducible refine aw_retL ?_
   simp [blockK, loopK, Post, resA, res1, expT, expA, exp1, expM, expL, okT, okA, ok1, rowOf, Tryz.f27]
   exact fun h => h2 (by rw [h])
 ·skip
  with_reducible refine aR fun K' hK => ?_
  simp [h1]
  refine hK _ _ _ ?_; clear K' hK
  with_reducible refine aw_retL ?_
  simp [blockK, loopK, Post, resA, res1, expT, expA, exp1, expM, expL, okT, okA, ok1, rowOf, Tryz.f27]
  exact fun h => h1 (by rw [h])
theorem same40_ok (a b : List Man) (hl : a.length ≤ 1000000000) (ha : ∀ m ∈ a, Man.okS m) : CallsOK Tryz.prog 40 [rowT Man.cells a, rowT Man.cells b] (bV (decide (a = b))) [] := by
 refine callsOK mixed Tryz.call40 Tryz.func40 rfl (by rw [Tryz.ntmps40]; simp) ?_ rfl
 rw [Tryz.ntmps40]
 with_reducible refine aR fun K' hK => ?_
 simp
 refine hK _ _ _ ?_; clear K' hK
 with_reducible refine aA ?_
 with_reducible refine aR fun K' hK => ?_
 simp
 refine hK _ _ _ ?_; clear K' hK
 with_reducible refine aC fun A B hA hB => ?_
 simp
 refine ⟨fun hl2 => hA ?_, fun hl2 => hB ?_⟩ <;> clear hA hB A B <;> (try simp at hl2) <;> (try with_reducible refine aK ?_)
 ·with_reducible refine aA ?_
  with_reducible refine aR fun K' hK => ?_
  simp
  refine hK _ _ _ ?_; clear K' hK
  with_reducible refine aw_ret ?_
  simp [blockK, loopK, Post, resA, res1, expT, expA, exp1, expM, expL, okT, okA, ok1, rowOf, Tryz.f40]
  intro e; exact hl2 (by rw [e])
 ·with_reducible refine aA ?_
  with_reducible refine aR fun K' hK => ?_
  simp
  refine hK _ _ _ ?_; clear K' hK
  with_reducible refine aw_block ?_
  refine aw_loop (fun s G nx => s 0 = rowT Man.cells a ∧ s 1 = rowT Man.cells b ∧ ∃ i : Nat, s 5 = iV i ∧ i ≤ a.length ∧ a.take i = b.take i) (fun s _ _ => match s 5 with | .v (.int _ n) => a.length - n.toNat | _ => 0) ?_ ?_
  ·exact ⟨by simp, by simp, 0, by simp, by omega, by simp⟩
  ·rintro s G nx - ⟨s0, s1, i, s5, hi, ht⟩
   have hw : IntKind.i64.wrap (↑i + 1) = ((i + 1 : Nat) : Int) := wrapS (by omega)
   with_reducible refine aA ?_
   with_reducible refine aR fun K' hK => ?_
   simp [s0, s5]
   refine hK _ _ _ ?_; clear K' hK
   with_reducible refine aC fun A B hA hB => ?_
   simp
   refine ⟨fun hi2 => hA ?_, fun hi2 => hB ?_⟩ <;> clear hA hB A B <;> (try simp at hi2) <;> (try with_reducible refine aK ?_)
   ·have hi3 : i < b.length := by omega
    with_reducible refine aw_block ?_
    with_reducible refine aQ fun K' hK => ?_
    simp [s0, s1, s5, hi2, hi3]
    refine acall_flat (same27_ok (nth a i) (nth b i) (ha _ (nth_mem hi2))) rfl (by first | rfl | (simp; done) | (simp; rfl) | (simp; exact ⟨rfl, rfl⟩)) ?_
    simp
    refine hK _ _ _ ?_; clear K' hK
    with_reducible refine aD fun A B hA hB => ?_
    simp
    refine ⟨fun hne => hA ?_, fun hne => hB ?_⟩ <;> clear hA hB A B <;> (try simp at hne) <;> (try with_reducible refine aK ?_)
    ·with_reducible refine aA ?_
     with_reducible refine aR fun K' hK => ?_
     simp
     refine hK _ _ _ ?_; clear K' hK
     with_reducible refine aw_ret ?_
     simp [blockK, loopK, Post, resA, res1, expT, expA, exp1, expM, expL, okT, okA, ok1, rowOf, Tryz.f40]
     exact ne_nth (i := i) hne
    ·with_reducible refine aw_skipL ?_
     refine blockK_normal ?_
     with_reducible refine aS fun K' hK => ?_
     simp [s5, hw]
     refine hK _ _ _ ?_; clear K' hK
     refine aw_skipL (loopK_normal ?_ ?_)
     ·exact ⟨by simp [s0], by simp [s1], i + 1, by simp [hw], by omega, take_nth hi2 hi3 ht hne⟩
     ·simp [s5, hw]; omega
   ·skip
    with_reducible refine aw_exit ?_
    refine loopK_exit (blockK_exit ?_)
    with_reducible refine aR fun K' hK => ?_
    simp
    refine hK _ _ _ ?_; clear K' hK
    with_reducible refine aw_retL ?_
    simp [blockK, loopK, Post, resA, res1, expT, expA, exp1, expM, expL, okT, okA, ok1, rowOf, Tryz.f40]
    exact eq_of_take (by omega) (by omega) ht
set_option maxRecDepth 100000
set_option maxHeartbeats 4000000
def seeI (N : Nat) (G : Hp) (x : AV) (l : List Int) : Prop := (x = .v (.slice none 0 0) ∧ l = []) ∨ ∃ r, x = .row r l.length ∧ r < N ∧ G r = some (.row 3 (flat iC l))
theorem flatI_plain (l : List Int) : (flat iC l).all plainC = true := by
 induction l with
 | nil => rfl
 | cons a l ih => exact ih
theorem flatI_J (l : List Int) : flatJ [(3, flat iC l)] = true := by
 simp only [flatJ, List.all_cons, flatI_plain]; rfl
theorem seeI_ok {N : Nat} {G : Hp} {x : AV} {l : List Int} {id : Nat} (h : seeI N G x l) (hg : G id = some (.row 3 (flat iC l))) (hl : l.length ≤ 1000000000) : ∃ a, CallsOK Tryz.prog 37 [a, rowT iC l] (bV true) [] ∧ seesA Tryz.prog G [x, .row id l.length] = some [a, rowT iC l] := by
 have c3 : Tryz.prog.cellsOf 3 = 1 := by kernel_rfl
 have hc := ints27_ok l l hl
 simp only [decide_true] at hc
 have h2 : treeOf Tryz.prog G (.row id l.length) = some (rowT iC l) := treeOf_of hg c3 rfl
 rcases h with ⟨rfl, rfl⟩ | ⟨r, rfl, hr, hG⟩
 ·refine ⟨.v (.slice none 0 0), hc.weak (.cons .nilRow (.cons (.refl _) .nil)), ?_⟩
  simp only [seesA, seeA, lookA, h2]
 ·have h1 : treeOf Tryz.prog G (.row r l.length) = some (rowT iC l) := treeOf_of hG c3 rfl
  refine ⟨rowT iC l, hc, ?_⟩
  simp only [seesA, seeA, lookA, h1, h2]
theorem seeA_man {G : Hp} {a b : AV} {m : Man} (ha : lookA Tryz.prog G a = some (rowT Dep.cells m.deps)) (hb : lookA Tryz.prog G b = some (rowT Ru.cells m.rules)) : seeA Tryz.prog G (.agg (m.cellsR a b)) = some (.agg m.cells) := by
 simp only [seeA, Man.cellsR, looksA, ha, hb]
 rfl
theorem wrong4_ok (root : Man) (L : List Man) (t : List Pl) (hl : L.length ≤ 9223372036854775807) (htl : t.length ≤ 9223372036854775807) : CallsOK Tryz.prog 4 [.agg root.cells, rowT Man.cells L, rowT Pl.cells t] (bV true) [] := by
 refine callsOK mixed Tryz.call4 Tryz.func4 rfl (by rw [Tryz.ntmps4]; simp) ?_ rfl
 rw [Tryz.ntmps4]
 with_reducible refine aR fun K' hK => ?_
 simp
 refine hK _ _ _ ?_; clear K' hK
 with_reducible refine aA ?_
 with_reducible refine aR fun K' hK => ?_
 simp
 refine acall_flat (big21_ok root L t hl htl) rfl (by first | rfl | (simp; done) | (simp; rfl) | (simp; exact ⟨rfl, rfl⟩)) ?_
 by_cases hb : bigW root L t = true
 ·simp [hb]
  refine hK _ _ _ ?_; clear K' hK
  with_reducible refine aX (by simp) ?_
  with_reducible refine aA ?_
  with_reducible refine aR fun K' hK => ?_
  simp
  refine hK _ _ _ ?_; clear K' hK
  with_reducible refine aw_ret ?_
  simp [blockK, loopK, Post, resA, res1, expT, expA, exp1, expM, expL, okT, okA, ok1, rowOf, Tryz.f4]
 ·have hb' : bigW root L t = false := by simpa using hb
  obtain ⟨b1, b2, b3⟩ := bigW_sz hb'
  have hsz : ValSz root L t := valSz_of b1 b2 b3
  obtain ⟨hrz, hro, hLz, hLo, ht, hv⟩ := id hsz
  simp [hb']
  refine hK _ _ _ ?_; clear K' hK
  with_reducible refine aYk (by simp) ?_
  with_reducible refine aR fun K' hK => ?_
  simp
  refine acall_new (own33_ok L hLz.1 hLo) (by first | rfl | (simp; done) | (simp; rfl) | (simp; exact ⟨rfl, rfl⟩)) ?_
  simp [addJ_one]
  refine hK _ _ _ ?_; clear K' hK
  with_reducible refine aR fun K' hK => ?_
  simp
  refine acall_new (own34_ok root hro) (by first | rfl | (simp; done) | (simp; rfl) | (simp; exact ⟨rfl, rfl⟩)) ?_
  simp [addJ_two]
  refine hK _ _ _ ?_; clear K' hK
  have hW := wrong35_ok root L t hsz
  have hO := wrong36_ok root L t hsz
  have hV := valid38_ok root L t hsz
  have hV2 := valid39_ok root L t hsz
  have hfm := wrongR_form root L t
  have hol : (wrongO root L t).length ≤ 1000000000 := Nat.le_trans wrongO_len (by have := (bigT_len b3).1; omega)
  generalize validN root L t = B at *
  generalize wrongO root L t = W at *
  generalize codeV root L t = c at *
  generalize wrongR root L t = RW at *
  refine aw_gen (fun u H nz => u 3 = .ptr 0 0 ∧ u 1 = rowT Man.cells L ∧ u 2 = rowT Pl.cells t ∧ u 7 = .row 1 L.length ∧ u 8 = .ptr 4 0 ∧ nz = 5 ∧ H 0 = some (.var 27 root.cells) ∧ H 1 = some (.row 27 (flat Man.cells L)) ∧ H 2 = some (.row 35 (flat Dep.cells root.deps)) ∧ H 3 = some (.row 96 (flat Ru.cells root.rules)) ∧ H 4 = some (.var 27 (root.cellsR (.row 2 root.deps.length) (.row 3 root.rules.length)))) ?_ ?_
  ·exact ⟨by simp, by simp, by simp, by simp, by simp, by simp, by simp, by simp, by simp, by simp, by simp⟩
  rintro u H nz ⟨u3, u1, u2, u7, u8, rfl, h0, h1, k1, k2, k3⟩
  have hT := manR_trees (show ¬ 3 = 2 by omega) k1 k2
  have c27 : Tryz.prog.cellsOf 27 = 7 := by kernel_rfl
  have c35 : Tryz.prog.cellsOf 35 = 3 := by kernel_rfl
  have c96 : Tryz.prog.cellsOf 96 = 2 := by kernel_rfl
  have T : ∀ X : Hp, (∀ k, k < 5 → X k = H k) → seeA Tryz.prog X (.agg (root.cellsR (.row 2 root.deps.length) (.row 3 root.rules.length))) = some (.agg root.cells) ∧ seeA Tryz.prog X (.row 1 L.length) = some (rowT Man.cells L) := fun X hX =>
   ⟨seeA_man (treeOf_of ((hX 2 (by omega)).trans k1) c35 rfl) (treeOf_of ((hX 3 (by omega)).trans k2) c96 rfl), treeOf_of ((hX 1 (by omega)).trans h1) c27 rfl⟩
  clear hT k1 k2 h1
  refine aw_cut (fun s G nx => s 3 = .ptr 0 0 ∧ s 1 = rowT Man.cells L ∧ s 2 = rowT Pl.cells t ∧ s 7 = .row 1 L.length ∧ s 8 = .ptr 4 0 ∧ 5 ≤ nx ∧ (∀ k, k < 5 → G k = H k) ∧ s 10 = iV c ∧ seeI nx G (s 9) W ∧ nx ≤ 6) ?_ ?_
  ·rcases hfm with ⟨hw0, hfm⟩ | hfm
   ·rw [hfm] at hW
    with_reducible refine aS fun K' hK => ?_
    simp [u1, u2, u3, h0]
    refine acall_new hW (by first | rfl | (simp; done) | (simp; rfl) | (simp; exact ⟨rfl, rfl⟩)) ?_
    simp [addJ_nil]
    refine hK _ _ _ ?_; clear K' hK
    with_reducible refine aw_end ?_
    exact ⟨by simp [u3], by simp [u1], by simp [u2], by simp [u7], by simp [u8], by omega, fun k hk => rfl, by simp, .inl ⟨by simp, hw0⟩, by omega⟩
   ·rw [hfm] at hW
    with_reducible refine aS fun K' hK => ?_
    simp [u1, u2, u3, h0]
    refine acall_new hW (by first | rfl | (simp; done) | (simp; rfl) | (simp; exact ⟨rfl, rfl⟩)) ?_
    simp [addJ_one]
    refine hK _ _ _ ?_; clear K' hK
    with_reducible refine aw_end ?_
    exact ⟨by simp [u3], by simp [u1], by simp [u2], by simp [u7], by simp [u8], by omega, fun k hk => by rw [Hp.upd_ne _ _ (by omega)], by simp, .inr ⟨5, by simp, by omega, by simp⟩, by omega⟩
  rintro s G nx ⟨s3, s1, s2, s7, s8, hnx, hG, s10, hsee, hnx2⟩
  have g0 : G 0 = some (.var 27 root.cells) := by rw [hG 0 (by omega)]; exact h0
  have g4 : G 4 = some (.var 27 (root.cellsR (.row 2 root.deps.length) (.row 3 root.rules.length))) := by rw [hG 4 (by omega)]; exact k3
  have sR : seesA Tryz.prog G [.agg (root.cellsR (.row 2 root.deps.length) (.row 3 root.rules.length)), .row 1 L.length, rowT Pl.cells t] = some [.agg root.cells, rowT Man.cells L, rowT Pl.cells t] := by
   simp only [seesA, (T G hG).1, (T G hG).2]; rfl
  with_reducible refine aR fun K' hK => ?_
  simp [s8, s7, s2, g4]
  refine acall_keep hO ⟨rfl, flatI_J W⟩ sR ?_
  simp [addJ_one]
  refine hK _ _ _ ?_; clear K' hK
  have hsee2 : seeI (nx + 1) (G.upd nx (.row 3 (flat iC W))) (s 9) W := by
   rcases hsee with h | ⟨r, h, hr, h'⟩
   ·exact .inl h
   ·exact .inr ⟨r, h, by omega, by rw [Hp.upd_ne _ _ (by omega)]; exact h'⟩
  refine aw_gen (fun u X nz => u 1 = rowT Man.cells L ∧ u 2 = rowT Pl.cells t ∧ u 3 = .ptr 0 0 ∧ u 7 = .row 1 L.length ∧ u 8 = .ptr 4 0 ∧ u 9 = s 9 ∧ u 10 = iV c ∧ u 11 = .row nx W.length ∧ u 12 = iV c ∧ (∀ k, k < 5 → X k = H k) ∧ X nx = some (.row 3 (flat iC W)) ∧ seeI nz X (u 9) W) ?_ ?_
  ·exact ⟨by simp [s1], by simp [s2], by simp [s3], by simp [s7], by simp [s8], by simp, by simp [s10], by simp, by simp, fun k hk => by rw [Hp.upd_ne _ _ (by omega)]; exact hG k hk, by simp, by simp; exact hsee2⟩
  rintro u X nz ⟨u1, u2, u3, u7, u8, u9, u10, u11, u12, hX, hX2, hs⟩
  obtain ⟨a, hI, sI⟩ := seeI_ok hs hX2 hol
  have g0 : X 0 = some (.var 27 root.cells) := by rw [hX 0 (by omega)]; exact h0
  have g4 : X 4 = some (.var 27 (root.cellsR (.row 2 root.deps.length) (.row 3 root.rules.length))) := by rw [hX 4 (by omega)]; exact k3
  have sR : seesA Tryz.prog X [.agg (root.cellsR (.row 2 root.deps.length) (.row 3 root.rules.length)), .row 1 L.length, rowT Pl.cells t] = some [.agg root.cells, rowT Man.cells L, rowT Pl.cells t] := by
   simp only [seesA, (T X hX).1, (T X hX).2]; rfl
  have sX : seesA Tryz.prog X [rowT Man.cells L, .row 1 L.length] = some [rowT Man.cells L, rowT Man.cells L] := by
   simp only [seesA, (T X hX).2]; rfl
  have sM : seesA Tryz.prog X [.agg root.cells, .agg (root.cellsR (.row 2 root.deps.length) (.row 3 root.rules.length))] = some [.agg root.cells, .agg root.cells] := by
   simp only [seesA, (T X hX).1]; rfl
  with_reducible refine aQ fun K' hK => ?_
  simp [u1, u2, u3, u7, u8, u10, u11, u12, g0, g4]
  refine acall_flat gives26_ok rfl (by simp) ?_
  simp [u1, u2, u3, u7, u8, u10, u11, u12, g0, g4]
  refine acall_flat hI rfl sI ?_
  simp [u1, u2, u3, u7, u8, u10, u11, u12, g0, g4]
  refine acall_flat hV rfl (by first | rfl | (simp; done) | (simp; rfl) | (simp; exact ⟨rfl, rfl⟩)) ?_
  simp [u1, u2, u3, u7, u8, u10, u11, u12, g0, g4]
  refine acall_flat hV2 rfl sR ?_
  simp [u1, u2, u3, u7, u8, u10, u11, u12, g0, g4]
  refine acall_flat (same40_ok L L hLz.1 hLo) rfl sX ?_
  simp [u1, u2, u3, u7, u8, u10, u11, u12, g0, g4]
  refine acall_flat (same27_ok root root hro) rfl sM ?_
  simp
  refine hK _ _ _ ?_; clear K' hK
  with_reducible refine aw_retL ?_
  simp [blockK, loopK, Post, resA, res1, expT, expA, exp1, expM, expL, okT, okA, ok1, rowOf, Tryz.f4]
set_option maxRecDepth 100000
set_option maxHeartbeats 4000000
end Go.Proofs.YtgipehooceecpaaGreatDoorAbs
