/- ValidAre. -/
import Derived.Test.YtgipehooceecpaaGreatDoorS10
namespace Go.Proofs.YtgipehooceecpaaGreatDoorAbs
set_option linter.unusedSimpArgs false
set_option linter.unusedVariables false
open Go Go.RowKit Go.Proofs
set_option maxRecDepth 100000
set_option maxHeartbeats 4000000
def RowM (N : Nat) (G : Hp) (x : AV) (acc : List Man) : Prop := ∃ r, x = .row r acc.length ∧ r < N ∧ G r = some (.row 27 (flat Man.cells acc))
theorem RowM.keep {N N' : Nat} {G G' : Hp} {x : AV} {acc : List Man} (h : RowM N G x acc) (hN : N ≤ N') (hg : ∀ i, i < N → G' i = G i) : RowM N' G' x acc := by
 obtain ⟨r, h1, h2, h3⟩ := h
 exact ⟨r, h1, by omega, by rw [hg r h2]; exact h3⟩
def RowJ (N : Nat) (G : Hp) (x : AV) (acc : List Int) : Prop := (x = .v (.slice none 0 0) ∧ acc = []) ∨ ∃ r, x = .row r acc.length ∧ r < N ∧ G r = some (.row 3 (flat iC acc))
theorem RowJ.keep {N N' : Nat} {G G' : Hp} {x : AV} {acc : List Int} (h : RowJ N G x acc) (hN : N ≤ N') (hg : ∀ i, i < N → G i = some (.row 3 (flat iC acc)) → G' i = G i) : RowJ N' G' x acc := by
 rcases h with h | ⟨r, h1, h2, h3⟩
 ·exact .inl h
 ·exact .inr ⟨r, h1, by omega, by rw [hg r h2 h3]; exact h3⟩
def wrongO (root : Man) (L : List Man) (t : List Pl) : List Int := if codeV root L t = 0 then wrongL root L t else []
set_option maxRecDepth 100000
set_option maxHeartbeats 400000
theorem numP_atoi {l : List UInt8} (h : numOk l = true) : numP l = true ∧ numR l = atoiN l := by
 have hp : numP l = true ∧ l.length ≤ 6 := by
  unfold numOk at h
  simp only [Bool.and_eq_true, decide_eq_true_eq] at h
  exact ⟨h.1, h.2.1⟩
 have h2 := hp.1
 rw [numP_eq] at h2
 simp only [Bool.and_eq_true, Bool.not_eq_true', decide_eq_false_iff_not] at h2
 refine ⟨hp.1, ?_⟩
 rw [numR, if_pos h, atoi_num h2.1 h2.2 (by omega)]
theorem partF_num {l : List UInt8} (h : partF l = true) (hn : numP l = true) : numR l = atoiN l := by
 unfold partF at h
 simp only [Bool.and_eq_true, beq_iff_eq] at h
 rw [hn] at h
 exact (numP_atoi h.2.2.2.symm).2
def partsR (a b : Bs) : Int := if numP (bsL a) = true ∧ numP (bsL b) = true then cmpI (numR (bsL a)) (numR (bsL b)) else if numP (bsL a) = true then -1 else if numP (bsL b) = true then 1 else cmpB a b
theorem partsR_eq {a b : Bs} (ha : partF (bsL a) = true) (hb : partF (bsL b) = true) : partsR a b = partsN a b := by
 unfold partsR partsN
 by_cases h1 : numP (bsL a) = true
 ·by_cases h2 : numP (bsL b) = true
  ·rw [if_pos ⟨h1, h2⟩, if_pos h1, if_pos h2, partF_num ha h1, partF_num hb h2]
  ·rw [if_neg (fun h => h2 h.2), if_pos h1, if_pos h1, if_neg h2]
 ·rw [if_neg (fun h => h1 h.1), if_neg h1, if_neg h1]
set_option maxRecDepth 100000
set_option maxHeartbeats 4000000
theorem order227_ok (a b : Int) : CallsOK Tryz.prog 227 [iV a, iV b] (iV (cmpI a b)) [] := by
 refine callsOK mixed Tryz.call227 Tryz.func227 rfl (by rw [Tryz.ntmps227]; simp) ?_ rfl
 rw [Tryz.ntmps227]
 with_reducible refine aR fun K' hK => ?_
 simp
 refine hK _ _ _ ?_; clear K' hK
 by_cases h1 : a < b
 ·with_reducible refine aA ?_
  with_reducible refine aR fun K' hK => ?_
  simp [h1]
  refine hK _ _ _ ?_; clear K' hK
  with_reducible refine aX (by simp [h1]) ?_
  with_reducible refine aA ?_
  with_reducible refine aR fun K' hK => ?_
  simp
  refine hK _ _ _ ?_; clear K' hK
  with_reducible refine aw_ret ?_
  simp [blockK, loopK, Post, resA, res1, expT, expA, exp1, expM, expL, okT, okA, ok1, rowOf, Tryz.f227]
  simp [cmpI, h1]
 ·with_reducible refine aA ?_
  with_reducible refine aR fun K' hK => ?_
  simp [h1]
  refine hK _ _ _ ?_; clear K' hK
  with_reducible refine aYk (by simp [h1]) ?_
  by_cases h2 : b < a
  ·with_reducible refine aA ?_
   with_reducible refine aR fun K' hK => ?_
   simp [h2]
   refine hK _ _ _ ?_; clear K' hK
   with_reducible refine aX (by simp [h2]) ?_
   with_reducible refine aA ?_
   with_reducible refine aR fun K' hK => ?_
   simp
   refine hK _ _ _ ?_; clear K' hK
   with_reducible refine aw_ret ?_
   simp [blockK, loopK, Post, resA, res1, expT, expA, exp1, expM, expL, okT, okA, ok1, rowOf, Tryz.f227]
   simp [cmpI, h1, h2]
  ·with_reducible refine aA ?_
   with_reducible refine aR fun K' hK => ?_
   simp [h2]
   refine hK _ _ _ ?_; clear K' hK
   with_reducible refine aYk (by simp [h2]) ?_
   with_reducible refine aR fun K' hK => ?_
   simp
   refine hK _ _ _ ?_; clear K' hK
   with_reducible refine aw_retL ?_
   simp [blockK, loopK, Post, resA, res1, expT, expA, exp1, expM, expL, okT, okA, ok1, rowOf, Tryz.f227]
   simp [cmpI, h1, h2]
theorem small228_ok (a b : Bs) : CallsOK Tryz.prog 228 [sV a, sV b] (iV (if a = ⟨#[]⟩ ∧ b = ⟨#[]⟩ then 0 else 1)) [] := by
 refine callsOK mixed Tryz.call228 Tryz.func228 rfl (by rw [Tryz.ntmps228]; simp) ?_ rfl
 rw [Tryz.ntmps228]
 with_reducible refine aR fun K' hK => ?_
 simp
 refine hK _ _ _ ?_; clear K' hK
 by_cases h1 : a = ⟨#[]⟩
 ·by_cases h2 : b = ⟨#[]⟩
  ·with_reducible refine aA ?_
   with_reducible refine aR fun K' hK => ?_
   simp [h1, h2]
   refine hK _ _ _ ?_; clear K' hK
   with_reducible refine aX (by simp) ?_
   with_reducible refine aA ?_
   with_reducible refine aR fun K' hK => ?_
   simp
   refine hK _ _ _ ?_; clear K' hK
   with_reducible refine aw_ret ?_
   simp [blockK, loopK, Post, resA, res1, expT, expA, exp1, expM, expL, okT, okA, ok1, rowOf, Tryz.f228]
   simp [h1, h2]
  ·with_reducible refine aA ?_
   with_reducible refine aR fun K' hK => ?_
   simp [h1, h2]
   refine hK _ _ _ ?_; clear K' hK
   with_reducible refine aYk (by simp) ?_
   with_reducible refine aR fun K' hK => ?_
   simp
   refine hK _ _ _ ?_; clear K' hK
   with_reducible refine aw_retL ?_
   simp [blockK, loopK, Post, resA, res1, expT, expA, exp1, expM, expL, okT, okA, ok1, rowOf, Tryz.f228]
   simp [h1, h2]
 ·with_reducible refine aA ?_
  with_reducible refine aR fun K' hK => ?_
  simp [h1]
  refine hK _ _ _ ?_; clear K' hK
  with_reducible refine aYk (by simp) ?_
  with_reducible refine aR fun K' hK => ?_
  simp
  refine hK _ _ _ ?_; clear K' hK
  with_reducible refine aw_retL ?_
  simp [blockK, loopK, Post, resA, res1, expT, expA, exp1, expM, expL, okT, okA, ok1, rowOf, Tryz.f228]
  simp [h1]
theorem parts229_ok (a b : Bs) (ha : a.size ≤ 4000000000) (hb : b.size ≤ 4000000000) : CallsOK Tryz.prog 229 [sV a, sV b] (iV (partsR a b)) [] := by
 refine callsOK mixed Tryz.call229 Tryz.func229 rfl (by rw [Tryz.ntmps229]; simp) ?_ rfl
 rw [Tryz.ntmps229]
 with_reducible refine aR fun K' hK => ?_
 simp
 refine hK _ _ _ ?_; clear K' hK
 with_reducible refine aA ?_
 with_reducible refine aR fun K' hK => ?_
 simp
 refine acall_flat (digits70_ok a (by omega)) rfl (by simp) ?_
 by_cases na : numP (bsL a) = true
 ·simp [na]
  refine acall_flat (digits70_ok b (by omega)) rfl (by simp) ?_
  by_cases nb : numP (bsL b) = true
  ·simp [nb]
   refine hK _ _ _ ?_; clear K' hK
   with_reducible refine aX (by simp) ?_
   with_reducible refine aA ?_
   with_reducible refine aR fun K' hK => ?_
   simp
   refine acall_flat (number71_ok a (by omega)) rfl (by simp) ?_
   simp
   refine acall_flat (number71_ok b (by omega)) rfl (by simp) ?_
   simp
   refine acall_flat (order227_ok (numR (bsL a)) (numR (bsL b))) rfl (by simp) ?_
   simp
   refine hK _ _ _ ?_; clear K' hK
   with_reducible refine aw_ret ?_
   simp [blockK, loopK, Post, resA, res1, expT, expA, exp1, expM, expL, okT, okA, ok1, rowOf, Tryz.f229]
   simp [partsR, na, nb]
  ·simp [nb]
   refine hK _ _ _ ?_; clear K' hK
   with_reducible refine aYk (by simp) ?_
   with_reducible refine aA ?_
   with_reducible refine aR fun K' hK => ?_
   simp
   refine acall_flat (digits70_ok a (by omega)) rfl (by simp) ?_
   simp [na]
   refine hK _ _ _ ?_; clear K' hK
   with_reducible refine aX (by simp) ?_
   with_reducible refine aA ?_
   with_reducible refine aR fun K' hK => ?_
   simp
   refine hK _ _ _ ?_; clear K' hK
   with_reducible refine aw_ret ?_
   simp [blockK, loopK, Post, resA, res1, expT, expA, exp1, expM, expL, okT, okA, ok1, rowOf, Tryz.f229]
   simp [partsR, na, nb]
 ·simp [na]
  refine hK _ _ _ ?_; clear K' hK
  with_reducible refine aYk (by simp) ?_
  with_reducible refine aA ?_
  with_reducible refine aR fun K' hK => ?_
  simp
  refine acall_flat (digits70_ok a (by omega)) rfl (by simp) ?_
  simp [na]
  refine hK _ _ _ ?_; clear K' hK
  with_reducible refine aYk (by simp) ?_
  with_reducible refine aA ?_
  with_reducible refine aR fun K' hK => ?_
  simp
  refine acall_flat (digits70_ok b (by omega)) rfl (by simp) ?_
  by_cases nb : numP (bsL b) = true
  ·simp [nb]
   refine hK _ _ _ ?_; clear K' hK
   with_reducible refine aX (by simp) ?_
   with_reducible refine aA ?_
   with_reducible refine aR fun K' hK => ?_
   simp
   refine hK _ _ _ ?_; clear K' hK
   with_reducible refine aw_ret ?_
   simp [blockK, loopK, Post, resA, res1, expT, expA, exp1, expM, expL, okT, okA, ok1, rowOf, Tryz.f229]
   simp [partsR, na, nb]
  ·simp [nb]
   refine hK _ _ _ ?_; clear K' hK
   with_reducible refine aYk (by simp) ?_
   by_cases h1 : ltB a b = true
   ·with_reducible refine aA ?_
    with_reducible refine aR fun K' hK => ?_
    simp [h1]
    refine hK _ _ _ ?_; clear K' hK
    with_reducible refine aX (by simp [h1]) ?_
    with_reducible refine aA ?_
    with_reducible refine aR fun K' hK => ?_
    simp
    refine hK _ _ _ ?_; clear K' hK
    with_reducible refine aw_ret ?_
    simp [blockK, loopK, Post, resA, res1, expT, expA, exp1, expM, expL, okT, okA, ok1, rowOf, Tryz.f229]
    simp [partsR, na, nb, cmpB, h1]
   ·with_reducible refine aA ?_
    with_reducible refine aR fun K' hK => ?_
    simp [h1]
    refine hK _ _ _ ?_; clear K' hK
    with_reducible refine aYk (by simp [h1]) ?_
    by_cases h2 : ltB b a = true
    ·with_reducible refine aA ?_
     with_reducible refine aR fun K' hK => ?_
     simp [h2]
     refine hK _ _ _ ?_; clear K' hK
     with_reducible refine aX (by simp [h2]) ?_
     with_reducible refine aA ?_
     with_reducible refine aR fun K' hK => ?_
     simp
     refine hK _ _ _ ?_; clear K' hK
     with_reducible refine aw_ret ?_
     simp [blockK, loopK, Post, resA, res1, expT, expA, exp1, expM, expL, okT, okA, ok1, rowOf, Tryz.f229]
     simp [partsR, na, nb, cmpB, h1, h2]
    ·with_reducible refine aA ?_
     with_reducible refine aR fun K' hK => ?_
     simp [h2]
     refine hK _ _ _ ?_; clear K' hK
     with_reducible refine aYk (by simp [h2]) ?_
     with_reducible refine aR fun K' hK => ?_
     simp
     refine hK _ _ _ ?_; clear K' hK
     with_reducible refine aw_retL ?_
     simp [blockK, loopK, Post, resA, res1, expT, expA, exp1, expM, expL, okT, okA, ok1, rowOf, Tryz.f229]
     simp [partsR, na, nb, cmpB, h1, h2]
theorem okParts {v : Ver} (h : verOk v = true) (hp : v.pre ≠ ⟨#[]⟩) : ∀ b ∈ strs (spl (bsL v.pre)), partF (bsL b) = true := by
 intro b hb
 simp only [verOk, preOk, Bool.and_eq_true, Bool.or_eq_true, decide_eq_true_eq] at h
 rcases h.1 with h1 | h1
 ·exact absurd ((empty_iff _).2 h1) hp
 ·rw [dot_spl, Bool.and_eq_true, List.all_eq_true] at h1
  obtain ⟨l, hl, rfl⟩ := List.mem_map.1 hb
  have : bsL (ofL l) = l := by simp [bsL, ofL]
  rw [this]; exact h1.2 l hl
set_option maxRecDepth 100000
set_option maxHeartbeats 4000000
theorem cmpI_lt {a b : Int} (h : a < b) : cmpI a b = -1 := by unfold cmpI; rw [if_pos h]
theorem cmpI_gt {a b : Int} (h : b < a) : cmpI a b = 1 := by unfold cmpI; rw [if_neg (by omega), if_pos h]
theorem size_pos {a : Bs} (h : ¬ a = ⟨#[]⟩) : 0 < a.size := by
 rcases Nat.eq_zero_or_pos a.size with h2 | h2
 ·exact absurd (ByteArray.size_eq_zero_iff.1 h2) h
 ·exact h2
theorem wrap_0 : IntKind.i64.wrap 0 = 0 := by decide
theorem wrap_1 : IntKind.i64.wrap 1 = 1 := by decide
theorem wrap_m1 : IntKind.i64.wrap (-1) = -1 := by decide
theorem compare192_ok (a b : Ver) (ha : a.pre.size ≤ 1000000) (hb : b.pre.size ≤ 1000000) : CallsOK Tryz.prog 192 [.agg a.cells, .agg b.cells] (iV (comparN a b)) [] := by
 refine callsOK mixed Tryz.call192 Tryz.func192 rfl (by rw [Tryz.ntmps192]; simp) ?_ rfl
 rw [Tryz.ntmps192]
 with_reducible refine aR fun K' hK => ?_
 simp
 refine hK _ _ _ ?_; clear K' hK
 with_reducible refine aA ?_
 with_reducible refine aR fun K' hK => ?_
 simp
 refine acall_flat (right37_ok a (by omega)) rfl (by simp) ?_
 by_cases va : verOk a = true
 ·simp [va]
  refine acall_flat (right37_ok b (by omega)) rfl (by simp) ?_
  by_cases vb : verOk b = true
  ·simp [vb]
   refine hK _ _ _ ?_; clear K' hK
   with_reducible refine aYk (by simp) ?_
   have fin : comparN a b = if coreN a b ≠ 0 ∨ a.pre = b.pre then coreN a b else if a.pre = ⟨#[]⟩ then 1 else if b.pre = ⟨#[]⟩ then -1 else rowsN (strs (spl (bsL a.pre))) (strs (spl (bsL b.pre))) := by rw [comparN, if_pos ⟨va, vb⟩]
   by_cases e1 : a.maj = b.maj
   ·with_reducible refine aA ?_
    with_reducible refine aR fun K' hK => ?_
    simp [e1]
    refine hK _ _ _ ?_; clear K' hK
    with_reducible refine aYk (by simp [e1]) ?_
    by_cases e2 : a.min = b.min
    ·with_reducible refine aA ?_
     with_reducible refine aR fun K' hK => ?_
     simp [e2]
     refine hK _ _ _ ?_; clear K' hK
     with_reducible refine aYk (by simp [e2]) ?_
     by_cases e3 : a.pat = b.pat
     ·with_reducible refine aA ?_
      with_reducible refine aR fun K' hK => ?_
      simp [e3]
      refine hK _ _ _ ?_; clear K' hK
      with_reducible refine aYk (by simp [e3]) ?_
      have hcore : coreN a b = 0 := by simp [coreN, e1, e2, e3, cmpI_self]
      by_cases p1 : a.pre = ⟨#[]⟩
      ·with_reducible refine aA ?_
       with_reducible refine aR fun K' hK => ?_
       simp [p1]
       refine hK _ _ _ ?_; clear K' hK
       with_reducible refine aX (by simp [p1]) ?_
       with_reducible refine aA ?_
       with_reducible refine aQ fun K' hK => ?_
       simp
       refine acall_flat (order227_ok b.pre.size a.pre.size) rfl (by simp) ?_
       simp
       refine acall_flat (small228_ok a.pre b.pre) rfl (by simp) ?_
       by_cases p2 : b.pre = ⟨#[]⟩
       ·have hv : comparN a b = 0 := by rw [fin, if_pos (.inr (by rw [p1, p2])), hcore]
        simp [p1, p2, cmpI_self]
        refine hK _ _ _ ?_; clear K' hK
        with_reducible refine aw_ret ?_
        simp [blockK, loopK, Post, resA, res1, expT, expA, exp1, expM, expL, okT, okA, ok1, rowOf, Tryz.f192]
        simp [hv, wrap_0, wrap_1, wrap_m1]
       ·have hv : comparN a b = 1 := by rw [fin, if_neg (by simp [hcore, p1, Ne.symm p2]), if_pos p1]
        have hs : cmpI b.pre.size a.pre.size = 1 := cmpI_gt (by have := size_pos p2; rw [p1]; show (0 : Int) < _; omega)
        simp [p1, p2]
        rw [p1] at hs
        simp [hs]
        refine hK _ _ _ ?_; clear K' hK
        with_reducible refine aw_ret ?_
        simp [blockK, loopK, Post, resA, res1, expT, expA, exp1, expM, expL, okT, okA, ok1, rowOf, Tryz.f192]
        simp [hv, wrap_0, wrap_1, wrap_m1]
      ·by_cases p2 : b.pre = ⟨#[]⟩
       ·with_reducible refine aA ?_
        with_reducible refine aR fun K' hK => ?_
        simp [p1, p2]
        refine hK _ _ _ ?_; clear K' hK
        with_reducible refine aX (by simp [p1, p2]) ?_
        with_reducible refine aA ?_
        with_reducible refine aQ fun K' hK => ?_
        simp
        refine acall_flat (order227_ok b.pre.size a.pre.size) rfl (by simp) ?_
        simp
        refine acall_flat (small228_ok a.pre b.pre) rfl (by simp) ?_
        have hv : comparN a b = -1 := by rw [fin, if_neg (by simp [hcore, p1, p2]), if_neg p1, if_pos p2]
        have hs : cmpI b.pre.size a.pre.size = -1 := cmpI_lt (by have := size_pos p1; rw [p2]; show (0 : Int) < _; omega)
        simp [p1, p2]
        rw [p2] at hs
        simp [hs]
        refine hK _ _ _ ?_; clear K' hK
        with_reducible refine aw_ret ?_
        simp [blockK, loopK, Post, resA, res1, expT, expA, exp1, expM, expL, okT, okA, ok1, rowOf, Tryz.f192]
        simp [hv, wrap_0, wrap_1, wrap_m1]
       ·with_reducible refine aA ?_
        with_reducible refine aR fun K' hK => ?_
        simp [p1, p2]
        refine hK _ _ _ ?_; clear K' hK
        with_reducible refine aYk (by simp [p1, p2]) ?_
        with_reducible refine aR fun K' hK => ?_
        simp
        refine acall_new (cut58_ok a.pre (by omega)) (by simp) ?_
        simp [addJ_one]
        refine hK _ _ _ ?_; clear K' hK
        with_reducible refine aR fun K' hK => ?_
        simp
        refine acall_new (cut58_ok b.pre (by omega)) (by simp) ?_
        simp [addJ_one]
        refine hK _ _ _ ?_; clear K' hK
        with_reducible refine aA ?_
        with_reducible refine aR fun K' hK => ?_
        simp
        refine hK _ _ _ ?_; clear K' hK
        have hpa := okParts va p1
        have hpb := okParts vb p2
        have hla := strs_le a.pre
        have hlb := strs_le b.pre
        have hsa : ∀ x ∈ strs (spl (bsL a.pre)), x.size ≤ 4000000000 := fun x hx => by have := strs_size hx; omega
        have hsb : ∀ x ∈ strs (spl (bsL b.pre)), x.size ≤ 4000000000 := fun x hx => by have := strs_size hx; omega
        have hv : comparN a b = rowsN (strs (spl (bsL a.pre))) (strs (spl (bsL b.pre))) := by
         rw [fin]
         by_cases p3 : a.pre = b.pre
         ·rw [if_pos (.inr p3), hcore, p3, rowsN_self]
         ·rw [if_neg (by simp [hcore, p3]), if_neg p1, if_neg p2]
        generalize strs (spl (bsL a.pre)) = x at *
        generalize strs (spl (bsL b.pre)) = y at *
        rw [hv]
        with_reducible refine aw_block ?_
        refine aw_loop (fun s G nx => s 5 = .row 2 x.length ∧ s 6 = .row 3 y.length ∧ G 2 = some (.row 9 (flat sC x)) ∧ G 3 = some (.row 9 (flat sC y)) ∧ ∃ i : Nat, s 7 = iV i ∧ i ≤ x.length ∧ i ≤ y.length ∧ rowsN x y = rowsN (x.drop i) (y.drop i)) (fun s _ _ => match s 7 with | .v (.int _ n) => x.length - n.toNat | _ => 0) ?_ ?_
        ·exact ⟨by simp, by simp, by simp, by simp, 0, by simp, by omega, by omega, by simp⟩
        ·rintro s G nx hf ⟨s5, s6, g2, g3, i, s7, hi, hj, ht⟩
         have hw : IntKind.i64.wrap (↑i + 1) = ((i + 1 : Nat) : Int) := wrapS (by omega)
         by_cases hi2 : i < x.length
         ·by_cases hj2 : i < y.length
          ·with_reducible refine aA ?_
           with_reducible refine aR fun K' hK => ?_
           simp [s5, s6, s7, g2, g3, hi2, hj2]
           refine hK _ _ _ ?_; clear K' hK
           with_reducible refine aXk (by simp [hi2, hj2]) ?_
           have hstep := rowsN_drop hi2 hj2
           have e : partsR (nth x i) (nth y i) = partsN (nth x i) (nth y i) := partsR_eq (hpa _ (nth_mem hi2)) (hpb _ (nth_mem hj2))
           have h1 := hsa _ (nth_mem hi2)
           have h2 := hsb _ (nth_mem hj2)
           with_reducible refine aw_block ?_
           with_reducible refine aQ fun K' hK => ?_
           simp [s5, s6, s7, g2, g3, hi2, hj2]
           refine acall_flat (parts229_ok (nth x i) (nth y i) h1 h2) rfl (by simp) ?_
           simp
           refine hK _ _ _ ?_; clear K' hK
           rw [e]
           by_cases h0 : partsN (nth x i) (nth y i) = 0
           ·skip
            with_reducible refine aR fun K' hK => ?_
            simp [h0]
            refine hK _ _ _ ?_; clear K' hK
            with_reducible refine aVk (by simp [h0]) ?_
            with_reducible refine aw_skipL ?_
            refine blockK_normal ?_
            with_reducible refine aS fun K' hK => ?_
            simp [s7, hw]
            refine hK _ _ _ ?_; clear K' hK
            refine aw_skipL (loopK_normal ?_ ?_)
            ·exact ⟨by simp [s5], by simp [s6], by simp [g2], by simp [g3], i + 1, by simp [hw], by omega, by omega, by rw [ht, hstep, if_pos h0]⟩
            ·simp [s7, hw]; omega
           ·skip
            with_reducible refine aR fun K' hK => ?_
            simp [h0]
            refine hK _ _ _ ?_; clear K' hK
            with_reducible refine aU (by simp [h0]) ?_
            with_reducible refine aA ?_
            with_reducible refine aR fun K' hK => ?_
            simp
            refine hK _ _ _ ?_; clear K' hK
            with_reducible refine aw_ret ?_
            simp [blockK, loopK, Post, resA, res1, expT, expA, exp1, expM, expL, okT, okA, ok1, rowOf, Tryz.f192]
            rw [ht, hstep, if_neg h0]
          ·have : y.length = i := by omega
           with_reducible refine aA ?_
           with_reducible refine aR fun K' hK => ?_
           simp [s5, s6, s7, g2, g3, hi2, hj2]
           refine hK _ _ _ ?_; clear K' hK
           with_reducible refine aY (by simp [hi2, hj2]) ?_
           with_reducible refine aw_exit ?_
           refine loopK_exit (blockK_exit ?_)
           with_reducible refine aR fun K' hK => ?_
           simp [s5, s6, g2, g3]
           refine acall_flat (order227_ok x.length y.length) rfl (by simp) ?_
           simp
           refine hK _ _ _ ?_; clear K' hK
           with_reducible refine aw_retL ?_
           simp [blockK, loopK, Post, resA, res1, expT, expA, exp1, expM, expL, okT, okA, ok1, rowOf, Tryz.f192]
           rw [ht, rowsN_end (by omega)]
         ·with_reducible refine aA ?_
          with_reducible refine aR fun K' hK => ?_
          simp [s5, s6, s7, g2, g3, hi2]
          refine hK _ _ _ ?_; clear K' hK
          with_reducible refine aY (by simp [hi2]) ?_
          with_reducible refine aw_exit ?_
          refine loopK_exit (blockK_exit ?_)
          with_reducible refine aR fun K' hK => ?_
          simp [s5, s6, g2, g3]
          refine acall_flat (order227_ok x.length y.length) rfl (by simp) ?_
          simp
          refine hK _ _ _ ?_; clear K' hK
          with_reducible refine aw_retL ?_
          simp [blockK, loopK, Post, resA, res1, expT, expA, exp1, expM, expL, okT, okA, ok1, rowOf, Tryz.f192]
          rw [ht, rowsN_end (by omega)]
     ·with_reducible refine aA ?_
      with_reducible refine aR fun K' hK => ?_
      simp [e3]
      refine hK _ _ _ ?_; clear K' hK
      with_reducible refine aX (by simp [e3]) ?_
      with_reducible refine aA ?_
      with_reducible refine aR fun K' hK => ?_
      simp
      refine acall_flat (order227_ok a.pat b.pat) rfl (by simp) ?_
      simp
      refine hK _ _ _ ?_; clear K' hK
      with_reducible refine aw_ret ?_
      simp [blockK, loopK, Post, resA, res1, expT, expA, exp1, expM, expL, okT, okA, ok1, rowOf, Tryz.f192]
      have : coreN a b = cmpI a.pat b.pat := by simp [coreN, e1, e2, cmpI_self]
      rw [fin, if_pos (.inl (by rw [this]; exact fun h => e3 (cmpI_zero.1 h))), this]
    ·with_reducible refine aA ?_
     with_reducible refine aR fun K' hK => ?_
     simp [e2]
     refine hK _ _ _ ?_; clear K' hK
     with_reducible refine aX (by simp [e2]) ?_
     with_reducible refine aA ?_
     with_reducible refine aR fun K' hK => ?_
     simp
     refine acall_flat (order227_ok a.min b.min) rfl (by simp) ?_
     simp
     refine hK _ _ _ ?_; clear K' hK
     with_reducible refine aw_ret ?_
     simp [blockK, loopK, Post, resA, res1, expT, expA, exp1, expM, expL, okT, okA, ok1, rowOf, Tryz.f192]
     have h0 : cmpI a.min b.min ≠ 0 := fun h => e2 (cmpI_zero.1 h)
     have : coreN a b = cmpI a.min b.min := by simp [coreN, e1, cmpI_self, h0]
     rw [fin, if_pos (.inl (by rw [this]; exact h0)), this]
   ·with_reducible refine aA ?_
    with_reducible refine aR fun K' hK => ?_
    simp [e1]
    refine hK _ _ _ ?_; clear K' hK
    with_reducible refine aX (by simp [e1]) ?_
    with_reducible refine aA ?_
    with_reducible refine aR fun K' hK => ?_
    simp
    refine acall_flat (order227_ok a.maj b.maj) rfl (by simp) ?_
    simp
    refine hK _ _ _ ?_; clear K' hK
    with_reducible refine aw_ret ?_
    simp [blockK, loopK, Post, resA, res1, expT, expA, exp1, expM, expL, okT, okA, ok1, rowOf, Tryz.f192]
    have h0 : cmpI a.maj b.maj ≠ 0 := fun h => e1 (cmpI_zero.1 h)
    have : coreN a b = cmpI a.maj b.maj := by simp [coreN, h0]
    rw [fin, if_pos (.inl (by rw [this]; exact h0)), this]
  ·simp [vb]
   refine hK _ _ _ ?_; clear K' hK
   with_reducible refine aX (by simp) ?_
   with_reducible refine aA ?_
   with_reducible refine aR fun K' hK => ?_
   simp
   refine hK _ _ _ ?_; clear K' hK
   with_reducible refine aw_ret ?_
   simp [blockK, loopK, Post, resA, res1, expT, expA, exp1, expM, expL, okT, okA, ok1, rowOf, Tryz.f192]
   simp [comparN, vb]
 ·simp [va]
  refine hK _ _ _ ?_; clear K' hK
  with_reducible refine aX (by simp) ?_
  with_reducible refine aA ?_
  with_reducible refine aR fun K' hK => ?_
  simp
  refine hK _ _ _ ?_; clear K' hK
  with_reducible refine aw_ret ?_
  simp [blockK, loopK, Post, resA, res1, expT, expA, exp1, expM, expL, okT, okA, ok1, rowOf, Tryz.f192]
  simp [comparN, va]
set_option maxRecDepth 100000
set_option maxHeartbeats 4000000
theorem bound155_ok (b : Bd) (v : Ver) (hb : b.ver.pre.size ≤ 1000000) (hv : v.pre.size ≤ 1000000) : CallsOK Tryz.prog 155 [.agg b.cells, .agg v.cells] (bV (holdB v b)) [] := by
 refine callsOK mixed Tryz.call155 Tryz.func155 rfl (by rw [Tryz.ntmps155]; simp) ?_ rfl
 rw [Tryz.ntmps155]
 with_reducible refine aR fun K' hK => ?_
 simp
 refine hK _ _ _ ?_; clear K' hK
 with_reducible refine aR fun K' hK => ?_
 simp
 refine acall_flat (compare192_ok v b.ver hv hb) rfl (by simp) ?_
 simp
 refine hK _ _ _ ?_; clear K' hK
 with_reducible refine aA ?_
 with_reducible refine aR fun K' hK => ?_
 simp
 refine hK _ _ _ ?_; clear K' hK
 have hd : holdB v b = opN b.op (comparN v b.ver) := rfl
 generalize comparN v b.ver = c at *
 with_reducible refine aw_block ?_
 by_cases h1 : b.op = 1
 ·skip
  with_reducible refine aR fun K' hK => ?_
  simp [h1]
  refine hK _ _ _ ?_; clear K' hK
  with_reducible refine aU (by simp [h1]) ?_
  with_reducible refine aA ?_
  with_reducible refine aR fun K' hK => ?_
  simp
  refine hK _ _ _ ?_; clear K' hK
  with_reducible refine aw_ret ?_
  simp [blockK, loopK, Post, resA, res1, expT, expA, exp1, expM, expL, okT, okA, ok1, rowOf, Tryz.f155]
  simp [hd, opN, h1]
 ·skip
  with_reducible refine aR fun K' hK => ?_
  simp [h1]
  refine hK _ _ _ ?_; clear K' hK
  with_reducible refine aV (by simp [h1]) ?_
  by_cases h2 : b.op = 2
  ·with_reducible refine aA ?_
   with_reducible refine aR fun K' hK => ?_
   simp [h2]
   refine hK _ _ _ ?_; clear K' hK
   with_reducible refine aX (by simp [h2]) ?_
   with_reducible refine aA ?_
   with_reducible refine aR fun K' hK => ?_
   simp
   refine hK _ _ _ ?_; clear K' hK
   with_reducible refine aw_ret ?_
   simp [blockK, loopK, Post, resA, res1, expT, expA, exp1, expM, expL, okT, okA, ok1, rowOf, Tryz.f155]
   simp [hd, opN, h2]
  ·with_reducible refine aA ?_
   with_reducible refine aR fun K' hK => ?_
   simp [h2]
   refine hK _ _ _ ?_; clear K' hK
   with_reducible refine aY (by simp [h2]) ?_
   by_cases h3 : b.op = 3
   ·with_reducible refine aA ?_
    with_reducible refine aR fun K' hK => ?_
    simp [h3]
    refine hK _ _ _ ?_; clear K' hK
    with_reducible refine aX (by simp [h3]) ?_
    with_reducible refine aA ?_
    with_reducible refine aR fun K' hK => ?_
    simp
    refine hK _ _ _ ?_; clear K' hK
    with_reducible refine aw_ret ?_
    simp [blockK, loopK, Post, resA, res1, expT, expA, exp1, expM, expL, okT, okA, ok1, rowOf, Tryz.f155]
    simp [hd, opN, h3]
   ·with_reducible refine aA ?_
    with_reducible refine aR fun K' hK => ?_
    simp [h3]
    refine hK _ _ _ ?_; clear K' hK
    with_reducible refine aY (by simp [h3]) ?_
    by_cases h4 : b.op = 4
    ·with_reducible refine aA ?_
     with_reducible refine aR fun K' hK => ?_
     simp [h4]
     refine hK _ _ _ ?_; clear K' hK
     with_reducible refine aX (by simp [h4]) ?_
     with_reducible refine aA ?_
     with_reducible refine aR fun K' hK => ?_
     simp
     refine hK _ _ _ ?_; clear K' hK
     with_reducible refine aw_ret ?_
     simp [blockK, loopK, Post, resA, res1, expT, expA, exp1, expM, expL, okT, okA, ok1, rowOf, Tryz.f155]
     simp [hd, opN, h4]
    ·with_reducible refine aA ?_
     with_reducible refine aR fun K' hK => ?_
     simp [h4]
     refine hK _ _ _ ?_; clear K' hK
     with_reducible refine aYk (by simp [h4]) ?_
     with_reducible refine aw_skipL ?_
     refine blockK_normal ?_
     with_reducible refine aR fun K' hK => ?_
     simp
     refine hK _ _ _ ?_; clear K' hK
     with_reducible refine aw_retL ?_
     simp [blockK, loopK, Post, resA, res1, expT, expA, exp1, expM, expL, okT, okA, ok1, rowOf, Tryz.f155]
     simp [hd, opN, h1, h2, h3, h4]
theorem near_eq (v : Ver) (b : Bd) : nearB v b = (decide (b.ver.pre ≠ ⟨#[]⟩) && (decide (b.ver.maj = v.maj) && (decide (b.ver.min = v.min) && decide (b.ver.pat = v.pat)))) := by
 rw [Bool.eq_iff_iff]
 unfold nearB
 cases v with | mk a c d e => simp
theorem lets102_ok (l : Alt) (v : Ver) (hl : Alt.sz l) (hv : v.pre.size ≤ 1000000) : CallsOK Tryz.prog 102 [rowT Bd.cells l, .agg v.cells] (bV (altHolds v l)) [] := by
 refine callsOK mixed Tryz.call102 Tryz.func102 rfl (by rw [Tryz.ntmps102]; simp) ?_ rfl
 rw [Tryz.ntmps102]
 have hll := hl.1
 with_reducible refine aR fun K' hK => ?_
 simp
 refine hK _ _ _ ?_; clear K' hK
 with_reducible refine aR fun K' hK => ?_
 simp
 refine hK _ _ _ ?_; clear K' hK
 with_reducible refine aA ?_
 with_reducible refine aR fun K' hK => ?_
 simp
 refine hK _ _ _ ?_; clear K' hK
 with_reducible refine aw_block ?_
 refine aw_loop (fun s G nx => G 0 = some (.var 23 v.cells) ∧ s 3 = .ptr 0 0 ∧ s 0 = rowT Bd.cells l ∧ ∃ j : Nat, s 6 = iV j ∧ j ≤ l.length ∧ s 5 = bV (decide (v.pre = ⟨#[]⟩) || (l.take j).any (nearB v)) ∧ (l.take j).all (holdB v) = true) (fun s _ _ => match s 6 with | .v (.int _ n) => l.length - n.toNat | _ => 0) ?_ ?_
 ·exact ⟨by simp, by simp, by simp, 0, by simp, by omega, by simp, by simp⟩
 ·rintro s G nx hf ⟨g0, s3, s0, j, s6, hj, s5, hjt⟩
  have n0 : ¬ 0 = nx := by have := fresh_lt hf g0; omega
  have hwj : IntKind.i64.wrap (↑j + 1) = ((j + 1 : Nat) : Int) := wrapS (by omega)
  with_reducible refine aA ?_
  with_reducible refine aR fun K' hK => ?_
  simp [s0, s6]
  refine hK _ _ _ ?_; clear K' hK
  with_reducible refine aC fun A B hA hB => ?_
  simp
  refine ⟨fun hj2 => hA ?_, fun hj2 => hB ?_⟩ <;> clear hA hB A B <;> (try simp at hj2) <;> (try with_reducible refine aK ?_)
  ·have hjstep := all_take1 (p := holdB v) hj2
   have hnstep := any_take1 (p := nearB v) hj2
   have hjfalse : holdB v (nth l j) = false → altHolds v l = false := fun h => by rw [altHolds, all_false hj2 h]; rfl
   have hbz := hl.2 _ (nth_mem hj2)
   have hnear := near_eq v (nth l j)
   generalize hgb : nth l j = b at *
   with_reducible refine aw_block ?_
   with_reducible refine aR fun K' hK => ?_
   simp [s0, s6, hj2, hgb]
   refine hK _ _ _ ?_; clear K' hK
   with_reducible refine aA ?_
   with_reducible refine aQ fun K' hK => ?_
   simp [s0, s6, s3, g0, n0, hj2, hgb]
   refine acall_flat (bound155_ok b v hbz hv) rfl (by simp) ?_
   simp
   refine hK _ _ _ ?_; clear K' hK
   by_cases c3 : holdB v b = true
   ·skip
    with_reducible refine aYk (by simp [c3]) ?_
    generalize hnb : (decide (v.pre = ⟨#[]⟩) || (l.take j).any (nearB v)) = nb at *
    have fin : bV (nb || nearB v b) = bV (decide (v.pre = ⟨#[]⟩) || (l.take (j + 1)).any (nearB v)) := by rw [hnstep, ← Bool.or_assoc, hnb]
    refine aw_toS (aw_cut (fun s G nx => G 0 = some (.var 23 v.cells) ∧ s 3 = .ptr 0 0 ∧ s 0 = rowT Bd.cells l ∧ s 6 = iV j ∧ s 5 = bV (nb || nearB v b)) ?_ ?_)
    ·rw [hnear]
     cases nb with
     | true =>
      with_reducible refine aS fun K' hK => ?_
      simp [s5]
      refine hK _ _ _ ?_; clear K' hK
      with_reducible refine aw_end ?_
      simp [s3, s0, s6, g0, n0]
     | false =>
      by_cases w0 : b.ver.pre = ⟨#[]⟩
      ·skip
       with_reducible refine aS fun K' hK => ?_
       simp [s5, w0]
       refine hK _ _ _ ?_; clear K' hK
       with_reducible refine aw_end ?_
       simp [s3, s0, s6, g0, n0, w0]
      ·by_cases w1 : b.ver.maj = v.maj
       ·by_cases w2 : b.ver.min = v.min
        ·skip
         with_reducible refine aS fun K' hK => ?_
         simp [s5, w0, w1, w2, s3, g0, n0]
         refine hK _ _ _ ?_; clear K' hK
         with_reducible refine aw_end ?_
         simp [s3, s0, s6, g0, n0, w0, w1, w2]
        ·skip
         with_reducible refine aS fun K' hK => ?_
         simp [s5, w0, w1, w2, s3, g0, n0]
         refine hK _ _ _ ?_; clear K' hK
         with_reducible refine aw_end ?_
         simp [s3, s0, s6, g0, n0, w0, w1, w2]
       ·skip
        with_reducible refine aS fun K' hK => ?_
        simp [s5, w0, w1, s3, g0, n0]
        refine hK _ _ _ ?_; clear K' hK
        with_reducible refine aw_end ?_
        simp [s3, s0, s6, g0, n0, w0, w1]
    ·clear s3 s0 g0 s5 hf n0
     rintro s1 G1 nx1 ⟨g0, s3, s0, s6, s5⟩
     with_reducible refine aw_skipL ?_
     refine blockK_normal ?_
     with_reducible refine aS fun K' hK => ?_
     simp [s6, hwj]
     refine hK _ _ _ ?_; clear K' hK
     refine aw_skipL (loopK_normal ?_ ?_)
     ·exact ⟨by simp [g0], by simp [s3], by simp [s0], j + 1, by simp [hwj], by omega, by simp [s5]; simpa using fin, by rw [hjstep, hjt, c3]; rfl⟩
     ·simp [*]; omega
   ·skip
    with_reducible refine aX (by simp [c3]) ?_
    with_reducible refine aA ?_
    with_reducible refine aR fun K' hK => ?_
    simp
    refine hK _ _ _ ?_; clear K' hK
    with_reducible refine aw_ret ?_
    simp [blockK, loopK, Post, resA, res1, expT, expA, exp1, expM, expL, okT, okA, ok1, rowOf, Tryz.f102]
    rw [hjfalse (by simpa using c3)]
  ·skip
   with_reducible refine aw_exit ?_
   refine loopK_exit (blockK_exit ?_)
   rw [List.take_of_length_le (by omega)] at hjt s5
   have hah : altHolds v l = (decide (v.pre = ⟨#[]⟩) || l.any (nearB v)) := by rw [altHolds, hjt]; rfl
   rw [← hah] at s5
   with_reducible refine aR fun K' hK => ?_
   simp [s5]
   refine hK _ _ _ ?_; clear K' hK
   with_reducible refine aw_retL ?_
   simp [blockK, loopK, Post, resA, res1, expT, expA, exp1, expM, expL, okT, okA, ok1, rowOf, Tryz.f102]
theorem right100_ok (r : Rg) (hr : Rg.sz r) : CallsOK Tryz.prog 100 [.agg r.cells] (bV (rgOk r)) [] := by
 refine callsOK mixed Tryz.call100 Tryz.func100 rfl (by rw [Tryz.ntmps100]; simp) ?_ rfl
 rw [Tryz.ntmps100]
 have hl := hr.1
 with_reducible refine aR fun K' hK => ?_
 simp
 refine hK _ _ _ ?_; clear K' hK
 by_cases z1 : r.length < 1
 ·have z1' : (r.length : Int) < 1 := by omega
  with_reducible refine aA ?_
  with_reducible refine aR fun K' hK => ?_
  simp [Rg.cells, z1, z1']
  refine hK _ _ _ ?_; clear K' hK
  with_reducible refine aX (by simp) ?_
  with_reducible refine aA ?_
  with_reducible refine aR fun K' hK => ?_
  simp
  refine hK _ _ _ ?_; clear K' hK
  with_reducible refine aw_ret ?_
  simp [blockK, loopK, Post, resA, res1, expT, expA, exp1, expM, expL, okT, okA, ok1, rowOf, Tryz.f100]
  have : ¬ 1 ≤ r.length := by omega
  simp [rgOk, this]
 ·have z1' : ¬ (r.length : Int) < 1 := by omega
  by_cases z2 : 8 < r.length
  ·have z2' : (8 : Int) < r.length := by omega
   with_reducible refine aA ?_
   with_reducible refine aR fun K' hK => ?_
   simp [Rg.cells, z1, z1', z2, z2']
   refine hK _ _ _ ?_; clear K' hK
   with_reducible refine aX (by simp) ?_
   with_reducible refine aA ?_
   with_reducible refine aR fun K' hK => ?_
   simp
   refine hK _ _ _ ?_; clear K' hK
   with_reducible refine aw_ret ?_
   simp [blockK, loopK, Post, resA, res1, expT, expA, exp1, expM, expL, okT, okA, ok1, rowOf, Tryz.f100]
   have : ¬ r.length ≤ 8 := by omega
   simp [rgOk, this]
  ·have z2' : ¬ (8 : Int) < r.length := by omega
   with_reducible refine aA ?_
   with_reducible refine aR fun K' hK => ?_
   simp [Rg.cells, z1, z1', z2, z2']
   refine hK _ _ _ ?_; clear K' hK
   with_reducible refine aYk (by simp) ?_
   with_reducible refine aA ?_
   with_reducible refine aR fun K' hK => ?_
   simp
   refine hK _ _ _ ?_; clear K' hK
   with_reducible refine aw_block ?_
   refine aw_loop (fun s G nx => G 0 = some (.var 33 [rowT Alt.cells r]) ∧ s 1 = .ptr 0 0 ∧ ∃ i : Nat, s 3 = iV i ∧ i ≤ r.length ∧ (r.take i).all altOk = true) (fun s _ _ => match s 3 with | .v (.int _ n) => r.length - n.toNat | _ => 0) ?_ ?_
   ·exact ⟨by simp [Rg.cells], by simp, 0, by simp, by omega, by simp⟩
   ·rintro s G nx hf ⟨g0, s1, i, s3, hi, ht⟩
    have o3 := s3
    have n0 : ¬ 0 = nx := by have := fresh_lt hf g0; omega
    have hw : IntKind.i64.wrap (↑i + 1) = ((i + 1 : Nat) : Int) := wrapS (by omega)
    with_reducible refine aA ?_
    with_reducible refine aR fun K' hK => ?_
    simp [s1, s3, g0]
    refine hK _ _ _ ?_; clear K' hK
    with_reducible refine aC fun A B hA hB => ?_
    simp
    refine ⟨fun hi2 => hA ?_, fun hi2 => hB ?_⟩ <;> clear hA hB A B <;> (try simp at hi2) <;> (try with_reducible refine aK ?_)
    ·have hstep := all_take1 (p := altOk) hi2
     have hA := hr.2 _ (nth_mem hi2)
     have hfalse : altOk (nth r i) = false → rgOk r = false := fun h => by rw [rgOk, all_false hi2 h]; rfl
     generalize hgl : nth r i = l at *
     have hAl := hA.1
     with_reducible refine aw_block ?_
     by_cases k8 : 8 < l.length
     ·have k8' : (8 : Int) < l.length := by omega
      with_reducible refine aA ?_
      with_reducible refine aR fun K' hK => ?_
      simp [s1, s3, g0, hi2, hgl, k8, k8']
      refine hK _ _ _ ?_; clear K' hK
      with_reducible refine aX (by simp) ?_
      with_reducible refine aA ?_
      with_reducible refine aR fun K' hK => ?_
      simp
      refine hK _ _ _ ?_; clear K' hK
      with_reducible refine aw_ret ?_
      simp [blockK, loopK, Post, resA, res1, expT, expA, exp1, expM, expL, okT, okA, ok1, rowOf, Tryz.f100]
      have : altOk l = false := by
       have : ¬ l.length ≤ 8 := by omega
       simp [altOk, this]
      rw [hfalse this]
     ·have k8' : ¬ (8 : Int) < l.length := by omega
      with_reducible refine aA ?_
      with_reducible refine aR fun K' hK => ?_
      simp [s1, s3, g0, hi2, hgl, k8, k8']
      refine hK _ _ _ ?_; clear K' hK
      with_reducible refine aYk (by simp) ?_
      with_reducible refine aR fun K' hK => ?_
      simp
      refine hK _ _ _ ?_; clear K' hK
      with_reducible refine aw_toS (aw_block ?_)
      refine aw_loop (fun s G nx => G 0 = some (.var 33 [rowT Alt.cells r]) ∧ s 1 = .ptr 0 0 ∧ s 3 = iV i ∧ ∃ j : Nat, s 4 = iV j ∧ j ≤ l.length ∧ (l.take j).all bdOk = true) (fun s _ _ => match s 4 with | .v (.int _ n) => l.length - n.toNat | _ => 0) ?_ ?_
      ·exact ⟨by simp [g0], by simp [s1], by simp [s3], 0, by simp, by omega, by simp⟩
      ·clear s1 s3 g0 hf n0
       rintro s G nx hf ⟨g0, s1, s3, j, s4, hj, hjt⟩
       have n0 : ¬ 0 = nx := by have := fresh_lt hf g0; omega
       have hwj : IntKind.i64.wrap (↑j + 1) = ((j + 1 : Nat) : Int) := wrapS (by omega)
       with_reducible refine aA ?_
       with_reducible refine aR fun K' hK => ?_
       simp [s1, s3, s4, g0, hi2, hgl]
       refine hK _ _ _ ?_; clear K' hK
       with_reducible refine aC fun A B hA hB => ?_
       simp
       refine ⟨fun hj2 => hA ?_, fun hj2 => hB ?_⟩ <;> clear hA hB A B <;> (try simp at hj2) <;> (try with_reducible refine aK ?_)
       ·have hjstep := all_take1 (p := bdOk) hj2
        have hjfalse : bdOk (nth l j) = false → rgOk r = false := fun h => hfalse (by rw [altOk, all_false hj2 h]; rfl)
        have hbz := hA.2 _ (nth_mem hj2)
        have hbd : bdOk (nth l j) = (verOk (nth l j).ver && (decide (1 ≤ (nth l j).op) && decide ((nth l j).op ≤ 5))) := rfl
        generalize hgb : nth l j = b at *
        with_reducible refine aw_block ?_
        with_reducible refine aR fun K' hK => ?_
        simp [s1, s3, s4, g0, hi2, hgl, hj2, hgb]
        refine hK _ _ _ ?_; clear K' hK
        by_cases b1 : b.op < 1
        ·skip
         with_reducible refine aR fun K' hK => ?_
         simp [b1]
         refine hK _ _ _ ?_; clear K' hK
         with_reducible refine aU (by simp) ?_
         with_reducible refine aA ?_
         with_reducible refine aR fun K' hK => ?_
         simp
         refine hK _ _ _ ?_; clear K' hK
         with_reducible refine aw_ret ?_
         simp [blockK, loopK, Post, resA, res1, expT, expA, exp1, expM, expL, okT, okA, ok1, rowOf, Tryz.f100]
         have : ¬ 1 ≤ b.op := by omega
         rw [hjfalse (by simp [hbd, this])]
        ·by_cases b2 : 5 < b.op
         ·skip
          with_reducible refine aR fun K' hK => ?_
          simp [b1, b2]
          refine hK _ _ _ ?_; clear K' hK
          with_reducible refine aU (by simp) ?_
          with_reducible refine aA ?_
          with_reducible refine aR fun K' hK => ?_
          simp
          refine hK _ _ _ ?_; clear K' hK
          with_reducible refine aw_ret ?_
          simp [blockK, loopK, Post, resA, res1, expT, expA, exp1, expM, expL, okT, okA, ok1, rowOf, Tryz.f100]
          have : ¬ b.op ≤ 5 := by omega
          rw [hjfalse (by simp [hbd, this])]
         ·skip
          with_reducible refine aR fun K' hK => ?_
          simp [b1, b2]
          refine acall_flat (right37_ok b.ver (by omega)) rfl (by simp) ?_
          simp
          refine hK _ _ _ ?_; clear K' hK
          by_cases c3 : verOk b.ver = true
          ·skip
           with_reducible refine aVk (by simp [c3]) ?_
           with_reducible refine aw_skipL ?_
           refine blockK_normal ?_
           with_reducible refine aS fun K' hK => ?_
           simp [s4, hwj]
           refine hK _ _ _ ?_; clear K' hK
           refine aw_skipL (loopK_normal ?_ ?_)
           ·exact ⟨by simp [g0, n0], by simp [s1], by simp [s3], j + 1, by simp [hwj], by omega, by
             rw [hjstep, hjt, hbd, c3]
             simp; omega⟩
           ·simp [s4, hwj]; omega
          ·skip
           with_reducible refine aU (by simp [c3]) ?_
           with_reducible refine aA ?_
           with_reducible refine aR fun K' hK => ?_
           simp
           refine hK _ _ _ ?_; clear K' hK
           with_reducible refine aw_ret ?_
           simp [blockK, loopK, Post, resA, res1, expT, expA, exp1, expM, expL, okT, okA, ok1, rowOf, Tryz.f100]
           rw [hjfalse (by simp [hbd, c3])]
       ·skip
        with_reducible refine aw_exit ?_
        refine loopK_exit (blockK_exit ?_)
        rw [List.take_of_length_le (by omega)] at hjt
        with_reducible refine aw_skipL ?_
        refine blockK_normal ?_
        with_reducible refine aS fun K' hK => ?_
        simp [s3, hw]
        refine hK _ _ _ ?_; clear K' hK
        refine aw_skipL (loopK_normal ?_ ?_)
        ·exact ⟨by simp [g0], by simp [s1], i + 1, by simp [hw], by omega, by
          rw [hstep, ht, altOk, hjt]; simp; omega⟩
        ·simp [o3, s3, hw]; omega
    ·skip
     with_reducible refine aw_exit ?_
     refine loopK_exit (blockK_exit ?_)
     rw [List.take_of_length_le (by omega)] at ht
     with_reducible refine aR fun K' hK => ?_
     simp
     refine hK _ _ _ ?_; clear K' hK
     with_reducible refine aw_retL ?_
     simp [blockK, loopK, Post, resA, res1, expT, expA, exp1, expM, expL, okT, okA, ok1, rowOf, Tryz.f100]
     simp [rgOk, ht]; omega
theorem holds44_ok (r : Rg) (v : Ver) (hr : Rg.sz r) (hv : v.pre.size ≤ 1000000) : CallsOK Tryz.prog 44 [.agg r.cells, .agg v.cells] (bV (rgHolds v r)) [] := by
 refine callsOK mixed Tryz.call44 Tryz.func44 rfl (by rw [Tryz.ntmps44]; simp) ?_ rfl
 rw [Tryz.ntmps44]
 have hl := hr.1
 with_reducible refine aR fun K' hK => ?_
 simp
 refine hK _ _ _ ?_; clear K' hK
 with_reducible refine aA ?_
 with_reducible refine aR fun K' hK => ?_
 simp [Rg.cells]
 refine acall_flat (right100_ok r hr) rfl (by simp [Rg.cells]) ?_
 by_cases c1 : rgOk r = true
 ·simp [c1]
  refine acall_flat (right37_ok v (by omega)) rfl (by simp) ?_
  by_cases c2 : verOk v = true
  ·simp [c2]
   refine hK _ _ _ ?_; clear K' hK
   with_reducible refine aYk (by simp) ?_
   with_reducible refine aA ?_
   with_reducible refine aR fun K' hK => ?_
   simp
   refine hK _ _ _ ?_; clear K' hK
   with_reducible refine aw_block ?_
   refine aw_loop (fun s G nx => G 0 = some (.var 33 [rowT Alt.cells r]) ∧ G 1 = some (.var 23 v.cells) ∧ s 2 = .ptr 0 0 ∧ s 3 = .ptr 1 0 ∧ ∃ i : Nat, s 5 = iV i ∧ i ≤ r.length ∧ (r.take i).any (altHolds v) = false) (fun s _ _ => match s 5 with | .v (.int _ n) => r.length - n.toNat | _ => 0) ?_ ?_
   ·exact ⟨by simp [Rg.cells], by simp, by simp, by simp, 0, by simp, by omega, by simp⟩
   ·rintro s G nx hf ⟨g0, g1, s2, s3, i, s5, hi, ht⟩
    have hw : IntKind.i64.wrap (↑i + 1) = ((i + 1 : Nat) : Int) := wrapS (by omega)
    with_reducible refine aA ?_
    with_reducible refine aR fun K' hK => ?_
    simp [s2, s5, g0]
    refine hK _ _ _ ?_; clear K' hK
    with_reducible refine aC fun A B hA hB => ?_
    simp
    refine ⟨fun hi2 => hA ?_, fun hi2 => hB ?_⟩ <;> clear hA hB A B <;> (try simp at hi2) <;> (try with_reducible refine aK ?_)
    ·have hA := hr.2 _ (nth_mem hi2)
     with_reducible refine aw_block ?_
     with_reducible refine aQ fun K' hK => ?_
     simp [s2, s3, s5, g0, g1, hi2]
     refine acall_flat (lets102_ok (nth r i) v hA hv) rfl (by simp) ?_
     simp
     refine hK _ _ _ ?_; clear K' hK
     by_cases c4 : altHolds v (nth r i) = true
     ·skip
      with_reducible refine aU (by simp [c4]) ?_
      with_reducible refine aA ?_
      with_reducible refine aR fun K' hK => ?_
      simp
      refine hK _ _ _ ?_; clear K' hK
      with_reducible refine aw_ret ?_
      simp [blockK, loopK, Post, resA, res1, expT, expA, exp1, expM, expL, okT, okA, ok1, rowOf, Tryz.f44]
      have : r.any (altHolds v) = true := List.any_eq_true.2 ⟨_, nth_mem hi2, c4⟩
      simp [rgHolds, c1, c2, this]
     ·skip
      with_reducible refine aVk (by simp [c4]) ?_
      with_reducible refine aw_skipL ?_
      refine blockK_normal ?_
      with_reducible refine aS fun K' hK => ?_
      simp [s5, hw]
      refine hK _ _ _ ?_; clear K' hK
      refine aw_skipL (loopK_normal ?_ ?_)
      ·exact ⟨by simp [g0], by simp [g1], by simp [s2], by simp [s3], i + 1, by simp [hw], by omega, any_take hi2 ht (by simpa using c4)⟩
      ·simp [s5, hw]; omega
    ·skip
     with_reducible refine aw_exit ?_
     refine loopK_exit (blockK_exit ?_)
     rw [List.take_of_length_le (by omega)] at ht
     with_reducible refine aR fun K' hK => ?_
     simp
     refine hK _ _ _ ?_; clear K' hK
     with_reducible refine aw_retL ?_
     simp [blockK, loopK, Post, resA, res1, expT, expA, exp1, expM, expL, okT, okA, ok1, rowOf, Tryz.f44]
     simp [rgHolds, ht]
  ·simp [c2]
   refine hK _ _ _ ?_; clear K' hK
   with_reducible refine aX (by simp) ?_
   with_reducible refine aA ?_
   with_reducible refine aR fun K' hK => ?_
   simp
   refine hK _ _ _ ?_; clear K' hK
   with_reducible refine aw_ret ?_
   simp [blockK, loopK, Post, resA, res1, expT, expA, exp1, expM, expL, okT, okA, ok1, rowOf, Tryz.f44]
   simp [rgHolds, c2]
 ·simp [c1]
  refine hK _ _ _ ?_; clear K' hK
  with_reducible refine aX (by simp) ?_
  with_reducible refine aA ?_
  with_reducible refine aR fun K' hK => ?_
  simp
  refine hK _ _ _ ?_; clear K' hK
  with_reducible refine aw_ret ?_
  simp [blockK, loopK, Post, resA, res1, expT, expA, exp1, expM, expL, okT, okA, ok1, rowOf, Tryz.f44]
  simp [rgHolds, c1]
set_option maxRecDepth 100000
set_option maxHeartbeats 4000000
set_option maxRecDepth 100000
set_option maxHeartbeats 4000000
set_option maxRecDepth 100000
set_option maxHeartbeats 4000000
theorem needs141_ok (d : Dep) : CallsOK Tryz.prog 141 [.agg d.cells] (bV (!decide (d.kind = 3))) [] := by
 refine callsOK mixed Tryz.call141 Tryz.func141 rfl (by rw [Tryz.ntmps141]; simp) ?_ rfl
 rw [Tryz.ntmps141]
 with_reducible refine aR fun K' hK => ?_
 simp
 refine hK _ _ _ ?_; clear K' hK
 with_reducible refine aR fun K' hK => ?_
 simp
 refine hK _ _ _ ?_; clear K' hK
 with_reducible refine aw_retL ?_
 simp [blockK, loopK, Post, resA, res1, expT, expA, exp1, expM, expL, okT, okA, ok1, rowOf, Tryz.f141]
theorem lead83_ok (t : List Pl) (g : Good t) (ht : OKs t) (n : Nat) (hn : n < t.length) (d : Dep) : CallsOK Tryz.prog 83 [rowT Pl.cells t, iV n, .agg d.cells] (iV (toN t n d)) [] := by
 refine callsOK mixed Tryz.call83 Tryz.func83 rfl (by rw [Tryz.ntmps83]; simp) ?_ rfl
 rw [Tryz.ntmps83]
 have hB : ¬ ((n : Int) < 0 ∨ (t.length : Int) ≤ n) := by omega
 have hv : toN t n d = resolveN t (if d.kind = 4 ∧ (0 : Int) < n then (nth t (n : Int).toNat).par else n) d.name := by rw [toN, if_neg hB]
 rw [Int.toNat_natCast] at hv
 rw [hv]
 with_reducible refine aR fun K' hK => ?_
 simp
 refine hK _ _ _ ?_; clear K' hK
 with_reducible refine aR fun K' hK => ?_
 simp
 refine hK _ _ _ ?_; clear K' hK
 by_cases c : d.kind = 4
 ·by_cases c2 : 0 < n
  ·have c2' : (0 : Int) < n := by omega
   obtain ⟨p0, p1⟩ := g.par n (by omega) hn
   have hp : (nth t n).par = ((parN t n).toNat : Nat) := by show parN t n = _; omega
   have hR := resolved49_ok t g ht (parN t n).toNat (by omega) d.name
   rw [if_pos ⟨c, c2'⟩, hp]
   with_reducible refine aA ?_
   with_reducible refine aR fun K' hK => ?_
   simp [c, c2, c2']
   refine hK _ _ _ ?_; clear K' hK
   with_reducible refine aX (by simp) ?_
   with_reducible refine aR fun K' hK => ?_
   simp [hn, hp]
   refine hK _ _ _ ?_; clear K' hK
   with_reducible refine aR fun K' hK => ?_
   simp
   refine acall_flat hR rfl (by first | rfl | (simp; done) | (simp; rfl) | (simp; exact ⟨rfl, rfl⟩)) ?_
   simp
   refine hK _ _ _ ?_; clear K' hK
   with_reducible refine aw_retL ?_
   simp [blockK, loopK, Post, resA, res1, expT, expA, exp1, expM, expL, okT, okA, ok1, rowOf, Tryz.f83]
  ·have c2' : ¬ (0 : Int) < n := by omega
   rw [if_neg (fun h => c2' h.2)]
   with_reducible refine aA ?_
   with_reducible refine aR fun K' hK => ?_
   simp [c, c2, c2']
   refine hK _ _ _ ?_; clear K' hK
   with_reducible refine aYk (by simp) ?_
   with_reducible refine aR fun K' hK => ?_
   simp
   refine acall_flat (resolved49_ok t g ht n hn d.name) rfl (by first | rfl | (simp; done) | (simp; rfl) | (simp; exact ⟨rfl, rfl⟩)) ?_
   simp
   refine hK _ _ _ ?_; clear K' hK
   with_reducible refine aw_retL ?_
   simp [blockK, loopK, Post, resA, res1, expT, expA, exp1, expM, expL, okT, okA, ok1, rowOf, Tryz.f83]
 ·rw [if_neg (fun h => c h.1)]
  with_reducible refine aA ?_
  with_reducible refine aR fun K' hK => ?_
  simp [c]
  refine hK _ _ _ ?_; clear K' hK
  with_reducible refine aYk (by simp [c]) ?_
  with_reducible refine aR fun K' hK => ?_
  simp
  refine acall_flat (resolved49_ok t g ht n hn d.name) rfl (by first | rfl | (simp; done) | (simp; rfl) | (simp; exact ⟨rfl, rfl⟩)) ?_
  simp
  refine hK _ _ _ ?_; clear K' hK
  with_reducible refine aw_retL ?_
  simp [blockK, loopK, Post, resA, res1, expT, expA, exp1, expM, expL, okT, okA, ok1, rowOf, Tryz.f83]
theorem to29_ok (t : List Pl) (ht : OKs t) (i : Int) (d : Dep) : CallsOK Tryz.prog 29 [rowT Pl.cells t, iV i, .agg d.cells] (iV (toN t i d)) [] := by
 refine callsOK mixed Tryz.call29 Tryz.func29 rfl (by rw [Tryz.ntmps29]; simp) ?_ rfl
 rw [Tryz.ntmps29]
 with_reducible refine aR fun K' hK => ?_
 simp
 refine hK _ _ _ ?_; clear K' hK
 with_reducible refine aA ?_
 with_reducible refine aR fun K' hK => ?_
 simp
 refine acall_flat (there47_ok t ht i) rfl (by first | rfl | (simp; done) | (simp; rfl) | (simp; exact ⟨rfl, rfl⟩)) ?_
 by_cases hh : holdsF t i = true
 ·obtain ⟨g, h0, h1⟩ := holds_iff.1 hh
  obtain ⟨n, rfl⟩ : ∃ n : Nat, i = n := ⟨i.toNat, by omega⟩
  simp [hh]
  refine hK _ _ _ ?_; clear K' hK
  with_reducible refine aYk (by simp) ?_
  with_reducible refine aR fun K' hK => ?_
  simp
  refine acall_flat (lead83_ok t g ht n (by omega) d) rfl (by first | rfl | (simp; done) | (simp; rfl) | (simp; exact ⟨rfl, rfl⟩)) ?_
  simp
  refine hK _ _ _ ?_; clear K' hK
  with_reducible refine aw_retL ?_
  simp [blockK, loopK, Post, resA, res1, expT, expA, exp1, expM, expL, okT, okA, ok1, rowOf, Tryz.f29]
 ·simp [hh]
  refine hK _ _ _ ?_; clear K' hK
  with_reducible refine aX (by simp) ?_
  with_reducible refine aA ?_
  with_reducible refine aR fun K' hK => ?_
  simp
  refine hK _ _ _ ?_; clear K' hK
  with_reducible refine aw_ret ?_
  simp [blockK, loopK, Post, resA, res1, expT, expA, exp1, expM, expL, okT, okA, ok1, rowOf, Tryz.f29]
  rw [toN_none hh]
theorem good85_ok (t : List Pl) (g : Good t) (ht : OKs t) (hv : ∀ p ∈ t, p.ver.pre.size ≤ 1000000) (n : Nat) (hn : n < t.length) (d : Dep) (hd : Rg.sz d.range) : CallsOK Tryz.prog 85 [rowT Pl.cells t, iV n, .agg d.cells] (bV (holdsV t n d)) [] := by
 refine callsOK mixed Tryz.call85 Tryz.func85 rfl (by rw [Tryz.ntmps85]; simp) ?_ rfl
 rw [Tryz.ntmps85]
 have hdef : holdsV t n d = if toN t n d < 0 then decide (d.kind = 3) else rgHolds (nth t (toN t n d).toNat).ver d.range := by rw [holdsV, if_pos (holds_iff.2 ⟨g, by omega, by omega⟩)]
 have hlt := toN_lt t n d
 with_reducible refine aR fun K' hK => ?_
 simp
 refine hK _ _ _ ?_; clear K' hK
 with_reducible refine aR fun K' hK => ?_
 simp
 refine acall_flat (lead83_ok t g ht n hn d) rfl (by first | rfl | (simp; done) | (simp; rfl) | (simp; exact ⟨rfl, rfl⟩)) ?_
 simp
 refine hK _ _ _ ?_; clear K' hK
 rw [hdef]
 generalize toN t n d = k at *
 by_cases hk : k < 0
 ·with_reducible refine aA ?_
  with_reducible refine aR fun K' hK => ?_
  simp [hk]
  refine hK _ _ _ ?_; clear K' hK
  with_reducible refine aX (by simp) ?_
  with_reducible refine aA ?_
  with_reducible refine aR fun K' hK => ?_
  simp
  refine acall_flat (needs141_ok d) rfl (by first | rfl | (simp; done) | (simp; rfl) | (simp; exact ⟨rfl, rfl⟩)) ?_
  simp
  refine hK _ _ _ ?_; clear K' hK
  with_reducible refine aw_ret ?_
  simp [blockK, loopK, Post, resA, res1, expT, expA, exp1, expM, expL, okT, okA, ok1, rowOf, Tryz.f85]
  exact fun h => by omega
 ·have hk0 : 0 ≤ k := by omega
  have hin : k.toNat < t.length := by omega
  with_reducible refine aA ?_
  with_reducible refine aR fun K' hK => ?_
  simp [hk]
  refine hK _ _ _ ?_; clear K' hK
  with_reducible refine aYk (by simp) ?_
  generalize hj : k.toNat = j at *
  with_reducible refine aQ fun K' hK => ?_
  simp [hk0, hlt, hin, hj]
  refine acall_flat (holds44_ok d.range (nth t j).ver hd (hv _ (nth_mem hin))) rfl (by simp [Rg.cells]) ?_
  simp
  refine hK _ _ _ ?_; clear K' hK
  with_reducible refine aw_retL ?_
  simp [blockK, loopK, Post, resA, res1, expT, expA, exp1, expM, expL, okT, okA, ok1, rowOf, Tryz.f85]
  exact fun h => by omega
theorem holds31_ok (t : List Pl) (ht : OKs t) (hv : ∀ p ∈ t, p.ver.pre.size ≤ 1000000) (i : Int) (d : Dep) (hd : Rg.sz d.range) : CallsOK Tryz.prog 31 [rowT Pl.cells t, iV i, .agg d.cells] (bV (holdsV t i d)) [] := by
 refine callsOK mixed Tryz.call31 Tryz.func31 rfl (by rw [Tryz.ntmps31]; simp) ?_ rfl
 rw [Tryz.ntmps31]
 with_reducible refine aR fun K' hK => ?_
 simp
 refine hK _ _ _ ?_; clear K' hK
 with_reducible refine aR fun K' hK => ?_
 simp
 refine acall_flat (there47_ok t ht i) rfl (by first | rfl | (simp; done) | (simp; rfl) | (simp; exact ⟨rfl, rfl⟩)) ?_
 by_cases hh : holdsF t i = true
 ·obtain ⟨g, h0, h1⟩ := holds_iff.1 hh
  obtain ⟨n, rfl⟩ : ∃ n : Nat, i = n := ⟨i.toNat, by omega⟩
  simp [hh]
  refine acall_flat (good85_ok t g ht hv n (by omega) d hd) rfl (by first | rfl | (simp; done) | (simp; rfl) | (simp; exact ⟨rfl, rfl⟩)) ?_
  simp
  refine hK _ _ _ ?_; clear K' hK
  with_reducible refine aw_retL ?_
  simp [blockK, loopK, Post, resA, res1, expT, expA, exp1, expM, expL, okT, okA, ok1, rowOf, Tryz.f31]
 ·simp [hh]
  refine hK _ _ _ ?_; clear K' hK
  with_reducible refine aw_retL ?_
  simp [blockK, loopK, Post, resA, res1, expT, expA, exp1, expM, expL, okT, okA, ok1, rowOf, Tryz.f31]
  rw [holdsV_none hh]
set_option maxRecDepth 100000
set_option maxHeartbeats 400000
def keptQ (q : Nat → Bool) (k : Nat) : List Nat := (List.range k).filter q
def rkQ (q : Nat → Bool) (j : Nat) : Nat := (keptQ q j).length
def renQ (q : Nat → Bool) (n : Int) : Int := if n < 0 then n else rkQ q n.toNat
def keepP (t : List Pl) (q : Nat → Bool) (j : Nat) : Pl := { nth t j with par := renQ q (parN t j) }
def keepT (t : List Pl) (q : Nat → Bool) (k : Nat) : List Pl := (keptQ q k).map (keepP t q)
structure Clo (t : List Pl) (q : Nat → Bool) : Prop where
 zero : q 0 = true
 par : ∀ j, 1 ≤ j → j < t.length → q j = true → q (parN t j).toNat = true
section
variable {q : Nat → Bool}
end
section
variable {t : List Pl} {q : Nat → Bool}
end
set_option linter.unusedSectionVars false
section
variable {t : List Pl} {q : Nat → Bool} (g : Good t) (c : Clo t q)
include g c
end
set_option maxRecDepth 100000
set_option maxHeartbeats 400000
def edgesV (root : Man) (L : List Man) (t : List Pl) (n : Nat) : List Dep := match manVal root L t n with
 | none => []
 | some m => ofF m.deps root.rules (decide ((n : Int) = 0))
inductive Rch (root : Man) (L : List Man) (t : List Pl) : Nat → Prop
 | zero : Rch root L t 0
 | par {n : Nat} : Rch root L t n → 0 ≤ parN t n → Rch root L t (parN t n).toNat
 | edge {n k : Nat} {d : Dep} : Rch root L t n → d ∈ edgesV root L t n → toN t n d = k → Rch root L t k
open Classical in
noncomputable def rchB (root : Man) (L : List Man) (t : List Pl) (n : Nat) : Bool := decide (Rch root L t n)
noncomputable def reachL (root : Man) (L : List Man) (t : List Pl) : List Int := if codeV root L t = 0 then (keptQ (rchB root L t) t.length).map fun (n : Nat) => (n : Int) else []
noncomputable def pruneT (root : Man) (L : List Man) (t : List Pl) : List Pl := if codeV root L t = 0 then keepT t (rchB root L t) t.length else []
section
variable {root : Man} {L : List Man} {t : List Pl} {q : Nat → Bool} (g : Good t) (c : Clo t q)
include g c
end
section
variable {root : Man} {L : List Man} {t : List Pl} (g : Good t)
include g
end
-- None: a root without edges
set_option maxRecDepth 100000
set_option maxHeartbeats 4000000
theorem manVal_nat {root : Man} {L : List Man} {t : List Pl} {n : Nat} (g : Good t) (hn : n < t.length) : manVal root L t n = if n = 0 then some root else findM L (nth t n).name (nth t n).ver := by
 unfold manVal
 rw [if_pos (holds_iff.2 ⟨g, by omega, by omega⟩), Int.toNat_natCast]
 by_cases h : n = 0
 ·rw [if_pos h, if_pos (by omega)]
 ·rw [if_neg h, if_neg (by omega)]
set_option maxRecDepth 100000
set_option maxHeartbeats 4000000
theorem man25_ok (root : Man) (hr : Man.okS root) (L : List Man) (hl : L.length ≤ 1000000000) (hm : ∀ m ∈ L, Man.okS m) (t : List Pl) (ht : OKs t) (i : Int) : CallsOK Tryz.prog 25 [.agg root.cells, rowT Man.cells L, rowT Pl.cells t, iV i] (manR (manVal root L t i)).1 (manR (manVal root L t i)).2 := by
 refine callsOK mixed Tryz.call25 Tryz.func25 rfl (by rw [Tryz.ntmps25]; simp) ?_ (by cases manVal root L t i <;> rfl)
 rw [Tryz.ntmps25]
 with_reducible refine aR fun K' hK => ?_
 simp
 refine hK _ _ _ ?_; clear K' hK
 with_reducible refine aA ?_
 with_reducible refine aR fun K' hK => ?_
 simp
 refine acall_flat (there47_ok t ht i) rfl (by first | rfl | (simp; done) | (simp; rfl) | (simp; exact ⟨rfl, rfl⟩)) ?_
 simp
 refine hK _ _ _ ?_; clear K' hK
 by_cases hh : holdsF t i = true
 ·obtain ⟨g, h0, h1⟩ := holds_iff.1 hh
  obtain ⟨n, rfl⟩ : ∃ n : Nat, i = n := ⟨i.toNat, by omega⟩
  have hn : n < t.length := by omega
  have hmv := manVal_nat (root := root) (L := L) g hn
  with_reducible refine aYk (by simp [hh]) ?_
  by_cases hz : n = 0
  ·rw [if_pos hz] at hmv
   rw [hmv]
   subst hz
   with_reducible refine aA ?_
   with_reducible refine aR fun K' hK => ?_
   simp
   refine hK _ _ _ ?_; clear K' hK
   with_reducible refine aX (by simp) ?_
   with_reducible refine aA ?_
   with_reducible refine aR fun K' hK => ?_
   simp
   refine acall_new (own34_ok root hr) (by first | rfl | (simp; done) | (simp; rfl) | (simp; exact ⟨rfl, rfl⟩)) ?_
   simp [addJ_two]
   refine hK _ _ _ ?_; clear K' hK
   with_reducible refine aw_ret ?_
   simp [blockK, loopK, Post, resA, res1, Tryz.f25, manR]
   exact manR_end true (by omega) (by simp) (by simp)
  ·rw [if_neg hz] at hmv
   rw [hmv]
   have hz2 : ¬ (n : Int) = 0 := by omega
   have hF := find78_ok L hl hm (nth t n).name (nth t n).ver
   generalize findM L (nth t n).name (nth t n).ver = r at *
   with_reducible refine aA ?_
   with_reducible refine aR fun K' hK => ?_
   simp [hz, hz2]
   refine hK _ _ _ ?_; clear K' hK
   with_reducible refine aYk (by simp) ?_
   cases r with
   | none =>
    with_reducible refine aQ fun K' hK => ?_
    simp [hn]
    refine acall_new hF (by first | rfl | (simp; done) | (simp; rfl) | (simp; exact ⟨rfl, rfl⟩)) ?_
    simp [manR, addJ_nil]
    refine hK _ _ _ ?_; clear K' hK
    with_reducible refine aw_retL ?_
    simp [blockK, loopK, Post, resA, res1, expT, expA, exp1, expM, expL, okT, okA, ok1, rowOf, Tryz.f25, manR]
   | some m =>
    with_reducible refine aQ fun K' hK => ?_
    simp [hn]
    refine acall_new hF (by first | rfl | (simp; done) | (simp; rfl) | (simp; exact ⟨rfl, rfl⟩)) ?_
    simp [manR, addJ_two]
    refine hK _ _ _ ?_; clear K' hK
    with_reducible refine aw_retL ?_
    simp [blockK, loopK, Post, resA, res1, Tryz.f25, manR]
    exact manR_end true (by omega) (by simp) (by simp)
 ·have hv : manVal root L t i = none := by rw [manVal, if_neg hh]
  rw [hv]
  with_reducible refine aX (by simp [hh]) ?_
  with_reducible refine aA ?_
  with_reducible refine aR fun K' hK => ?_
  simp
  refine hK _ _ _ ?_; clear K' hK
  with_reducible refine aw_ret ?_
  simp [blockK, loopK, Post, resA, res1, expT, expA, exp1, expM, expL, okT, okA, ok1, rowOf, Tryz.f25, manR]
set_option maxRecDepth 100000
set_option maxHeartbeats 4000000
theorem Ru.ext' {a b : Ru} (h2 : a.name = b.name) (h3 : a.range = b.range) : a = b := by
 cases a; cases b; simp_all
theorem Man.ext' {a b : Man} (h1 : a.name = b.name) (h2 : a.ver = b.ver) (h3 : a.deps = b.deps) (h4 : a.rules = b.rules) : a = b := by
 cases a; cases b; simp_all
theorem Ru.okR {ds : List Ru} (h : Ru.okL ds) {d : Ru} (hd : d ∈ ds) : d.range.ok :=
 ⟨by have := (h.2 d hd).1; omega, fun l hl => by have := (h.2 d hd).2 l hl; omega⟩
theorem rules81_ok (a b : List Ru) (ha : Ru.okL a) : CallsOK Tryz.prog 81 [rowT Ru.cells a, rowT Ru.cells b] (bV (decide (a = b))) [] := by
 refine callsOK mixed Tryz.call81 Tryz.func81 rfl (by rw [Tryz.ntmps81]; simp) ?_ rfl
 rw [Tryz.ntmps81]
 with_reducible refine aR fun K' hK => ?_
 simp
 refine hK _ _ _ ?_; clear K' hK
 with_reducible refine aA ?_
 with_reducible refine aR fun K' hK => ?_
 simp
 refine hK _ _ _ ?_; clear K' hK
 with_reducible refine aC fun A B hA hB => ?_
 simp
 refine ⟨fun hl => hA ?_, fun hl => hB ?_⟩ <;> clear hA hB A B <;> (try simp at hl) <;> (try with_reducible refine aK ?_)
 ·with_reducible refine aA ?_
  with_reducible refine aR fun K' hK => ?_
  simp
  refine hK _ _ _ ?_; clear K' hK
  with_reducible refine aw_ret ?_
  simp [blockK, loopK, Post, resA, res1, expT, expA, exp1, expM, expL, okT, okA, ok1, rowOf, Tryz.f81]
  intro e; exact hl (by rw [e])
 ·with_reducible refine aA ?_
  with_reducible refine aR fun K' hK => ?_
  simp
  refine hK _ _ _ ?_; clear K' hK
  with_reducible refine aw_block ?_
  refine aw_loop (fun s G nx => s 0 = rowT Ru.cells a ∧ s 1 = rowT Ru.cells b ∧ ∃ i : Nat, s 5 = iV i ∧ i ≤ a.length ∧ a.take i = b.take i) (fun s _ _ => match s 5 with | .v (.int _ n) => a.length - n.toNat | _ => 0) ?_ ?_
  ·exact ⟨by simp, by simp, 0, by simp, by omega, by simp⟩
  ·rintro s G nx - ⟨s0, s1, i, s5, hi, ht⟩
   have hw : IntKind.i64.wrap (↑i + 1) = ((i + 1 : Nat) : Int) := wrapS (by have := ha.1; omega)
   with_reducible refine aA ?_
   with_reducible refine aR fun K' hK => ?_
   simp [s0, s5]
   refine hK _ _ _ ?_; clear K' hK
   with_reducible refine aC fun A B hA hB => ?_
   simp
   refine ⟨fun hi2 => hA ?_, fun hi2 => hB ?_⟩ <;> clear hA hB A B <;> (try simp at hi2) <;> (try with_reducible refine aK ?_)
   ·have hi3 : i < b.length := by omega
    with_reducible refine aw_block ?_
    by_cases h2 : (nth a i).name = (nth b i).name
    ·skip
     with_reducible refine aQ fun K' hK => ?_
     simp [s0, s1, s5, hi2, hi3, h2]
     refine acall_flat (same05_ok (nth a i).range (nth b i).range (Ru.okR ha (nth_mem hi2))) rfl (by simp [Rg.cells]) ?_
     simp
     refine hK _ _ _ ?_; clear K' hK
     with_reducible refine aD fun A B hA hB => ?_
     simp
     refine ⟨fun hne => hA ?_, fun hne => hB ?_⟩ <;> clear hA hB A B <;> (try simp at hne) <;> (try with_reducible refine aK ?_)
     ·with_reducible refine aA ?_
      with_reducible refine aR fun K' hK => ?_
      simp
      refine hK _ _ _ ?_; clear K' hK
      with_reducible refine aw_ret ?_
      simp [blockK, loopK, Post, resA, res1, expT, expA, exp1, expM, expL, okT, okA, ok1, rowOf, Tryz.f81]
      exact ne_nth (i := i) fun e => hne (by rw [e])
     ·with_reducible refine aw_skipL ?_
      refine blockK_normal ?_
      with_reducible refine aS fun K' hK => ?_
      simp [s5, hw]
      refine hK _ _ _ ?_; clear K' hK
      refine aw_skipL (loopK_normal ?_ ?_)
      ·exact ⟨by simp [s0], by simp [s1], i + 1, by simp [hw], by omega, take_nth hi2 hi3 ht (Ru.ext' h2 hne)⟩
      ·simp [s5, hw]; omega
    ·skip
     with_reducible refine aQ fun K' hK => ?_
     simp (maxSteps := 1000000) [s0, s1, s5, hi2, hi3, h2]
     refine hK _ _ _ ?_; clear K' hK
     with_reducible refine aU (by simp) ?_
     with_reducible refine aA ?_
     with_reducible refine aR fun K' hK => ?_
     simp
     refine hK _ _ _ ?_; clear K' hK
     with_reducible refine aw_ret ?_
     simp [blockK, loopK, Post, resA, res1, expT, expA, exp1, expM, expL, okT, okA, ok1, rowOf, Tryz.f81]
     exact ne_nth (i := i) fun e => h2 (by rw [e])
   ·skip
    with_reducible refine aw_exit ?_
    refine loopK_exit (blockK_exit ?_)
    with_reducible refine aR fun K' hK => ?_
    simp
    refine hK _ _ _ ?_; clear K' hK
    with_reducible refine aw_retL ?_
    simp [blockK, loopK, Post, resA, res1, expT, expA, exp1, expM, expL, okT, okA, ok1, rowOf, Tryz.f81]
    exact eq_of_take (by omega) (by omega) ht
theorem same27_ok (a b : Man) (ha : Man.okS a) : CallsOK Tryz.prog 27 [.agg a.cells, .agg b.cells] (bV (decide (a = b))) [] := by
 refine callsOK mixed Tryz.call27 Tryz.func27 rfl (by rw [Tryz.ntmps27]; simp) ?_ rfl
 rw [Tryz.ntmps27]
 with_reducible refine aR fun K' hK => ?_
 simp
 refine hK _ _ _ ?_; clear K' hK
 by_cases h1 : a.name = b.name
 ·by_cases h2 : a.ver = b.ver
  ·skip
   with_reducible refine aR fun K' hK => ?_
   simp [h1, h2]
   refine acall_flat (deps13_ok a.deps b.deps ha.1) rfl (by first | rfl | (simp; done) | (simp; rfl) | (simp; exact ⟨rfl, rfl⟩)) ?_
   by_cases h3 : a.deps = b.deps
   ·simp [h3]
    refine acall_flat (rules81_ok a.rules b.rules ha.2) rfl (by first | rfl | (simp; done) | (simp; rfl) | (simp; exact ⟨rfl, rfl⟩)) ?_
    simp
    refine hK _ _ _ ?_; clear K' hK
    with_reducible refine aw_retL ?_
    simp [blockK, loopK, Post, resA, res1, expT, expA, exp1, expM, expL, okT, okA, ok1, rowOf, Tryz.f27]
    exact ⟨fun h => Man.ext' h1 h2 h3 h, fun h => by rw [h]⟩
   ·simp [h3]
    refine hK _ _ _ ?_; clear K' hK
    with_reducible refine aw_retL ?_
    simp [blockK, loopK, Post, resA, res1, expT, expA, exp1, expM, expL, okT, okA, ok1, rowOf, Tryz.f27]
    exact fun h => h3 (by rw [h])
  ·skip
   with_reducible refine aR fun K' hK => ?_
   simp [h1, h2]
   refine hK _ _ _ ?_; clear K' hK
   with_reducible refine aw_retL ?_
   simp [blockK, loopK, Post, resA, res1, expT, expA, exp1, expM, expL, okT, okA, ok1, rowOf, Tryz.f27]
   exact fun h => h2 (by rw [h])
 ·skip
  with_reducible refine aR fun K' hK => ?_
  simp [h1]
  refine hK _ _ _ ?_; clear K' hK
  with_reducible refine aw_retL ?_
  simp [blockK, loopK, Post, resA, res1, expT, expA, exp1, expM, expL, okT, okA, ok1, rowOf, Tryz.f27]
  exact fun h => h1 (by rw [h])
set_option maxRecDepth 100000
set_option maxHeartbeats 4000000
def seeI (N : Nat) (G : Hp) (x : AV) (l : List Int) : Prop := (x = .v (.slice none 0 0) ∧ l = []) ∨ ∃ r, x = .row r l.length ∧ r < N ∧ G r = some (.row 3 (flat iC l))
theorem seeA_man {G : Hp} {a b : AV} {m : Man} (ha : lookA Tryz.prog G a = some (rowT Dep.cells m.deps)) (hb : lookA Tryz.prog G b = some (rowT Ru.cells m.rules)) : seeA Tryz.prog G (.agg (m.cellsR a b)) = some (.agg m.cells) := by
 simp only [seeA, Man.cellsR, looksA, ha, hb]
 rfl
set_option maxRecDepth 100000
set_option maxHeartbeats 4000000
theorem same27_z : CallsOK Tryz.prog 27 [.agg manN, .agg manN] (bV true) [] := by
 have h := same27_ok man0 man0 ⟨by simp [man0, Dep.okL], by simp [man0, Ru.okL]⟩
 simp only [decide_true] at h
 exact h.weak (.cons (.agg (.cons (.refl _) (.cons (.refl _) (.cons (.refl _) (.cons (.refl _) (.cons (.refl _) (.cons .nilRow (.cons .nilRow .nil)))))))) (.cons (.agg (.cons (.refl _) (.cons (.refl _) (.cons (.refl _) (.cons (.refl _) (.cons (.refl _) (.cons .nilRow (.cons .nilRow .nil)))))))) .nil))
theorem see_two {Y : Hp} {m : Man} {a b c d : Nat} (h1 : Y a = some (.row 35 (flat Dep.cells m.deps))) (h2 : Y b = some (.row 96 (flat Ru.cells m.rules))) (h3 : Y c = some (.row 35 (flat Dep.cells m.deps))) (h4 : Y d = some (.row 96 (flat Ru.cells m.rules))) :
  seesA Tryz.prog Y [.agg (m.cellsR (.row a m.deps.length) (.row b m.rules.length)), .agg (m.cellsR (.row c m.deps.length) (.row d m.rules.length))] = some [.agg m.cells, .agg m.cells] := by
 have c35 : Tryz.prog.cellsOf 35 = 3 := by kernel_rfl
 have c96 : Tryz.prog.cellsOf 96 = 2 := by kernel_rfl
 have e1 : seeA Tryz.prog Y (.agg (m.cellsR (.row a m.deps.length) (.row b m.rules.length))) = some (.agg m.cells) := seeA_man (treeOf_of h1 c35 rfl) (treeOf_of h2 c96 rfl)
 have e2 : seeA Tryz.prog Y (.agg (m.cellsR (.row c m.deps.length) (.row d m.rules.length))) = some (.agg m.cells) := seeA_man (treeOf_of h3 c35 rfl) (treeOf_of h4 c96 rfl)
 simp only [seesA, e1, e2]
theorem are3_ok (root : Man) (L : List Man) (t : List Pl) (n : Int) (d : Dep) (hl : L.length ≤ 9223372036854775807) (htl : t.length ≤ 9223372036854775807) (hdn : d.name.size ≤ 9223372036854775807) : CallsOK Tryz.prog 3 [.agg root.cells, rowT Man.cells L, rowT Pl.cells t, iV n, .agg d.cells] (bV true) [] := by
 refine callsOK mixed Tryz.call3 Tryz.func3 rfl (by rw [Tryz.ntmps3]; simp) ?_ rfl
 rw [Tryz.ntmps3]
 with_reducible refine aR fun K' hK => ?_
 simp
 refine hK _ _ _ ?_; clear K' hK
 with_reducible refine aA ?_
 with_reducible refine aR fun K' hK => ?_
 simp
 refine acall_flat (big21_ok root L t hl htl) rfl (by first | rfl | (simp; done) | (simp; rfl) | (simp; exact ⟨rfl, rfl⟩)) ?_
 by_cases hb : bigW root L t = true
 ·simp [hb]
  refine hK _ _ _ ?_; clear K' hK
  with_reducible refine aX (by simp) ?_
  with_reducible refine aA ?_
  with_reducible refine aR fun K' hK => ?_
  simp
  refine hK _ _ _ ?_; clear K' hK
  with_reducible refine aw_ret ?_
  simp [blockK, loopK, Post, resA, res1, expT, expA, exp1, expM, expL, okT, okA, ok1, rowOf, Tryz.f3]
 have hb' : bigW root L t = false := by simpa using hb
 obtain ⟨b1, b2, b3⟩ := bigW_sz hb'
 have hsz : ValSz root L t := valSz_of b1 b2 b3
 obtain ⟨hrz, hro, hLz, hLo, ht, hv⟩ := id hsz
 simp [hb']
 by_cases hd1 : 300 < d.name.size
 ·have hd1' : (300 : Int) < d.name.size := by omega
  simp [hd1, hd1']
  refine hK _ _ _ ?_; clear K' hK
  with_reducible refine aX (by simp) ?_
  with_reducible refine aA ?_
  with_reducible refine aR fun K' hK => ?_
  simp
  refine hK _ _ _ ?_; clear K' hK
  with_reducible refine aw_ret ?_
  simp [blockK, loopK, Post, resA, res1, expT, expA, exp1, expM, expL, okT, okA, ok1, rowOf, Tryz.f3]
 have hd1' : ¬ (300 : Int) < d.name.size := by omega
 simp [hd1, hd1']
 refine acall_flat (big35_ok d.range) rfl (by first | rfl | (simp; done) | (simp; rfl) | (simp; exact ⟨rfl, rfl⟩)) ?_
 by_cases hd2 : bigR d.range = true
 ·simp [hd2]
  refine hK _ _ _ ?_; clear K' hK
  with_reducible refine aX (by simp) ?_
  with_reducible refine aA ?_
  with_reducible refine aR fun K' hK => ?_
  simp
  refine hK _ _ _ ?_; clear K' hK
  with_reducible refine aw_ret ?_
  simp [blockK, loopK, Post, resA, res1, expT, expA, exp1, expM, expL, okT, okA, ok1, rowOf, Tryz.f3]
 have hR : Rg.sz d.range := bigR_rsz (by simpa using hd2)
 simp [hd2]
 refine hK _ _ _ ?_; clear K' hK
 with_reducible refine aYk (by simp) ?_
 with_reducible refine aR fun K' hK => ?_
 simp
 refine acall_new (own11_ok t (by have := (bigT_len b3).1; omega)) (by first | rfl | (simp; done) | (simp; rfl) | (simp; exact ⟨rfl, rfl⟩)) ?_
 simp [addJ_one]
 refine hK _ _ _ ?_; clear K' hK
 have c58 : Tryz.prog.cellsOf 58 = 6 := by kernel_rfl
 have c35 : Tryz.prog.cellsOf 35 = 3 := by kernel_rfl
 have c96 : Tryz.prog.cellsOf 96 = 2 := by kernel_rfl
 have hM := manVal_ok root hro L hLz.1 hLo t ht n
 have hO := man25_ok root hro L hLz.1 hLo t ht n
 have hmm : ∀ m, manVal root L t n = some m → Man.okS m := fun m h => by
  rcases manVal_mem h with rfl | h
  ·exact hro
  ·exact hLo _ h
 generalize manVal root L t n = mv at *
 with_reducible refine aw_un ?_
 refine aw_cut (fun u X nz => u 2 = rowT Pl.cells t ∧ u 3 = iV n ∧ u 9 = .ptr 1 0 ∧ X 1 = some (.var 35 d.cells) ∧ u 11 = .row 2 t.length ∧ treeOf Tryz.prog X (.row 2 t.length) = some (rowT Pl.cells t) ∧ ∃ (p q : Nat) (c1 c2 : List AV) (a b : AV), u 12 = .ptr p 0 ∧ X p = some (.var 27 c1) ∧ getC c1 0 7 = some c1 ∧ u 14 = .ptr q 0 ∧ X q = some (.var 27 c2) ∧ getC c2 0 7 = some c2 ∧ seesA Tryz.prog X [.agg c1, .agg c2] = some [a, b] ∧ CallsOK Tryz.prog 27 [a, b] (bV true) [] ∧ u 13 = bV mv.isSome ∧ u 15 = bV mv.isSome) ?_ ?_
 ·cases mv with
  | none =>
   with_reducible refine aR fun K' hK => ?_
   simp
   refine acall_new hM (by first | rfl | (simp; done) | (simp; rfl) | (simp; exact ⟨rfl, rfl⟩)) ?_
   simp [manR, addJ_nil]
   refine hK _ _ _ ?_; clear K' hK
   refine aw_gen (fun u X nz => u 1 = rowT Man.cells L ∧ u 2 = rowT Pl.cells t ∧ u 3 = iV n ∧ u 5 = .ptr 0 0 ∧ u 9 = .ptr 1 0 ∧ u 11 = .row 2 t.length ∧ u 12 = .ptr 3 0 ∧ u 13 = bV false ∧ nz = 4 ∧ X 0 = some (.var 27 root.cells) ∧ X 1 = some (.var 35 d.cells) ∧ X 2 = some (.row 58 (flat Pl.cells t)) ∧ X 3 = some (.var 27 manN)) ?_ ?_
   ·exact ⟨by simp, by simp, by simp, by simp, by simp, by simp, by simp, by simp, by simp, by simp, by simp, by simp, by simp⟩
   rintro u X nz ⟨u1, u2, u3, u5, u9, u11, u12, u13, rfl, x0, x1, x2, x3⟩
   have hT : treeOf Tryz.prog X (.row 2 t.length) = some (rowT Pl.cells t) := treeOf_of x2 c58 rfl
   with_reducible refine aS fun K' hK => ?_
   simp [u1, u3, u5, u11, x0]
   refine acall_new hO (by simp [hT]) ?_
   simp [manR, addJ_nil, hT]
   refine hK _ _ _ ?_; clear K' hK
   with_reducible refine aw_end ?_
   exact ⟨by simp [u2], by simp [u3], by simp [u9], by simp [x1], by simp [u11], by simp [hT], 3, 4, manN, manN, .agg manN, .agg manN, by simp [u12], by simp [x3], rfl, by simp, by simp, rfl, rfl, same27_z, by simp [u13], by simp⟩
  | some m =>
   with_reducible refine aR fun K' hK => ?_
   simp
   refine acall_new hM (by first | rfl | (simp; done) | (simp; rfl) | (simp; exact ⟨rfl, rfl⟩)) ?_
   simp [manR, addJ_two]
   refine hK _ _ _ ?_; clear K' hK
   refine aw_gen (fun u X nz => u 1 = rowT Man.cells L ∧ u 2 = rowT Pl.cells t ∧ u 3 = iV n ∧ u 5 = .ptr 0 0 ∧ u 9 = .ptr 1 0 ∧ u 11 = .row 2 t.length ∧ u 12 = .ptr 5 0 ∧ u 13 = bV true ∧ nz = 6 ∧ X 0 = some (.var 27 root.cells) ∧ X 1 = some (.var 35 d.cells) ∧ X 2 = some (.row 58 (flat Pl.cells t)) ∧ X 3 = some (.row 35 (flat Dep.cells m.deps)) ∧ X 4 = some (.row 96 (flat Ru.cells m.rules)) ∧ X 5 = some (.var 27 (m.cellsR (.row 3 m.deps.length) (.row 4 m.rules.length)))) ?_ ?_
   ·exact ⟨by simp, by simp, by simp, by simp, by simp, by simp, by simp, by simp, by simp, by simp, by simp, by simp, by simp, by simp, by simp⟩
   rintro u X nz ⟨u1, u2, u3, u5, u9, u11, u12, u13, rfl, x0, x1, x2, x3, x4, x5⟩
   have hT : treeOf Tryz.prog X (.row 2 t.length) = some (rowT Pl.cells t) := treeOf_of x2 c58 rfl
   with_reducible refine aS fun K' hK => ?_
   simp [u1, u3, u5, u11, x0]
   refine acall_new hO (by simp [hT]) ?_
   simp [manR, addJ_two, hT]
   refine hK _ _ _ ?_; clear K' hK
   with_reducible refine aw_end ?_
   refine ⟨by simp [u2], by simp [u3], by simp [u9], by simp [x1], by simp [u11], by simp [hT], 5, 8, m.cellsR (.row 3 m.deps.length) (.row 4 m.rules.length), m.cellsR (.row 6 m.deps.length) (.row 7 m.rules.length), .agg m.cells, .agg m.cells, by simp [u12], by simp [x5], rfl, by simp, by simp, rfl, ?_, ?_, by simp [u13], by simp⟩
   ·exact see_two (by simp [x3]) (by simp [x4]) (by simp) (by simp)
   ·have h := same27_ok m m (hmm m rfl)
    simpa using h
 rintro u X nz ⟨u2, u3, u9, x1, u11, hT, p, q, c1, c2, a, b, u12, xp, hc1, u14, xq, hc2, hs, hS, u13, u15⟩
 have sT : seesA Tryz.prog X [.row 2 t.length, iV n, .agg d.cells] = some [rowT Pl.cells t, iV n, .agg d.cells] := by
  simp only [seesA, seeA, lookA, hT]; rfl
 have sT2 : seesA Tryz.prog X [rowT Pl.cells t, .row 2 t.length] = some [rowT Pl.cells t, rowT Pl.cells t] := by
  simp only [seesA, seeA, lookA, hT]; rfl
 with_reducible refine aQ fun K' hK => ?_
 simp [u2, u3, u9, u11, u12, u13, u14, u15, x1, xp, xq, hc1, hc2]
 refine acall_flat gives26_ok rfl (by simp) ?_
 simp [u2, u3, u9, u11, u12, u13, u14, u15, x1, xp, xq, hc1, hc2]
 refine acall_flat hS rfl hs ?_
 simp [u2, u3, u9, u11, u12, u13, u14, u15, x1, xp, xq, hc1, hc2]
 refine acall_flat (to28_ok t ht n d) rfl (by first | rfl | (simp; done) | (simp; rfl) | (simp; exact ⟨rfl, rfl⟩)) ?_
 simp [u2, u3, u9, u11, u12, u13, u14, u15, x1, xp, xq, hc1, hc2]
 refine acall_flat (to29_ok t ht n d) rfl sT ?_
 simp [u2, u3, u9, u11, u12, u13, u14, u15, x1, xp, xq, hc1, hc2]
 refine acall_flat (holds30_ok t ht hv n d hR) rfl (by first | rfl | (simp; done) | (simp; rfl) | (simp; exact ⟨rfl, rfl⟩)) ?_
 simp [u2, u3, u9, u11, u12, u13, u14, u15, x1, xp, xq, hc1, hc2]
 refine acall_flat (holds31_ok t ht hv n d hR) rfl sT ?_
 simp [u2, u3, u9, u11, u12, u13, u14, u15, x1, xp, xq, hc1, hc2]
 refine acall_flat (same16_ok t t (by have := (bigT_len b3).1; omega)) rfl sT2 ?_
 simp
 refine hK _ _ _ ?_; clear K' hK
 with_reducible refine aw_retL ?_
 simp [blockK, loopK, Post, resA, res1, expT, expA, exp1, expM, expL, okT, okA, ok1, rowOf, Tryz.f3]
end Go.Proofs.YtgipehooceecpaaGreatDoorAbs
