/- ValidRules. -/
import Derived.Test.YtgipehooceecpaaGreatDoorU10
namespace Go.Proofs.YtgipehooceecpaaGreatDoorAbs
set_option linter.unusedSimpArgs false
set_option linter.unusedVariables false
open Go Go.RowKit Go.Proofs
set_option maxRecDepth 100000
set_option maxHeartbeats 4000000
def RowI (N : Nat) (G : Hp) (x : AV) (acc : List Int) : Prop := (x = .v (.slice none 0 0) ∧ acc = []) ∨ ∃ r, x = .row r acc.length ∧ r < N ∧ G r = some (.row 3 (flat iC acc)) ∧ acc ≠ []
theorem RowI.keep {N N' : Nat} {G G' : Hp} {x : AV} {acc : List Int} (h : RowI N G x acc) (hN : N ≤ N') (hg : ∀ i, i < N → G' i = G i) : RowI N' G' x acc := by
 rcases h with h | ⟨r, h1, h2, h3, h4⟩
 ·exact .inl h
 ·exact .inr ⟨r, h1, by omega, by rw [hg r h2]; exact h3, h4⟩
def man0 : Man := ⟨⟨#[]⟩, ⟨0, 0, 0, ⟨#[]⟩⟩, [], []⟩
theorem ofF_nil (rules : List Ru) (b : Bool) : ofF [] rules b = [] := by
 unfold ofF
 have : (namesOf (byM b ([] : List Dep))) = [] := rfl
 rw [this]
 have : sortN [] = [] := List.eq_nil_of_length_eq_zero (by rw [(sortN_perm _).length_eq]; rfl)
 rw [this]; rfl
theorem ofZ_ok (rules : List Ru) (b : Bool) (hr : Ru.okL rules) : CallsOK Tryz.prog 41 [.agg manN, rowT Ru.cells rules, .v (.bool b)] (.row 0 0) [(35, [])] := by
 have h := of10_ok man0 rules b ⟨by simp [man0], by simp [man0]⟩ hr
 have e : ofF man0.deps rules b = [] := ofF_nil rules b
 rw [e] at h
 exact h.weak (.cons (.agg (.cons (.refl _) (.cons (.refl _) (.cons (.refl _) (.cons (.refl _) (.cons (.refl _) (.cons .nilRow (.cons .nilRow .nil)))))))) (.cons (.refl _) (.cons (.refl _) .nil)))
theorem ofF_lenle {ds : List Dep} {rules : List Ru} {b : Bool} (h : ds.length ≤ 1000000000) : (ofF ds rules b).length ≤ 1000000000 := by
 have h1 := byM_len b ds
 unfold ofF
 rw [List.length_map, (sortN_perm _).length_eq]
 simp only [namesOf, List.length_map]
 omega
theorem belowL_len {t : List Pl} {i : Int} : (belowL t i).length ≤ t.length := by
 unfold belowL
 split
 ·exact belowK_len
 ·simp
theorem each5_ok (root : Man) (L : List Man) (t : List Pl) (n : Int) (hl : L.length ≤ 9223372036854775807) (htl : t.length ≤ 9223372036854775807) : CallsOK Tryz.prog 5 [.agg root.cells, rowT Man.cells L, rowT Pl.cells t, iV n] (bV true) [] := by
 refine callsOK mixed Tryz.call5 Tryz.func5 rfl (by rw [Tryz.ntmps5]; simp) ?_ rfl
 rw [Tryz.ntmps5]
 with_reducible refine aR fun K' hK => ?_
 simp []
 refine hK _ _ _ ?_
 clear K' hK
 with_reducible refine aA ?_
 with_reducible refine aR fun K' hK => ?_
 simp []
 refine acall_flat (big21_ok root L t hl htl) rfl (by first | rfl | (simp []; done) | (simp []; rfl) | (simp []; exact ⟨rfl, rfl⟩)) ?_
 by_cases hb : bigW root L t = true
 ·simp [hb]
  refine hK _ _ _ ?_
  clear K' hK
  with_reducible refine aC fun A B hA hB => ?_
  simp []
  refine ⟨fun hc => hA ?_, fun hc => hB ?_⟩ <;> clear hA hB A B <;> (try (simp at hc; done)) <;> (try (exfalso; simp at hc; omega)) <;> clear hc <;> (try with_reducible refine aK ?_)
  with_reducible refine aA ?_
  with_reducible refine aR fun K' hK => ?_
  simp []
  refine hK _ _ _ ?_
  clear K' hK
  first | with_reducible refine aw_ret ?_ | with_reducible refine aw_retL ?_ | with_reducible refine aw_skipL ?_
  simp [blockK, loopK, Post, resA, res1, expT, expA, exp1, expM, expL, okT, okA, ok1, rowOf, Tryz.f5]
 ·have hb' : bigW root L t = false := by simpa using hb
  obtain ⟨b1, b2, b3⟩ := bigW_sz hb'
  have hsz : ValSz root L t := valSz_of b1 b2 b3
  simp [hb]
  by_cases h0 : n < 0
  ·simp [h0]
   refine hK _ _ _ ?_
   clear K' hK
   with_reducible refine aC fun A B hA hB => ?_
   simp []
   refine ⟨fun hc => hA ?_, fun hc => hB ?_⟩ <;> clear hA hB A B <;> (try (simp at hc; done)) <;> (try (exfalso; simp at hc; omega)) <;> clear hc <;> (try with_reducible refine aK ?_)
   with_reducible refine aA ?_
   with_reducible refine aR fun K' hK => ?_
   simp []
   refine hK _ _ _ ?_
   clear K' hK
   first | with_reducible refine aw_ret ?_ | with_reducible refine aw_retL ?_ | with_reducible refine aw_skipL ?_
   simp [blockK, loopK, Post, resA, res1, expT, expA, exp1, expM, expL, okT, okA, ok1, rowOf, Tryz.f5]
  ·by_cases h1 : (t.length : Int) ≤ n
   ·simp [h0, h1]
    refine hK _ _ _ ?_
    clear K' hK
    with_reducible refine aC fun A B hA hB => ?_
    simp []
    refine ⟨fun hc => hA ?_, fun hc => hB ?_⟩ <;> clear hA hB A B <;> (try (simp at hc; done)) <;> (try (exfalso; simp at hc; omega)) <;> clear hc <;> (try with_reducible refine aK ?_)
    with_reducible refine aA ?_
    with_reducible refine aR fun K' hK => ?_
    simp []
    refine hK _ _ _ ?_
    clear K' hK
    first | with_reducible refine aw_ret ?_ | with_reducible refine aw_retL ?_ | with_reducible refine aw_skipL ?_
    simp [blockK, loopK, Post, resA, res1, expT, expA, exp1, expM, expL, okT, okA, ok1, rowOf, Tryz.f5]
   ·simp [h0, h1]
    refine hK _ _ _ ?_
    clear K' hK
    with_reducible refine aC fun A B hA hB => ?_
    simp []
    refine ⟨fun hc => hA ?_, fun hc => hB ?_⟩ <;> clear hA hB A B <;> (try (simp at hc; done)) <;> (try (exfalso; simp at hc; omega)) <;> clear hc <;> (try with_reducible refine aK ?_)
    have hW := wrong35_ok root L t hsz
    have hV := valid38_ok root L t hsz
    by_cases hc : codeV root L t = 0
    ·have g : Good t := check_iff.1 (codeV_zero.1 hc).2.2
     have hmem := wrong_mem (root := root) (L := L) g (n := n.toNat) (by omega)
     rw [show ((n.toNat : Nat) : Int) = n by omega] at hmem
     have hval : validN root L t = decide (wrongL root L t = []) := by simp [validN, hc]
     have hM := manVal_ok root hsz.2.1 L hsz.2.2.1.1 hsz.2.2.2.1 t hsz.2.2.2.2.1 n
     have hfine : fineV root L t n = (match manVal root L t n with | none => false | some m => (ofF m.deps root.rules (decide (n = 0))).all (holdsV t n)) := rfl
     have hmm : ∀ m, manVal root L t n = some m → Man.sz m ∧ Man.okS m := fun m hm => by
      rcases manVal_mem hm with rfl | h
      ·exact ⟨hsz.1, hsz.2.1⟩
      ·exact ⟨hsz.2.2.1.2 _ h, hsz.2.2.2.1 _ h⟩
     have hWl : (wrongL root L t).length ≤ 1000000000 := Nat.le_trans (List.length_filter_le _ _) (Nat.le_trans belowL_len (by have := (bigT_len b3).1; omega))
     generalize hWL : wrongL root L t = W at *
     generalize hF : fineV root L t n = F at *
     refine aw_cut (fun s G nx => s 4 = .ptr 0 0 ∧ s 1 = rowT Man.cells L ∧ s 2 = rowT Pl.cells t ∧ s 3 = iV n ∧ G 0 = some (.var 27 root.cells) ∧ s 10 = iV 0 ∧ RowI nx G (s 9) W ∧ 0 < nx) ?_ ?_
     ·by_cases hw0 : W = []
      ·rw [wrongR, if_pos hc, hWL, if_pos hw0] at hW
       with_reducible refine aS fun K' hK => ?_
       simp []
       refine acall_new hW (by first | rfl | (simp []; done) | (simp []; rfl) | (simp []; exact ⟨rfl, rfl⟩)) ?_
       simp [addJ_nil]
       refine hK _ _ _ ?_
       clear K' hK
       with_reducible refine aw_end ?_
       exact ⟨by simp, by simp, by simp, by simp, by simp, by simp, .inl ⟨by simp, hw0⟩, by omega⟩
      ·rw [wrongR, if_pos hc, hWL, if_neg hw0] at hW
       with_reducible refine aS fun K' hK => ?_
       simp []
       refine acall_new hW (by first | rfl | (simp []; done) | (simp []; rfl) | (simp []; exact ⟨rfl, rfl⟩)) ?_
       simp [addJ_one]
       refine hK _ _ _ ?_
       clear K' hK
       with_reducible refine aw_end ?_
       exact ⟨by simp, by simp, by simp, by simp, by simp, by simp, .inr ⟨1, by simp, by omega, by simp, hw0⟩, by omega⟩
     ·rintro s G nx ⟨s4, s1, s2, s3, g0, s10, hrow, hnx⟩
      with_reducible refine aA ?_
      with_reducible refine aR fun K' hK => ?_
      simp [s10]
      refine hK _ _ _ ?_
      clear K' hK
      with_reducible refine aC fun A B hA hB => ?_
      simp []
      refine ⟨fun hc => hA ?_, fun hc => hB ?_⟩ <;> clear hA hB A B <;> (try (simp at hc; done)) <;> (try (exfalso; simp at hc; omega)) <;> clear hc <;> (try with_reducible refine aK ?_)
      with_reducible refine aw_un ?_
      refine aw_cut (fun s' G' nx' => s' 4 = .ptr 0 0 ∧ s' 1 = rowT Man.cells L ∧ s' 2 = rowT Pl.cells t ∧ s' 3 = iV n ∧ G' 0 = some (.var 27 root.cells) ∧ RowI nx' G' (s' 9) W ∧ ∃ (k : Nat) (E : List Dep) (ok0 : Bool), s' 12 = bV ok0 ∧ s' 13 = .row k E.length ∧ G' k = some (.row 35 (flat Dep.cells E)) ∧ E.length ≤ 1000000000 ∧ (∀ d ∈ E, Rg.sz d.range) ∧ F = (ok0 && E.all (holdsV t n))) ?_ ?_
      ·have n0 : ¬ 0 = nx := by omega
       generalize manVal root L t n = mv at *
       cases mv with
       | none =>
        with_reducible refine aR fun K' hK => ?_
        simp [s4, s1, s2, s3, g0]
        refine acall_new hM (by first | rfl | (simp []; done) | (simp []; rfl) | (simp []; exact ⟨rfl, rfl⟩)) ?_
        simp [manR, addJ_nil]
        refine hK _ _ _ ?_
        clear K' hK
        with_reducible refine aS fun K' hK => ?_
        simp [s4, s3, g0, n0]
        refine acall_new (ofZ_ok root.rules (decide (n = 0)) hsz.2.1.2) (by first | rfl | (simp []; done) | (simp []; rfl) | (simp []; exact ⟨rfl, rfl⟩)) ?_
        simp [addJ_one]
        refine hK _ _ _ ?_
        clear K' hK
        with_reducible refine aw_end ?_
        have n1 : ¬ 0 = nx + 1 := by omega
        exact ⟨by simp [s4], by simp [s1], by simp [s2], by simp [s3], by simp [g0, n0, n1], (by simpa using hrow.keep (by omega) (fun i hi => by repeat rw [Hp.upd_ne _ _ (by omega)])), nx + 1, [], false, by simp, by simp, by simp, by simp, by simp, by simp [hfine]⟩
       | some m =>
        obtain ⟨mz, mo⟩ := hmm m rfl
        with_reducible refine aR fun K' hK => ?_
        simp [s4, s1, s2, s3, g0]
        refine acall_new hM (by first | rfl | (simp []; done) | (simp []; rfl) | (simp []; exact ⟨rfl, rfl⟩)) ?_
        simp [manR, addJ_two]
        refine hK _ _ _ ?_
        clear K' hK
        refine aw_gen (fun u H nz => u 4 = .ptr 0 0 ∧ u 1 = rowT Man.cells L ∧ u 2 = rowT Pl.cells t ∧ u 3 = iV n ∧ u 9 = s 9 ∧ u 11 = .ptr (nx + 2) 0 ∧ u 12 = bV true ∧ nz = nx + 3 ∧ (∀ k, k < nx → H k = G k) ∧ H nx = some (.row 35 (flat Dep.cells m.deps)) ∧ H (nx + 1) = some (.row 96 (flat Ru.cells m.rules)) ∧ H (nx + 2) = some (.var 27 (m.cellsR (.row nx m.deps.length) (.row (nx + 1) m.rules.length)))) ?_ ?_
        ·exact ⟨by simp [s4], by simp [s1], by simp [s2], by simp [s3], by simp, by simp, by simp, by omega, fun k hk => by repeat rw [Hp.upd_ne _ _ (by omega)], by simp, by simp, by simp [Nat.add_comm 1 nx]⟩
        rintro u H nz ⟨u4, u1, u2, u3, u9, u11, u12, rfl, hH, k1, k2, k3⟩
        have hT := manR_trees (show ¬ nx + 1 = nx by omega) k1 k2
        have h0 : H 0 = some (.var 27 root.cells) := by rw [hH 0 (by omega)]; exact g0
        with_reducible refine aS fun K' hK => ?_
        simp [u4, u3, u11, k3, h0]
        refine acall_new (of10_ok m root.rules (decide (n = 0)) mo.1 hsz.2.1.2) (by simp [hT]) ?_
        simp [addJ_one, hT]
        refine hK _ _ _ ?_
        clear K' hK
        with_reducible refine aw_end ?_
        have e0 : ¬ 0 = nx + 3 := by omega
        have e1 : ¬ 0 = nx := by omega
        have e2 : ¬ 0 = nx + 1 := by omega
        exact ⟨by simp [u4], by simp [u1], by simp [u2], by simp [u3], by simp [e0, e1, e2, h0], by simp [u9]; exact hrow.keep (by omega) (fun i hi => by rw [Hp.upd_ne _ _ (by omega), frzOf_ne (by omega), frzOf_ne (by omega)]; exact hH i hi), nx + 3, ofF m.deps root.rules (decide (n = 0)), true, by simp [u12], by simp, by simp, ofF_lenle mz.2.2.1.1, fun d hd => by
         rcases ofF_range hd with ⟨e, he, h⟩ | ⟨e, he, h⟩
         ·rw [h]; exact (mz.2.2.1.2 e he).2
         ·rw [h]; exact (hsz.1.2.2.2.2 e he).2, by simp [hfine]⟩
      ·clear s4 s1 s2 s3 g0 s10 hrow hnx s G nx
       rintro s G nx ⟨s4, s1, s2, s3, g0, hrow, k, E, ok0, s12, s13, gk, hEl, hEz, hFE⟩
       have o9 : ∃ x9, s 9 = x9 := ⟨_, rfl⟩
       obtain ⟨x9, o9⟩ := o9
       with_reducible refine aA ?_
       with_reducible refine aw_un ?_
       refine aw_cut (fun s' G' nx' => G' = G ∧ nx' = nx ∧ s' 4 = .ptr 0 0 ∧ s' 1 = rowT Man.cells L ∧ s' 2 = rowT Pl.cells t ∧ s' 3 = iV n ∧ s' 9 = x9 ∧ s' 12 = bV F) ?_ ?_
       ·skip
        with_reducible refine aR fun K' hK => ?_
        simp []
        refine hK _ _ _ ?_
        clear K' hK
        with_reducible refine aw_toS (aw_block ?_)
        refine aw_loop (fun s' G' nx' => G' = G ∧ nx' = nx ∧ s' 4 = .ptr 0 0 ∧ s' 1 = rowT Man.cells L ∧ s' 2 = rowT Pl.cells t ∧ s' 3 = iV n ∧ s' 9 = x9 ∧ s' 13 = .row k E.length ∧ ∃ j : Nat, s' 14 = iV j ∧ j ≤ E.length ∧ s' 12 = bV (ok0 && (E.take j).all (holdsV t n))) (fun s _ _ => match s 14 with | .v (.int _ n) => E.length - n.toNat | _ => 0) ?_ ?_
        ·exact ⟨rfl, rfl, by simp [s4], by simp [s1], by simp [s2], by simp [s3], by simp [o9], by simp [s13], 0, by simp, by omega, by simp [s12]⟩
        ·clear s12
         rintro u H nz hf ⟨rfl, rfl, u4, u1, u2, u3, u9, u13, j, u14, hj, u12⟩
         have hw : IntKind.i64.wrap (↑j + 1) = ((j + 1 : Nat) : Int) := wrapS (by omega)
         by_cases hj2 : j < E.length
         ·have hstep := all_take1 (p := holdsV t n) hj2
          have hall : (ok0 && (E.take j).all (holdsV t n)) = false → F = false := fun h => by
           rw [hFE]
           cases ok0 with
           | false => rfl
           | true =>
            simp only [Bool.true_and] at h ⊢
            rw [← List.take_append_drop j E, List.all_append, h]; rfl
          generalize hcur : (ok0 && (E.take j).all (holdsV t n)) = cur at *
          cases cur with
          | false =>
           with_reducible refine aA ?_
           with_reducible refine aR fun K' hK => ?_
           simp [u13, u14, u12, gk, hj2]
           refine hK _ _ _ ?_
           clear K' hK
           with_reducible refine aC fun A B hA hB => ?_
           simp []
           refine ⟨fun hc => hA ?_, fun hc => hB ?_⟩ <;> clear hA hB A B <;> (try (simp at hc; done)) <;> (try (exfalso; simp at hc; omega)) <;> clear hc <;> (try with_reducible refine aK ?_)
           with_reducible refine aw_exit ?_
           refine loopK_exit (blockK_exit ?_)
           with_reducible refine aw_end ?_
           exact ⟨rfl, rfl, by simp [u4], by simp [u1], by simp [u2], by simp [u3], by simp [u9], by simp [u12, hall rfl]⟩
          | true =>
           with_reducible refine aA ?_
           with_reducible refine aR fun K' hK => ?_
           simp [u13, u14, u12, gk, hj2]
           refine hK _ _ _ ?_
           clear K' hK
           with_reducible refine aC fun A B hA hB => ?_
           simp []
           refine ⟨fun hc => hA ?_, fun hc => hB ?_⟩ <;> clear hA hB A B <;> (try (simp at hc; done)) <;> (try (exfalso; simp at hc; omega)) <;> clear hc <;> (try with_reducible refine aK ?_)
           have hdz := hEz _ (nth_mem hj2)
           with_reducible refine aw_block ?_
           with_reducible refine aS fun K' hK => ?_
           simp [u2, u3, u13, u14, gk, hj2]
           refine acall_flat (holds30_ok t hsz.2.2.2.2.1 hsz.2.2.2.2.2 n (nth E j) hdz) rfl (by first | rfl | (simp []; done) | (simp []; rfl) | (simp []; exact ⟨rfl, rfl⟩)) ?_
           simp
           refine hK _ _ _ ?_
           clear K' hK
           with_reducible refine aw_skipL ?_
           refine blockK_normal ?_
           with_reducible refine aS fun K' hK => ?_
           simp [u14, hw]
           refine hK _ _ _ ?_
           clear K' hK
           refine aw_skipL (loopK_normal ?_ ?_)
           ·exact ⟨rfl, rfl, by simp [u4], by simp [u1], by simp [u2], by simp [u3], by simp [u9], by simp [u13], j + 1, by simp [hw], by omega, by rw [hstep, ← Bool.and_assoc, hcur]; simp⟩
           ·simp [u14, hw]; omega
         ·have hjE : j = E.length := by omega
          rw [hjE, List.take_length, ← hFE] at u12
          with_reducible refine aA ?_
          with_reducible refine aR fun K' hK => ?_
          simp [u13, u14, u12, gk, hj2]
          refine hK _ _ _ ?_
          clear K' hK
          with_reducible refine aC fun A B hA hB => ?_
          simp []
          refine ⟨fun hc => hA ?_, fun hc => hB ?_⟩ <;> clear hA hB A B <;> (try (simp at hc; done)) <;> (try (exfalso; simp at hc; omega)) <;> clear hc <;> (try with_reducible refine aK ?_)
          with_reducible refine aw_exit ?_
          refine loopK_exit (blockK_exit ?_)
          with_reducible refine aw_end ?_
          exact ⟨rfl, rfl, by simp [u4], by simp [u1], by simp [u2], by simp [u3], by simp [u9], by simp [u12]⟩
       ·rw [o9] at hrow
        clear s4 s1 s2 s3 s12 s13 gk hEl hEz hFE o9
        rintro u H nz ⟨rfl, rfl, s4, s1, s2, s3, s9, s12⟩
        with_reducible refine aw_un ?_
        refine aw_cut (fun s' G' nx' => G' = H ∧ s' 4 = .ptr 0 0 ∧ s' 1 = rowT Man.cells L ∧ s' 2 = rowT Pl.cells t ∧ s' 9 = x9 ∧ s' 12 = bV F ∧ s' 15 = bV (W.any fun x => decide (x = n))) ?_ ?_
        ·skip
         with_reducible refine aR fun K' hK => ?_
         simp []
         refine hK _ _ _ ?_
         clear K' hK
         with_reducible refine aR fun K' hK => ?_
         simp []
         refine hK _ _ _ ?_
         clear K' hK
         with_reducible refine aw_toS (aw_block ?_)
         refine aw_loop (fun s' G' nx' => G' = H ∧ s' 4 = .ptr 0 0 ∧ s' 1 = rowT Man.cells L ∧ s' 2 = rowT Pl.cells t ∧ s' 3 = iV n ∧ s' 9 = x9 ∧ s' 12 = bV F ∧ ∃ j : Nat, s' 16 = iV j ∧ j ≤ W.length ∧ s' 15 = bV ((W.take j).any fun x => decide (x = n))) (fun s _ _ => match s 16 with | .v (.int _ n) => W.length - n.toNat | _ => 0) ?_ ?_
         ·exact ⟨rfl, by simp [s4], by simp [s1], by simp [s2], by simp [s3], by simp [s9], by simp [s12], 0, by simp, by omega, by simp⟩
         ·rintro v G' nz' hf ⟨rfl, v4, v1, v2, v3, v9, v12, j, v16, hj, v15⟩
          have hw : IntKind.i64.wrap (↑j + 1) = ((j + 1 : Nat) : Int) := wrapS (by omega)
          rcases hrow with ⟨rfl, rfl⟩ | ⟨r, rfl, hr, hG, hne⟩
          ·have hj0 : j = 0 := by simpa using hj
           subst hj0
           with_reducible refine aA ?_
           with_reducible refine aR fun K' hK => ?_
           simp [v9, v16]
           refine hK _ _ _ ?_
           clear K' hK
           with_reducible refine aC fun A B hA hB => ?_
           simp []
           refine ⟨fun hc => hA ?_, fun hc => hB ?_⟩ <;> clear hA hB A B <;> (try (simp at hc; done)) <;> (try (exfalso; simp at hc; omega)) <;> clear hc <;> (try with_reducible refine aK ?_)
           with_reducible refine aw_exit ?_
           refine loopK_exit (blockK_exit ?_)
           with_reducible refine aw_end ?_
           exact ⟨rfl, by simp [v4], by simp [v1], by simp [v2], by simp [v9], by simp [v12], by simp [v15]⟩
          ·with_reducible refine aA ?_
           with_reducible refine aR fun K' hK => ?_
           simp [v9, v16, hG]
           refine hK _ _ _ ?_
           clear K' hK
           with_reducible refine aC fun A B hA hB => ?_
           simp []
           refine ⟨fun hj2 => hA ?_, fun hj2 => hB ?_⟩ <;> clear hA hB A B <;> (try simp at hj2) <;> (try with_reducible refine aK ?_)
           ·have hstep := any_take1 (p := fun x : Int => decide (x = n)) hj2
            with_reducible refine aw_block ?_
            generalize hin : ((W.take j).any fun x => decide (x = n)) = y at *
            cases y with
            | true =>
             with_reducible refine aS fun K' hK => ?_
             simp [v15]
             refine hK _ _ _ ?_
             clear K' hK
             with_reducible refine aw_skipL ?_
             refine blockK_normal ?_
             with_reducible refine aS fun K' hK => ?_
             simp [v16, hw]
             refine hK _ _ _ ?_
             clear K' hK
             refine aw_skipL (loopK_normal ?_ ?_)
             ·exact ⟨rfl, by simp [v4], by simp [v1], by simp [v2], by simp [v3], by simp [v9], by simp [v12], j + 1, by simp [hw], by omega, by rw [hstep]; simp⟩
             ·simp [v16, hw]; omega
            | false =>
             with_reducible refine aS fun K' hK => ?_
             simp [v15, v9, v16, hG, hj2, v3]
             refine hK _ _ _ ?_
             clear K' hK
             with_reducible refine aw_skipL ?_
             refine blockK_normal ?_
             with_reducible refine aS fun K' hK => ?_
             simp [v16, hw]
             refine hK _ _ _ ?_
             clear K' hK
             refine aw_skipL (loopK_normal ?_ ?_)
             ·exact ⟨rfl, by simp [v4], by simp [v1], by simp [v2], by simp [v3], by simp [v9], by simp [v12], j + 1, by simp [hw], by omega, by rw [hstep]; simp⟩
             ·simp [v16, hw]; omega
           ·skip
            with_reducible refine aw_exit ?_
            refine loopK_exit (blockK_exit ?_)
            rw [List.take_of_length_le (by omega)] at v15
            with_reducible refine aw_end ?_
            exact ⟨rfl, by simp [v4], by simp [v1], by simp [v2], by simp [v9], by simp [v12], by simp [v15]⟩
        ·clear s4 s1 s2 s3 s9 s12
         rintro v G' nz' ⟨rfl, s4, s1, s2, s9, s12, s15⟩
         rw [hmem] at s15
         have hWe : (W = []) ↔ W.length = 0 := by cases W <;> simp
         rcases hrow with ⟨rfl, rfl⟩ | ⟨r, rfl, hr, hG, hne⟩
         ·skip
          with_reducible refine aR fun K' hK => ?_
          simp [s4, s1, s2, s9, s12, s15, g0]
          refine acall_flat gives26_ok rfl (by simp) ?_
          simp [s4, s1, s2, s9, s12, s15, g0]
          refine acall_flat hV rfl (by first | rfl | (simp []; done) | (simp []; rfl) | (simp []; exact ⟨rfl, rfl⟩)) ?_
          simp [s9, hval]
          refine hK _ _ _ ?_
          clear K' hK
          first | with_reducible refine aw_ret ?_ | with_reducible refine aw_retL ?_ | with_reducible refine aw_skipL ?_
          simp [blockK, loopK, Post, resA, res1, expT, expA, exp1, expM, expL, okT, okA, ok1, rowOf, Tryz.f5]
         ·have hl0 : ¬ W.length = 0 := fun h => hne (hWe.2 h)
          with_reducible refine aR fun K' hK => ?_
          simp [s4, s1, s2, s9, s12, s15, g0]
          refine acall_flat gives26_ok rfl (by simp) ?_
          simp [s4, s1, s2, s9, s12, s15, g0]
          refine acall_flat hV rfl (by first | rfl | (simp []; done) | (simp []; rfl) | (simp []; exact ⟨rfl, rfl⟩)) ?_
          simp [s9, hval, hG, hne, hl0]
          refine hK _ _ _ ?_
          clear K' hK
          first | with_reducible refine aw_ret ?_ | with_reducible refine aw_retL ?_ | with_reducible refine aw_skipL ?_
          simp [blockK, loopK, Post, resA, res1, expT, expA, exp1, expM, expL, okT, okA, ok1, rowOf, Tryz.f5]
    ·rw [wrongR, if_neg hc] at hW
     have hval : validN root L t = false := by simp [validN, hc]
     with_reducible refine aR fun K' hK => ?_
     simp []
     refine acall_new hW (by first | rfl | (simp []; done) | (simp []; rfl) | (simp []; exact ⟨rfl, rfl⟩)) ?_
     simp [addJ_one]
     refine hK _ _ _ ?_
     clear K' hK
     with_reducible refine aA ?_
     with_reducible refine aR fun K' hK => ?_
     simp [hc]
     refine hK _ _ _ ?_
     clear K' hK
     with_reducible refine aC fun A B hA hB => ?_
     simp []
     refine ⟨fun hc => hA ?_, fun hc => hB ?_⟩ <;> clear hA hB A B <;> (try (simp at hc; done)) <;> (try (exfalso; simp at hc; omega)) <;> clear hc <;> (try with_reducible refine aK ?_)
     with_reducible refine aA ?_
     with_reducible refine aR fun K' hK => ?_
     simp []
     refine acall_flat gives26_ok rfl (by simp) ?_
     simp
     refine acall_flat hV rfl (by first | rfl | (simp []; done) | (simp []; rfl) | (simp []; exact ⟨rfl, rfl⟩)) ?_
     simp [hval]
     refine hK _ _ _ ?_
     clear K' hK
     first | with_reducible refine aw_ret ?_ | with_reducible refine aw_retL ?_ | with_reducible refine aw_skipL ?_
     simp [blockK, loopK, Post, resA, res1, expT, expA, exp1, expM, expL, okT, okA, ok1, rowOf, Tryz.f5]
end Go.Proofs.YtgipehooceecpaaGreatDoorAbs
namespace Go.Proofs.YtgipehooceecpaaGreatDoorAbs
set_option linter.unusedSimpArgs false
set_option linter.unusedVariables false
open Go Go.RowKit Go.Proofs
set_option maxRecDepth 100000
set_option maxHeartbeats 4000000
theorem big_z (t : List Pl) (htl : t.length ≤ 9223372036854775807) : CallsOK Tryz.prog 21 [.agg manN, .v (.slice none 0 0), rowT Pl.cells t] (bV (bigW man0 [] t)) [] :=
 (big21_ok man0 [] t (by simp) htl).weak (.cons (.agg (.cons (.refl _) (.cons (.refl _) (.cons (.refl _) (.cons (.refl _) (.cons (.refl _) (.cons .nilRow (.cons .nilRow .nil)))))))) (.cons .nilRow (.cons (.refl _) .nil)))
theorem peers7_ok (t : List Pl) (n : Int) (d : Dep) (htl : t.length ≤ 9223372036854775807) (hdn : d.name.size ≤ 9223372036854775807) : CallsOK Tryz.prog 7 [rowT Pl.cells t, iV n, .agg d.cells] (bV true) [] := by
 refine callsOK mixed Tryz.call7 Tryz.func7 rfl (by rw [Tryz.ntmps7]; simp) ?_ rfl
 rw [Tryz.ntmps7]
 with_reducible refine aR fun K' hK => ?_
 simp []
 refine hK _ _ _ ?_
 clear K' hK
 with_reducible refine aA ?_
 with_reducible refine aR fun K' hK => ?_
 simp []
 refine acall_flat (big_z t htl) rfl (by first | rfl | (simp []; done) | (simp []; rfl) | (simp []; exact ⟨rfl, rfl⟩)) ?_
 by_cases hb : bigW man0 [] t = true
 ·simp [hb]
  refine hK _ _ _ ?_
  clear K' hK
  with_reducible refine aC fun A B hA hB => ?_
  simp []
  refine ⟨fun hc => hA ?_, fun hc => hB ?_⟩ <;> clear hA hB A B <;> (try (simp at hc; done)) <;> (try (exfalso; simp at hc; omega)) <;> clear hc <;> (try with_reducible refine aK ?_)
  with_reducible refine aA ?_
  with_reducible refine aR fun K' hK => ?_
  simp []
  refine hK _ _ _ ?_
  clear K' hK
  first | with_reducible refine aw_ret ?_ | with_reducible refine aw_retL ?_ | with_reducible refine aw_skipL ?_
  simp [blockK, loopK, Post, resA, res1, expT, expA, exp1, expM, expL, okT, okA, ok1, rowOf, Tryz.f7]
 ·have hb' : bigW man0 [] t = false := by simpa using hb
  obtain ⟨b1, b2, b3⟩ := bigW_sz hb'
  have hT := bigT_ok b3
  have hP : ∀ p ∈ t, p.ver.pre.size ≤ 1000000 := fun p hp => by have := (bigT_len b3).2.2 p hp; omega
  simp [hb]
  by_cases hd1 : 300 < d.name.size
  ·have hd1' : (300 : Int) < d.name.size := by omega
   simp [hd1, hd1']
   refine hK _ _ _ ?_
   clear K' hK
   with_reducible refine aC fun A B hA hB => ?_
   simp []
   refine ⟨fun hc => hA ?_, fun hc => hB ?_⟩ <;> clear hA hB A B <;> (try (simp at hc; done)) <;> (try (exfalso; simp at hc; omega)) <;> clear hc <;> (try with_reducible refine aK ?_)
   with_reducible refine aA ?_
   with_reducible refine aR fun K' hK => ?_
   simp []
   refine hK _ _ _ ?_
   clear K' hK
   first | with_reducible refine aw_ret ?_ | with_reducible refine aw_retL ?_ | with_reducible refine aw_skipL ?_
   simp [blockK, loopK, Post, resA, res1, expT, expA, exp1, expM, expL, okT, okA, ok1, rowOf, Tryz.f7]
  ·have hd1' : ¬ (300 : Int) < d.name.size := by omega
   simp [hd1, hd1']
   refine acall_flat (big35_ok d.range) rfl (by first | rfl | (simp []; done) | (simp []; rfl) | (simp []; exact ⟨rfl, rfl⟩)) ?_
   by_cases hd2 : bigR d.range = true
   ·simp [hd2]
    refine hK _ _ _ ?_
    clear K' hK
    with_reducible refine aC fun A B hA hB => ?_
    simp []
    refine ⟨fun hc => hA ?_, fun hc => hB ?_⟩ <;> clear hA hB A B <;> (try (simp at hc; done)) <;> (try (exfalso; simp at hc; omega)) <;> clear hc <;> (try with_reducible refine aK ?_)
    with_reducible refine aA ?_
    with_reducible refine aR fun K' hK => ?_
    simp []
    refine hK _ _ _ ?_
    clear K' hK
    first | with_reducible refine aw_ret ?_ | with_reducible refine aw_retL ?_ | with_reducible refine aw_skipL ?_
    simp [blockK, loopK, Post, resA, res1, expT, expA, exp1, expM, expL, okT, okA, ok1, rowOf, Tryz.f7]
   ·have hR : Rg.sz d.range := bigR_rsz (by simpa using hd2)
    simp [hd2]
    refine hK _ _ _ ?_
    clear K' hK
    with_reducible refine aC fun A B hA hB => ?_
    simp []
    refine ⟨fun hc => hA ?_, fun hc => hB ?_⟩ <;> clear hA hB A B <;> (try (simp at hc; done)) <;> (try (exfalso; simp at hc; omega)) <;> clear hc <;> (try with_reducible refine aK ?_)
    with_reducible refine aR fun K' hK => ?_
    simp []
    refine acall_flat (to28_ok t hT n d) rfl (by first | rfl | (simp []; done) | (simp []; rfl) | (simp []; exact ⟨rfl, rfl⟩)) ?_
    simp
    refine hK _ _ _ ?_
    clear K' hK
    by_cases hh : holdsF t n = true
    ·obtain ⟨g, h0, h1⟩ := holds_iff.1 hh
     have hc : checkN t = 0 := check_iff.2 g
     have h0' : ¬ n < 0 := by omega
     have h1' : ¬ (t.length : Int) ≤ n := by omega
     have hp := peers_plain (t := t) (n := n.toNat) (d := d) g (by omega)
     rw [show ((n.toNat : Nat) : Int) = n by omega] at hp
     with_reducible refine aA ?_
     with_reducible refine aR fun K' hK => ?_
     simp []
     refine acall_flat (check18_ok t hT) rfl (by first | rfl | (simp []; done) | (simp []; rfl) | (simp []; exact ⟨rfl, rfl⟩)) ?_
     simp [hc, h0', h1']
     refine hK _ _ _ ?_
     clear K' hK
     with_reducible refine aC fun A B hA hB => ?_
     simp []
     refine ⟨fun hc => hA ?_, fun hc => hB ?_⟩ <;> clear hA hB A B <;> (try (simp at hc; done)) <;> (try (exfalso; simp at hc; omega)) <;> clear hc <;> (try with_reducible refine aK ?_)
     rcases hp with hk | ⟨k, hk, hkl, hkn, hkp, hku⟩
     ·with_reducible refine aA ?_
      with_reducible refine aR fun K' hK => ?_
      simp [hk]
      refine hK _ _ _ ?_
      clear K' hK
      with_reducible refine aC fun A B hA hB => ?_
      simp []
      refine ⟨fun hc => hA ?_, fun hc => hB ?_⟩ <;> clear hA hB A B <;> (try (simp at hc; done)) <;> (try (exfalso; simp at hc; omega)) <;> clear hc <;> (try with_reducible refine aK ?_)
      with_reducible refine aA ?_
      with_reducible refine aR fun K' hK => ?_
      simp [hk]
      refine acall_flat gives26_ok rfl (by simp) ?_
      simp [hk]
      refine hK _ _ _ ?_
      clear K' hK
      first | with_reducible refine aw_ret ?_ | with_reducible refine aw_retL ?_ | with_reducible refine aw_skipL ?_
      simp [blockK, loopK, Post, resA, res1, expT, expA, exp1, expM, expL, okT, okA, ok1, rowOf, Tryz.f7]
     ·have hk0 : ¬ (k : Int) < 0 := by omega
      have hkl' : ¬ (t.length : Int) ≤ k := by omega
      with_reducible refine aA ?_
      with_reducible refine aR fun K' hK => ?_
      simp [hk, hk0]
      refine hK _ _ _ ?_
      clear K' hK
      with_reducible refine aC fun A B hA hB => ?_
      simp []
      refine ⟨fun hc => hA ?_, fun hc => hB ?_⟩ <;> clear hA hB A B <;> (try (simp at hc; done)) <;> (try (exfalso; simp at hc; omega)) <;> clear hc <;> (try with_reducible refine aK ?_)
      have ek : (nth t k).par = parN t k := rfl
      with_reducible refine aA ?_
      refine aw_cut (fun s G nx => s 0 = rowT Pl.cells t ∧ s 1 = iV n ∧ s 7 = iV k ∧ s 90 = bV false) ?_ ?_
      ·by_cases hpk : d.kind = 4
       ·by_cases hpn : 0 < n
        ·have hne : ¬ parN t k = n := by
          have := hkp ⟨hpk, by omega⟩
          omega
         with_reducible refine aT fun K' hK => ?_
         simp (maxSteps := 1000000) [hk, hkl, hkl', hkn, hpk, hpn, ek, hne]
         refine hK _ _ _ ?_
         clear K' hK
         with_reducible refine aw_end ?_
         simp
        ·skip
         with_reducible refine aT fun K' hK => ?_
         simp (maxSteps := 1000000) [hk, hkl, hkl', hkn, hpk, hpn, ek]
         refine hK _ _ _ ?_
         clear K' hK
         with_reducible refine aw_end ?_
         simp
       ·skip
        with_reducible refine aT fun K' hK => ?_
        simp (maxSteps := 1000000) [hk, hkl, hkl', hkn, hpk, ek]
        refine hK _ _ _ ?_
        clear K' hK
        with_reducible refine aw_end ?_
        simp
      ·rintro s G nx ⟨s0, s1, s7, s90⟩
       with_reducible refine aC fun A B hA hB => ?_
       simp [s90]
       refine ⟨fun hc => hA ?_, fun hc => hB ?_⟩ <;> clear hA hB A B <;> (try (simp at hc; done)) <;> (try (exfalso; simp at hc; omega)) <;> clear hc <;> (try with_reducible refine aK ?_)
       with_reducible refine aR fun K' hK => ?_
       simp [s1]
       refine hK _ _ _ ?_
       clear K' hK
       with_reducible refine aw_block ?_
       refine aw_loop (fun s G nx => s 0 = rowT Pl.cells t ∧ s 1 = iV n ∧ s 7 = iV k ∧ ∃ a : Nat, s 8 = iV a ∧ a < t.length ∧ underF t a (parN t k) = true) (fun s _ _ => match s 8 with | .v (.int _ n) => n.toNat | _ => 0) ?_ ?_
       ·exact ⟨by simp [s0], by simp [s1], by simp [s7], n.toNat, by simp; omega, by omega, hku⟩
       ·clear s0 s1 s7 s90
        rintro s G nx hf ⟨s0, s1, s7, a, s8, ha, hu⟩
        have o8 := s8
        have hin : (0 : Int) ≤ k := by omega
        by_cases ha0 : a = 0
        ·subst ha0
         have hx := under_le g ha hu
         have hp0 : parN t k = 0 := by omega
         with_reducible refine aA ?_
         with_reducible refine aR fun K' hK => ?_
         simp [s0, s7, s8]
         refine hK _ _ _ ?_
         clear K' hK
         with_reducible refine aC fun A B hA hB => ?_
         simp []
         refine ⟨fun hc => hA ?_, fun hc => hB ?_⟩ <;> clear hA hB A B <;> (try (simp at hc; done)) <;> (try (exfalso; simp at hc; omega)) <;> clear hc <;> (try with_reducible refine aK ?_)
         with_reducible refine aw_exit ?_
         refine loopK_exit (blockK_exit ?_)
         with_reducible refine aR fun K' hK => ?_
         simp [s0, s7, s8, hkl, ek, hp0]
         refine acall_flat gives26_ok rfl (by simp) ?_
         simp [s0, s7, s8, hkl, ek, hp0]
         refine hK _ _ _ ?_
         clear K' hK
         first | with_reducible refine aw_ret ?_ | with_reducible refine aw_retL ?_ | with_reducible refine aw_skipL ?_
         simp [blockK, loopK, Post, resA, res1, expT, expA, exp1, expM, expL, okT, okA, ok1, rowOf, Tryz.f7]
        ·have ha1 : 0 < a := by omega
         have ha1' : (0 : Int) < a := by omega
         by_cases he : parN t k = (a : Int)
         ·with_reducible refine aA ?_
          with_reducible refine aR fun K' hK => ?_
          simp [s0, s7, s8, hkl, ek, he, ha1, ha1']
          refine hK _ _ _ ?_
          clear K' hK
          with_reducible refine aC fun A B hA hB => ?_
          simp []
          refine ⟨fun hc => hA ?_, fun hc => hB ?_⟩ <;> clear hA hB A B <;> (try (simp at hc; done)) <;> (try (exfalso; simp at hc; omega)) <;> clear hc <;> (try with_reducible refine aK ?_)
          with_reducible refine aw_exit ?_
          refine loopK_exit (blockK_exit ?_)
          with_reducible refine aR fun K' hK => ?_
          simp [s0, s7, s8, hkl, ek, he]
          refine acall_flat gives26_ok rfl (by simp) ?_
          simp [s0, s7, s8, hkl, ek, he]
          refine hK _ _ _ ?_
          clear K' hK
          first | with_reducible refine aw_ret ?_ | with_reducible refine aw_retL ?_ | with_reducible refine aw_skipL ?_
          simp [blockK, loopK, Post, resA, res1, expT, expA, exp1, expM, expL, okT, okA, ok1, rowOf, Tryz.f7]
         ·have he' : ¬ (a : Int) = parN t k := fun e => he e.symm
          with_reducible refine aA ?_
          with_reducible refine aR fun K' hK => ?_
          simp [s0, s7, s8, hkl, ek, he', ha1, ha1']
          refine hK _ _ _ ?_
          clear K' hK
          with_reducible refine aC fun A B hA hB => ?_
          simp []
          refine ⟨fun hc => hA ?_, fun hc => hB ?_⟩ <;> clear hA hB A B <;> (try (simp at hc; done)) <;> (try (exfalso; simp at hc; omega)) <;> clear hc <;> (try with_reducible refine aK ?_)
          obtain ⟨q0, q1, q2, q3⟩ := under_up g ha he' hu
          have ea : (nth t a).par = parN t a := rfl
          with_reducible refine aw_toS (aw_block ?_)
          with_reducible refine aS fun K' hK => ?_
          simp [s0, s8, ha, ea]
          refine hK _ _ _ ?_
          clear K' hK
          with_reducible refine aw_skipL ?_
          refine blockK_normal ?_
          refine aw_skipL (loopK_normal ?_ ?_)
          ·exact ⟨by simp [s0], by simp [s1], by simp [s7], (parN t a).toNat, by simp; omega, by omega, q3⟩
          ·simp [o8]; omega
    ·have hk := toN_none (d := d) hh
     have hhv := holdsV_none (d := d) hh
     have hH := holds30_ok t hT hP n d hR
     by_cases hc : checkN t = 0
     ·by_cases h0 : n < 0
      ·with_reducible refine aA ?_
       with_reducible refine aR fun K' hK => ?_
       simp []
       refine acall_flat (check18_ok t hT) rfl (by first | rfl | (simp []; done) | (simp []; rfl) | (simp []; exact ⟨rfl, rfl⟩)) ?_
       simp [hc, h0]
       refine hK _ _ _ ?_
       clear K' hK
       with_reducible refine aC fun A B hA hB => ?_
       simp []
       refine ⟨fun hc => hA ?_, fun hc => hB ?_⟩ <;> clear hA hB A B <;> (try (simp at hc; done)) <;> (try (exfalso; simp at hc; omega)) <;> clear hc <;> (try with_reducible refine aK ?_)
       with_reducible refine aA ?_
       with_reducible refine aR fun K' hK => ?_
       simp [hk]
       refine acall_flat gives26_ok rfl (by simp) ?_
       simp [hk]
       refine acall_flat hH rfl (by first | rfl | (simp []; done) | (simp []; rfl) | (simp []; exact ⟨rfl, rfl⟩)) ?_
       simp [hhv]
       refine hK _ _ _ ?_
       clear K' hK
       first | with_reducible refine aw_ret ?_ | with_reducible refine aw_retL ?_ | with_reducible refine aw_skipL ?_
       simp [blockK, loopK, Post, resA, res1, expT, expA, exp1, expM, expL, okT, okA, ok1, rowOf, Tryz.f7]
      ·have h1 : (t.length : Int) ≤ n := by
        rcases Int.lt_or_le n t.length with h | h
        ·exact absurd (holds_iff.2 ⟨check_iff.1 hc, by omega, h⟩) hh
        ·exact h
       with_reducible refine aA ?_
       with_reducible refine aR fun K' hK => ?_
       simp []
       refine acall_flat (check18_ok t hT) rfl (by first | rfl | (simp []; done) | (simp []; rfl) | (simp []; exact ⟨rfl, rfl⟩)) ?_
       simp [hc, h0, h1]
       refine hK _ _ _ ?_
       clear K' hK
       with_reducible refine aC fun A B hA hB => ?_
       simp []
       refine ⟨fun hc => hA ?_, fun hc => hB ?_⟩ <;> clear hA hB A B <;> (try (simp at hc; done)) <;> (try (exfalso; simp at hc; omega)) <;> clear hc <;> (try with_reducible refine aK ?_)
       with_reducible refine aA ?_
       with_reducible refine aR fun K' hK => ?_
       simp [hk]
       refine acall_flat gives26_ok rfl (by simp) ?_
       simp [hk]
       refine acall_flat hH rfl (by first | rfl | (simp []; done) | (simp []; rfl) | (simp []; exact ⟨rfl, rfl⟩)) ?_
       simp [hhv]
       refine hK _ _ _ ?_
       clear K' hK
       first | with_reducible refine aw_ret ?_ | with_reducible refine aw_retL ?_ | with_reducible refine aw_skipL ?_
       simp [blockK, loopK, Post, resA, res1, expT, expA, exp1, expM, expL, okT, okA, ok1, rowOf, Tryz.f7]
     ·with_reducible refine aA ?_
      with_reducible refine aR fun K' hK => ?_
      simp []
      refine acall_flat (check18_ok t hT) rfl (by first | rfl | (simp []; done) | (simp []; rfl) | (simp []; exact ⟨rfl, rfl⟩)) ?_
      simp [hc]
      refine hK _ _ _ ?_
      clear K' hK
      with_reducible refine aC fun A B hA hB => ?_
      simp []
      refine ⟨fun hc => hA ?_, fun hc => hB ?_⟩ <;> clear hA hB A B <;> (try (simp at hc; done)) <;> (try (exfalso; simp at hc; omega)) <;> clear hc <;> (try with_reducible refine aK ?_)
      with_reducible refine aA ?_
      with_reducible refine aR fun K' hK => ?_
      simp [hk]
      refine acall_flat gives26_ok rfl (by simp) ?_
      simp [hk]
      refine acall_flat hH rfl (by first | rfl | (simp []; done) | (simp []; rfl) | (simp []; exact ⟨rfl, rfl⟩)) ?_
      simp [hhv]
      refine hK _ _ _ ?_
      clear K' hK
      first | with_reducible refine aw_ret ?_ | with_reducible refine aw_retL ?_ | with_reducible refine aw_skipL ?_
      simp [blockK, loopK, Post, resA, res1, expT, expA, exp1, expM, expL, okT, okA, ok1, rowOf, Tryz.f7]
end Go.Proofs.YtgipehooceecpaaGreatDoorAbs
namespace Go.Proofs.YtgipehooceecpaaGreatDoorAbs
set_option linter.unusedSimpArgs false
set_option linter.unusedVariables false
open Go Go.RowKit Go.Proofs
set_option maxRecDepth 100000
set_option maxHeartbeats 4000000
def RowM (N : Nat) (G : Hp) (x : AV) (acc : List Man) : Prop := ∃ r, x = .row r acc.length ∧ r < N ∧ G r = some (.row 27 (flat Man.cells acc))
theorem RowM.keep {N N' : Nat} {G G' : Hp} {x : AV} {acc : List Man} (h : RowM N G x acc) (hN : N ≤ N') (hg : ∀ i, i < N → G' i = G i) : RowM N' G' x acc := by
 obtain ⟨r, h1, h2, h3⟩ := h
 exact ⟨r, h1, by omega, by rw [hg r h2]; exact h3⟩
def RowJ (N : Nat) (G : Hp) (x : AV) (acc : List Int) : Prop := (x = .v (.slice none 0 0) ∧ acc = []) ∨ ∃ r, x = .row r acc.length ∧ r < N ∧ G r = some (.row 3 (flat iC acc))
theorem RowJ.keep {N N' : Nat} {G G' : Hp} {x : AV} {acc : List Int} (h : RowJ N G x acc) (hN : N ≤ N') (hg : ∀ i, i < N → G i = some (.row 3 (flat iC acc)) → G' i = G i) : RowJ N' G' x acc := by
 rcases h with h | ⟨r, h1, h2, h3⟩
 ·exact .inl h
 ·exact .inr ⟨r, h1, by omega, by rw [hg r h2 h3]; exact h3⟩
def wrongO (root : Man) (L : List Man) (t : List Pl) : List Int := if codeV root L t = 0 then wrongL root L t else []
theorem wrongR_form (root : Man) (L : List Man) (t : List Pl) : (wrongO root L t = [] ∧ wrongR root L t = (.tup [.v (.slice none 0 0), iV (codeV root L t)], [])) ∨ wrongR root L t = (.tup [.row 0 (wrongO root L t).length, iV (codeV root L t)], [(3, flat iC (wrongO root L t))]) := by
 unfold wrongR wrongO
 by_cases h : codeV root L t = 0
 ·rw [if_pos h, if_pos h]
  by_cases w : wrongL root L t = []
  ·rw [if_pos w, h]; exact .inl ⟨w, rfl⟩
  ·rw [if_neg w, h]; exact .inr rfl
 ·rw [if_neg h, if_neg h]; exact .inr rfl
theorem wrongO_len {root : Man} {L : List Man} {t : List Pl} : (wrongO root L t).length ≤ t.length := by
 unfold wrongO
 split
 ·exact Nat.le_trans (List.length_filter_le _ _) belowL_len
 ·simp
theorem names6_ok (root : Man) (L : List Man) (t : List Pl) (hl : L.length ≤ 9223372036854775807) (htl : t.length ≤ 9223372036854775807) : CallsOK Tryz.prog 6 [.agg root.cells, rowT Man.cells L, rowT Pl.cells t] (bV true) [] := by
 refine callsOK mixed Tryz.call6 Tryz.func6 rfl (by rw [Tryz.ntmps6]; simp) ?_ rfl
 rw [Tryz.ntmps6]
 with_reducible refine aR fun K' hK => ?_
 simp []
 refine hK _ _ _ ?_
 clear K' hK
 with_reducible refine aA ?_
 with_reducible refine aR fun K' hK => ?_
 simp []
 refine acall_flat (big21_ok root L t hl htl) rfl (by first | rfl | (simp []; done) | (simp []; rfl) | (simp []; exact ⟨rfl, rfl⟩)) ?_
 simp
 refine hK _ _ _ ?_
 clear K' hK
 by_cases hb : bigW root L t = true
 ·skip
  with_reducible refine aC fun A B hA hB => ?_
  simp [hb]
  refine ⟨fun hc => hA ?_, fun hc => hB ?_⟩ <;> clear hA hB A B <;> (try (simp at hc; done)) <;> (try (exfalso; simp at hc; omega)) <;> clear hc <;> (try with_reducible refine aK ?_)
  with_reducible refine aA ?_
  with_reducible refine aR fun K' hK => ?_
  simp []
  refine hK _ _ _ ?_
  clear K' hK
  first | with_reducible refine aw_ret ?_ | with_reducible refine aw_retL ?_ | with_reducible refine aw_skipL ?_
  simp [blockK, loopK, Post, resA, res1, expT, expA, exp1, expM, expL, okT, okA, ok1, rowOf, Tryz.f6]
 ·have hb' : bigW root L t = false := by simpa using hb
  obtain ⟨b1, b2, b3⟩ := bigW_sz hb'
  have hsz : ValSz root L t := valSz_of b1 b2 b3
  have hszF : ValSz root (L.filter (namedT t)) t := valSz_of b1 (bigI_filter b2) b3
  have hI := (bigI_sz b2).1
  have hTl := (bigT_len b3).1
  with_reducible refine aC fun A B hA hB => ?_
  simp [hb]
  refine ⟨fun hc => hA ?_, fun hc => hB ?_⟩ <;> clear hA hB A B <;> (try (simp at hc; done)) <;> (try (exfalso; simp at hc; omega)) <;> clear hc <;> (try with_reducible refine aK ?_)
  with_reducible refine aR fun K' hK => ?_
  simp []
  refine hK _ _ _ ?_
  clear K' hK
  with_reducible refine aA ?_
  with_reducible refine aR fun K' hK => ?_
  simp []
  refine hK _ _ _ ?_
  clear K' hK
  with_reducible refine aw_block ?_
  refine aw_loop (fun s G nx => s 3 = .ptr 0 0 ∧ s 1 = rowT Man.cells L ∧ s 2 = rowT Pl.cells t ∧ G 0 = some (.var 27 root.cells) ∧ ∃ i : Nat, s 8 = iV i ∧ i ≤ L.length ∧ RowM nx G (s 7) ((L.take i).filter (namedT t))) (fun s _ _ => match s 8 with | .v (.int _ n) => L.length - n.toNat | _ => 0) ?_ ?_
  ·exact ⟨by simp, by simp, by simp, by simp, 0, by simp, by omega, 1, by simp, by omega, by simp⟩
  ·rintro s G nx hf ⟨s3, s1, s2, g0, i, s8, hi, hrow⟩
   have o8 := s8
   have hw : IntKind.i64.wrap (↑i + 1) = ((i + 1 : Nat) : Int) := wrapS (by omega)
   with_reducible refine aA ?_
   with_reducible refine aR fun K' hK => ?_
   simp [s1, s8]
   refine hK _ _ _ ?_
   clear K' hK
   with_reducible refine aC fun A B hA hB => ?_
   simp []
   refine ⟨fun hi2 => hA ?_, fun hi2 => hB ?_⟩ <;> clear hA hB A B <;> (try simp at hi2) <;> (try with_reducible refine aK ?_)
   ·have hst : (L.take (i + 1)).filter (namedT t) = (L.take i).filter (namedT t) ++ if namedT t (nth L i) = true then [nth L i] else [] := by
     rw [List.take_add_one, List.getElem?_eq_getElem hi2, List.filter_append, ← nth_eq hi2]
     congr 1
     cases hf2 : namedT t (nth L i) <;> simp [hf2]
    have hal : ((L.take i).filter (namedT t)).length ≤ 1000 := Nat.le_trans (List.length_filter_le _ _) (by rw [List.length_take]; omega)
    have hnm : namedT t (nth L i) = t.any fun p => decide (p.name = (nth L i).name) := rfl
    generalize hgm : nth L i = m at *
    generalize (L.take i).filter (namedT t) = acc at *
    with_reducible refine aw_block ?_
    with_reducible refine aR fun K' hK => ?_
    simp []
    refine hK _ _ _ ?_
    clear K' hK
    with_reducible refine aA ?_
    with_reducible refine aR fun K' hK => ?_
    simp []
    refine hK _ _ _ ?_
    clear K' hK
    with_reducible refine aw_block ?_
    refine aw_loop (fun s' G' nx' => nx' = nx ∧ G' = G ∧ s' 7 = s 7 ∧ s' 3 = .ptr 0 0 ∧ s' 1 = rowT Man.cells L ∧ s' 2 = rowT Pl.cells t ∧ s' 8 = iV i ∧ ∃ k : Nat, s' 10 = iV k ∧ k ≤ t.length ∧ s' 9 = bV ((t.take k).any fun p => decide (p.name = m.name))) (fun s _ _ => match s 10 with | .v (.int _ n) => t.length - n.toNat | _ => 0) ?_ ?_
    ·exact ⟨rfl, rfl, by simp, by simp [s3], by simp [s1], by simp [s2], by simp [s8], 0, by simp, by omega, by simp⟩
    ·rintro s' G' nx' hf' ⟨rfl, rfl, u7, u3, u1, u2, u8, k, u10, hk, u9⟩
     have hwk : IntKind.i64.wrap (↑k + 1) = ((k + 1 : Nat) : Int) := wrapS (by omega)
     with_reducible refine aA ?_
     with_reducible refine aR fun K' hK => ?_
     simp [u2, u10]
     refine hK _ _ _ ?_
     clear K' hK
     with_reducible refine aC fun A B hA hB => ?_
     simp []
     refine ⟨fun hk2 => hA ?_, fun hk2 => hB ?_⟩ <;> clear hA hB A B <;> (try simp at hk2) <;> (try with_reducible refine aK ?_)
     ·have hstep := any_take1 (p := fun p : Pl => decide (p.name = m.name)) hk2
      with_reducible refine aw_block ?_
      generalize hin : ((t.take k).any fun p => decide (p.name = m.name)) = x at *
      cases x with
      | true =>
       with_reducible refine aT fun K' hK => ?_
       simp (maxSteps := 1000000) [u9]
       refine hK _ _ _ ?_
       clear K' hK
       with_reducible refine aw_skipL ?_
       refine blockK_normal ?_
       with_reducible refine aS fun K' hK => ?_
       simp [u10, hwk]
       refine hK _ _ _ ?_
       clear K' hK
       refine aw_skipL (loopK_normal ?_ ?_)
       ·exact ⟨rfl, rfl, by simp [u7], by simp [u3], by simp [u1], by simp [u2], by simp [u8], k + 1, by simp [hwk], by omega, by rw [hstep]; simp⟩
       ·simp [u10, hwk]; omega
      | false =>
       with_reducible refine aT fun K' hK => ?_
       simp (maxSteps := 1000000) [u9, u1, u2, u8, u10, hi2, hk2, hgm]
       refine hK _ _ _ ?_
       clear K' hK
       with_reducible refine aw_skipL ?_
       refine blockK_normal ?_
       with_reducible refine aS fun K' hK => ?_
       simp [u10, hwk]
       refine hK _ _ _ ?_
       clear K' hK
       refine aw_skipL (loopK_normal ?_ ?_)
       ·exact ⟨rfl, rfl, by simp [u7], by simp [u3], by simp [u1], by simp [u2], by simp [u8], k + 1, by simp [hwk], by omega, by rw [hstep]; simp⟩
       ·simp [u10, hwk]; omega
     ·skip
      with_reducible refine aw_exit ?_
      refine loopK_exit (blockK_exit ?_)
      rw [List.take_of_length_le (by omega), ← hnm] at u9
      with_reducible refine aR fun K' hK => ?_
      simp [u9]
      refine hK _ _ _ ?_
      clear K' hK
      by_cases hnt : namedT t m = true
      ·rw [if_pos hnt] at hst
       with_reducible refine aD fun A B hA hB => ?_
       simp [hnt]
       refine ⟨fun hc => hA ?_, fun hc => hB ?_⟩ <;> clear hA hB A B <;> (try (simp at hc; done)) <;> (try (exfalso; simp at hc; omega)) <;> clear hc <;> (try with_reducible refine aK ?_)
       have b1 : acc.length + 1 ≤ 9223372036854775807 := by omega
       have b2 : (acc.length + 1) * 104 ≤ 140737488355328 := by omega
       have n0 : ¬ 0 = nx' := by have := fresh_lt hf' g0; omega
       have n01 : ¬ 0 = nx' + 1 := by omega
       obtain ⟨r, hx, hr, hG⟩ := hrow
       have r1 : ¬ r = nx' := by omega
       have r2 : ¬ nx' = r := by omega
       with_reducible refine aR fun K' hK => ?_
       simp [u7, hx, u1, u8, hi2, hgm, hG, r1, r2, b1, b2, treeOf_row, srcOf_row]
       refine hK _ _ _ ?_
       clear K' hK
       with_reducible refine aw_skipL ?_
       refine blockK_normal ?_
       with_reducible refine aS fun K' hK => ?_
       simp [u8, hw]
       refine hK _ _ _ ?_
       clear K' hK
       refine aw_skipL (loopK_normal ?_ ?_)
       ·have r0 : ¬ 0 = r := fun e => by rw [← e, g0] at hG; cases hG
        exact ⟨by simp [u3], by simp [u1], by simp [u2], by simp [g0, n0, n01, r0], i + 1, by simp [hw], by omega, nx' + 1, by rw [hst]; simp, by omega, by rw [hst]; simp [← flat_snoc]⟩
       ·simp [o8, u8, hw]; omega
      ·rw [if_neg hnt, List.append_nil] at hst
       with_reducible refine aD fun A B hA hB => ?_
       simp [hnt]
       refine ⟨fun hc => hA ?_, fun hc => hB ?_⟩ <;> clear hA hB A B <;> (try (simp at hc; done)) <;> (try (exfalso; simp at hc; omega)) <;> clear hc <;> (try with_reducible refine aK ?_)
       with_reducible refine aw_skipL ?_
       refine blockK_normal ?_
       with_reducible refine aS fun K' hK => ?_
       simp [u8, hw]
       refine hK _ _ _ ?_
       clear K' hK
       refine aw_skipL (loopK_normal ?_ ?_)
       ·exact ⟨by simp [u3], by simp [u1], by simp [u2], by simp [g0], i + 1, by simp [hw], by omega, by simp [u7, hst]; exact hrow⟩
       ·simp [o8, u8, hw]; omega
   ·skip
    with_reducible refine aw_exit ?_
    refine loopK_exit (blockK_exit ?_)
    rw [List.take_of_length_le (by omega)] at hrow
    have hW := wrong35_ok root L t hsz
    have hWF := wrong35_ok root (L.filter (namedT t)) t hszF
    have hfm := wrongR_form root L t
    have hfmF := wrongR_form root (L.filter (namedT t)) t
    have hol : (wrongO root L t).length ≤ 1000000000 := Nat.le_trans wrongO_len (by omega)
    have hlaw : codeV root L t = 0 → codeV root (L.filter (namedT t)) t = 0 ∧ wrongO root L t = wrongO root (L.filter (namedT t)) t := fun hc => by
     have h2 := names_plain hc
     exact ⟨h2, by rw [wrongO, wrongO, if_pos hc, if_pos h2, wrongL_filter]⟩
    generalize wrongO root L t = W at *
    generalize codeV root L t = c at *
    generalize wrongO root (L.filter (namedT t)) t = W2 at *
    generalize codeV root (L.filter (namedT t)) t = c2 at *
    generalize wrongR root L t = RW at *
    generalize wrongR root (L.filter (namedT t)) t = RW2 at *
    generalize L.filter (namedT t) = Y at *
    have hnx : 0 < nx := fresh_lt hf g0
    have n0 : ¬ 0 = nx := by omega
    obtain ⟨y, s7⟩ : ∃ y, s 7 = y := ⟨_, rfl⟩
    rw [s7] at hrow
    refine aw_cut (fun s' G' nx' => s' 3 = .ptr 0 0 ∧ s' 2 = rowT Pl.cells t ∧ s' 7 = y ∧ 0 < nx' ∧ G' 0 = some (.var 27 root.cells) ∧ RowM nx' G' y Y ∧ s' 12 = iV c ∧ RowJ nx' G' (s' 11) W) ?_ ?_
    ·rcases hfm with ⟨hw, rfl⟩ | rfl
     ·skip
      with_reducible refine aS fun K' hK => ?_
      simp [s3, s1, s2, g0]
      refine acall_new hW (by first | rfl | (simp []; done) | (simp []; rfl) | (simp []; exact ⟨rfl, rfl⟩)) ?_
      simp [addJ_nil]
      refine hK _ _ _ ?_
      clear K' hK
      with_reducible refine aw_end ?_
      exact ⟨by simp [s3], by simp [s2], by simp [s7], hnx, by simp [g0], hrow, by simp, .inl ⟨by simp, hw⟩⟩
     ·skip
      with_reducible refine aS fun K' hK => ?_
      simp [s3, s1, s2, g0]
      refine acall_new hW (by first | rfl | (simp []; done) | (simp []; rfl) | (simp []; exact ⟨rfl, rfl⟩)) ?_
      simp [addJ_one]
      refine hK _ _ _ ?_
      clear K' hK
      with_reducible refine aw_end ?_
      exact ⟨by simp [s3], by simp [s2], by simp [s7], by omega, by simp [g0, n0], hrow.keep (by omega) (fun i hi => Hp.upd_ne _ _ (by omega)), by simp, .inr ⟨nx, by simp, by omega, by simp⟩⟩
    ·clear s3 s1 s2 g0 s7 hrow hnx n0 hW hfm
     rintro s G nx ⟨s3, s2, s7, hnx, g0, hrow, s12, hj⟩
     obtain ⟨x, s11⟩ : ∃ x, s 11 = x := ⟨_, rfl⟩
     rw [s11] at hj
     refine aw_cut (fun s' G' nx' => s' 12 = iV c ∧ s' 14 = iV c2 ∧ RowJ nx' G' (s' 11) W ∧ RowJ nx' G' (s' 13) W2) ?_ ?_
     ·obtain ⟨r, rfl, hr, hG⟩ := hrow
      have c27 : Tryz.prog.cellsOf 27 = 7 := by kernel_rfl
      have hT : treeOf Tryz.prog G (.row r Y.length) = some (rowT Man.cells Y) := treeOf_of hG c27 rfl
      have hk : ∀ i, i < nx → G i = some (.row 3 (flat iC W)) → frzOf G (.row r Y.length) i = G i := fun i _ hi => frzOf_ne (fun e => by subst e; rw [hi] at hG; injection hG with hG; injection hG with hG; cases hG)
      rcases hfmF with ⟨hw, rfl⟩ | rfl
      ·skip
       with_reducible refine aS fun K' hK => ?_
       simp [s3, s2, s7, g0]
       refine acall_new hWF (by first | rfl | (simp [hT]; done) | (simp [hT]; rfl) | (simp [hT]; exact ⟨rfl, rfl⟩)) ?_
       simp [addJ_nil, hT]
       refine hK _ _ _ ?_
       clear K' hK
       with_reducible refine aw_end ?_
       exact ⟨by simp [s12], by simp, by simp [s11]; exact hj.keep (by omega) hk, .inl ⟨by simp, hw⟩⟩
      ·skip
       with_reducible refine aS fun K' hK => ?_
       simp [s3, s2, s7, g0]
       refine acall_new hWF (by first | rfl | (simp [hT]; done) | (simp [hT]; rfl) | (simp [hT]; exact ⟨rfl, rfl⟩)) ?_
       simp [addJ_one, hT]
       refine hK _ _ _ ?_
       clear K' hK
       with_reducible refine aw_end ?_
       exact ⟨by simp [s12], by simp, by simp [s11]; exact hj.keep (by omega) (fun i hi h2 => by rw [Hp.upd_ne _ _ (by omega)]; exact hk i hi h2), .inr ⟨nx, by simp, by omega, by simp⟩⟩
     ·clear s3 s2 g0 s7 hnx s12 hj s11 hWF hfmF
      rintro s G nx ⟨s12, s14, hj, hj2⟩
      have c3 : Tryz.prog.cellsOf 3 = 1 := by kernel_rfl
      by_cases hc : c = 0
      ·obtain ⟨rfl, rfl⟩ := hlaw hc
       have hI := ints27_ok W W hol
       subst hc
       with_reducible refine aA ?_
       with_reducible refine aR fun K' hK => ?_
       simp [s12]
       refine hK _ _ _ ?_
       clear K' hK
       with_reducible refine aC fun A B hA hB => ?_
       simp []
       refine ⟨fun hc => hA ?_, fun hc => hB ?_⟩ <;> clear hA hB A B <;> (try (simp at hc; done)) <;> (try (exfalso; simp at hc; omega)) <;> clear hc <;> (try with_reducible refine aK ?_)
       rcases hj with ⟨h11, hW0⟩ | ⟨r, h11, hr, hG⟩
       ·rcases hj2 with ⟨h13, _⟩ | ⟨r2, h13, hr2, hG2⟩
        ·subst hW0
         with_reducible refine aR fun K' hK => ?_
         simp [s14, h11, h13]
         refine acall_flat gives26_ok rfl (by simp) ?_
         simp [s14, h11, h13]
         refine acall_flat (hI.weak (.cons .nilRow (.cons .nilRow .nil))) rfl (by first | rfl | (simp []; done) | (simp []; rfl) | (simp []; exact ⟨rfl, rfl⟩)) ?_
         simp
         refine hK _ _ _ ?_
         clear K' hK
         first | with_reducible refine aw_ret ?_ | with_reducible refine aw_retL ?_ | with_reducible refine aw_skipL ?_
         simp [blockK, loopK, Post, resA, res1, expT, expA, exp1, expM, expL, okT, okA, ok1, rowOf, Tryz.f6]
        ·subst hW0
         with_reducible refine aR fun K' hK => ?_
         simp [s14, h11, h13]
         refine acall_flat gives26_ok rfl (by simp) ?_
         simp [s14, h11, h13]
         refine acall_flat (hI.weak (.cons .nilRow (.cons (.refl _) .nil))) rfl (by simp only [seesA, seeA, lookA, show treeOf Tryz.prog G (.row r2 0) = some (rowT iC []) from treeOf_of hG2 c3 rfl]) ?_
         simp
         refine hK _ _ _ ?_
         clear K' hK
         first | with_reducible refine aw_ret ?_ | with_reducible refine aw_retL ?_ | with_reducible refine aw_skipL ?_
         simp [blockK, loopK, Post, resA, res1, expT, expA, exp1, expM, expL, okT, okA, ok1, rowOf, Tryz.f6]
       ·rcases hj2 with ⟨h13, hW0⟩ | ⟨r2, h13, hr2, hG2⟩
        ·subst hW0
         with_reducible refine aR fun K' hK => ?_
         simp [s14, h11, h13]
         refine acall_flat gives26_ok rfl (by simp) ?_
         simp [s14, h11, h13]
         refine acall_flat (hI.weak (.cons (.refl _) (.cons .nilRow .nil))) rfl (by simp only [seesA, seeA, lookA, show treeOf Tryz.prog G (.row r 0) = some (rowT iC []) from treeOf_of hG c3 rfl]) ?_
         simp
         refine hK _ _ _ ?_
         clear K' hK
         first | with_reducible refine aw_ret ?_ | with_reducible refine aw_retL ?_ | with_reducible refine aw_skipL ?_
         simp [blockK, loopK, Post, resA, res1, expT, expA, exp1, expM, expL, okT, okA, ok1, rowOf, Tryz.f6]
        ·skip
         with_reducible refine aR fun K' hK => ?_
         simp [s14, h11, h13]
         refine acall_flat gives26_ok rfl (by simp) ?_
         simp [s14, h11, h13]
         refine acall_flat hI rfl (by simp only [seesA, seeA, lookA, show treeOf Tryz.prog G (.row r W.length) = some (rowT iC W) from treeOf_of hG c3 rfl, show treeOf Tryz.prog G (.row r2 W.length) = some (rowT iC W) from treeOf_of hG2 c3 rfl]) ?_
         simp
         refine hK _ _ _ ?_
         clear K' hK
         first | with_reducible refine aw_ret ?_ | with_reducible refine aw_retL ?_ | with_reducible refine aw_skipL ?_
         simp [blockK, loopK, Post, resA, res1, expT, expA, exp1, expM, expL, okT, okA, ok1, rowOf, Tryz.f6]
      ·with_reducible refine aA ?_
       with_reducible refine aR fun K' hK => ?_
       simp [s12, hc]
       refine hK _ _ _ ?_
       clear K' hK
       with_reducible refine aC fun A B hA hB => ?_
       simp []
       refine ⟨fun hc => hA ?_, fun hc => hB ?_⟩ <;> clear hA hB A B <;> (try (simp at hc; done)) <;> (try (exfalso; simp at hc; omega)) <;> clear hc <;> (try with_reducible refine aK ?_)
       with_reducible refine aA ?_
       with_reducible refine aR fun K' hK => ?_
       simp []
       refine acall_flat gives26_ok rfl (by simp) ?_
       simp
       refine hK _ _ _ ?_
       clear K' hK
       first | with_reducible refine aw_ret ?_ | with_reducible refine aw_retL ?_ | with_reducible refine aw_skipL ?_
       simp [blockK, loopK, Post, resA, res1, expT, expA, exp1, expM, expL, okT, okA, ok1, rowOf, Tryz.f6]
end Go.Proofs.YtgipehooceecpaaGreatDoorAbs
namespace Go.Proofs.YtgipehooceecpaaGreatDoorAbs
set_option linter.unusedSimpArgs false
set_option linter.unusedVariables false
open Go Go.RowKit Go.Proofs
set_option maxRecDepth 100000
set_option maxHeartbeats 400000
theorem numP_atoi {l : List UInt8} (h : numOk l = true) : numP l = true ∧ numR l = atoiN l := by
 have hp : numP l = true ∧ l.length ≤ 6 := by
  unfold numOk at h
  simp only [Bool.and_eq_true, decide_eq_true_eq] at h
  exact ⟨h.1, h.2.1⟩
 have h2 := hp.1
 rw [numP_eq] at h2
 simp only [Bool.and_eq_true, Bool.not_eq_true', decide_eq_false_iff_not] at h2
 refine ⟨hp.1, ?_⟩
 rw [numR, if_pos h, atoi_num h2.1 h2.2 (by omega)]
theorem partF_num {l : List UInt8} (h : partF l = true) (hn : numP l = true) : numR l = atoiN l := by
 unfold partF at h
 simp only [Bool.and_eq_true, beq_iff_eq] at h
 rw [hn] at h
 exact (numP_atoi h.2.2.2.symm).2
def partsR (a b : Bs) : Int := if numP (bsL a) = true ∧ numP (bsL b) = true then cmpI (numR (bsL a)) (numR (bsL b)) else if numP (bsL a) = true then -1 else if numP (bsL b) = true then 1 else cmpB a b
theorem partsR_eq {a b : Bs} (ha : partF (bsL a) = true) (hb : partF (bsL b) = true) : partsR a b = partsN a b := by
 unfold partsR partsN
 by_cases h1 : numP (bsL a) = true
 ·by_cases h2 : numP (bsL b) = true
  ·rw [if_pos ⟨h1, h2⟩, if_pos h1, if_pos h2, partF_num ha h1, partF_num hb h2]
  ·rw [if_neg (fun h => h2 h.2), if_pos h1, if_pos h1, if_neg h2]
 ·rw [if_neg (fun h => h1 h.1), if_neg h1, if_neg h1]
end Go.Proofs.YtgipehooceecpaaGreatDoorAbs
namespace Go.Proofs.YtgipehooceecpaaGreatDoorAbs
set_option linter.unusedSimpArgs false
set_option linter.unusedVariables false
open Go Go.RowKit Go.Proofs
set_option maxRecDepth 100000
set_option maxHeartbeats 4000000
theorem order227_ok (a b : Int) : CallsOK Tryz.prog 227 [iV a, iV b] (iV (cmpI a b)) [] := by
 refine callsOK mixed Tryz.call227 Tryz.func227 rfl (by rw [Tryz.ntmps227]; simp) ?_ rfl
 rw [Tryz.ntmps227]
 with_reducible refine aR fun K' hK => ?_
 simp []
 refine hK _ _ _ ?_
 clear K' hK
 by_cases h1 : a < b
 ·with_reducible refine aA ?_
  with_reducible refine aR fun K' hK => ?_
  simp [h1]
  refine hK _ _ _ ?_
  clear K' hK
  with_reducible refine aC fun A B hA hB => ?_
  simp [h1]
  refine ⟨fun hc => hA ?_, fun hc => hB ?_⟩ <;> clear hA hB A B <;> (try (simp at hc; done)) <;> (try (exfalso; simp at hc; omega)) <;> clear hc <;> (try with_reducible refine aK ?_)
  with_reducible refine aA ?_
  with_reducible refine aR fun K' hK => ?_
  simp []
  refine hK _ _ _ ?_
  clear K' hK
  first | with_reducible refine aw_ret ?_ | with_reducible refine aw_retL ?_ | with_reducible refine aw_skipL ?_
  simp [blockK, loopK, Post, resA, res1, expT, expA, exp1, expM, expL, okT, okA, ok1, rowOf, Tryz.f227]
  simp [cmpI, h1]
 ·with_reducible refine aA ?_
  with_reducible refine aR fun K' hK => ?_
  simp [h1]
  refine hK _ _ _ ?_
  clear K' hK
  with_reducible refine aC fun A B hA hB => ?_
  simp [h1]
  refine ⟨fun hc => hA ?_, fun hc => hB ?_⟩ <;> clear hA hB A B <;> (try (simp at hc; done)) <;> (try (exfalso; simp at hc; omega)) <;> clear hc <;> (try with_reducible refine aK ?_)
  by_cases h2 : b < a
  ·with_reducible refine aA ?_
   with_reducible refine aR fun K' hK => ?_
   simp [h2]
   refine hK _ _ _ ?_
   clear K' hK
   with_reducible refine aC fun A B hA hB => ?_
   simp [h2]
   refine ⟨fun hc => hA ?_, fun hc => hB ?_⟩ <;> clear hA hB A B <;> (try (simp at hc; done)) <;> (try (exfalso; simp at hc; omega)) <;> clear hc <;> (try with_reducible refine aK ?_)
   with_reducible refine aA ?_
   with_reducible refine aR fun K' hK => ?_
   simp []
   refine hK _ _ _ ?_
   clear K' hK
   first | with_reducible refine aw_ret ?_ | with_reducible refine aw_retL ?_ | with_reducible refine aw_skipL ?_
   simp [blockK, loopK, Post, resA, res1, expT, expA, exp1, expM, expL, okT, okA, ok1, rowOf, Tryz.f227]
   simp [cmpI, h1, h2]
  ·with_reducible refine aA ?_
   with_reducible refine aR fun K' hK => ?_
   simp [h2]
   refine hK _ _ _ ?_
   clear K' hK
   with_reducible refine aC fun A B hA hB => ?_
   simp [h2]
   refine ⟨fun hc => hA ?_, fun hc => hB ?_⟩ <;> clear hA hB A B <;> (try (simp at hc; done)) <;> (try (exfalso; simp at hc; omega)) <;> clear hc <;> (try with_reducible refine aK ?_)
   with_reducible refine aR fun K' hK => ?_
   simp []
   refine hK _ _ _ ?_
   clear K' hK
   first | with_reducible refine aw_ret ?_ | with_reducible refine aw_retL ?_ | with_reducible refine aw_skipL ?_
   simp [blockK, loopK, Post, resA, res1, expT, expA, exp1, expM, expL, okT, okA, ok1, rowOf, Tryz.f227]
   simp [cmpI, h1, h2]
theorem small228_ok (a b : Bs) : CallsOK Tryz.prog 228 [sV a, sV b] (iV (if a = ⟨#[]⟩ ∧ b = ⟨#[]⟩ then 0 else 1)) [] := by
 refine callsOK mixed Tryz.call228 Tryz.func228 rfl (by rw [Tryz.ntmps228]; simp) ?_ rfl
 rw [Tryz.ntmps228]
 with_reducible refine aR fun K' hK => ?_
 simp []
 refine hK _ _ _ ?_
 clear K' hK
 by_cases h1 : a = ⟨#[]⟩
 ·by_cases h2 : b = ⟨#[]⟩
  ·with_reducible refine aA ?_
   with_reducible refine aR fun K' hK => ?_
   simp [h1, h2]
   refine hK _ _ _ ?_
   clear K' hK
   with_reducible refine aC fun A B hA hB => ?_
   simp []
   refine ⟨fun hc => hA ?_, fun hc => hB ?_⟩ <;> clear hA hB A B <;> (try (simp at hc; done)) <;> (try (exfalso; simp at hc; omega)) <;> clear hc <;> (try with_reducible refine aK ?_)
   with_reducible refine aA ?_
   with_reducible refine aR fun K' hK => ?_
   simp []
   refine hK _ _ _ ?_
   clear K' hK
   first | with_reducible refine aw_ret ?_ | with_reducible refine aw_retL ?_ | with_reducible refine aw_skipL ?_
   simp [blockK, loopK, Post, resA, res1, expT, expA, exp1, expM, expL, okT, okA, ok1, rowOf, Tryz.f228]
   simp [h1, h2]
  ·with_reducible refine aA ?_
   with_reducible refine aR fun K' hK => ?_
   simp [h1, h2]
   refine hK _ _ _ ?_
   clear K' hK
   with_reducible refine aC fun A B hA hB => ?_
   simp []
   refine ⟨fun hc => hA ?_, fun hc => hB ?_⟩ <;> clear hA hB A B <;> (try (simp at hc; done)) <;> (try (exfalso; simp at hc; omega)) <;> clear hc <;> (try with_reducible refine aK ?_)
   with_reducible refine aR fun K' hK => ?_
   simp []
   refine hK _ _ _ ?_
   clear K' hK
   first | with_reducible refine aw_ret ?_ | with_reducible refine aw_retL ?_ | with_reducible refine aw_skipL ?_
   simp [blockK, loopK, Post, resA, res1, expT, expA, exp1, expM, expL, okT, okA, ok1, rowOf, Tryz.f228]
   simp [h1, h2]
 ·with_reducible refine aA ?_
  with_reducible refine aR fun K' hK => ?_
  simp [h1]
  refine hK _ _ _ ?_
  clear K' hK
  with_reducible refine aC fun A B hA hB => ?_
  simp []
  refine ⟨fun hc => hA ?_, fun hc => hB ?_⟩ <;> clear hA hB A B <;> (try (simp at hc; done)) <;> (try (exfalso; simp at hc; omega)) <;> clear hc <;> (try with_reducible refine aK ?_)
  with_reducible refine aR fun K' hK => ?_
  simp []
  refine hK _ _ _ ?_
  clear K' hK
  first | with_reducible refine aw_ret ?_ | with_reducible refine aw_retL ?_ | with_reducible refine aw_skipL ?_
  simp [blockK, loopK, Post, resA, res1, expT, expA, exp1, expM, expL, okT, okA, ok1, rowOf, Tryz.f228]
  simp [h1]
theorem parts229_ok (a b : Bs) (ha : a.size ≤ 4000000000) (hb : b.size ≤ 4000000000) : CallsOK Tryz.prog 229 [sV a, sV b] (iV (partsR a b)) [] := by
 refine callsOK mixed Tryz.call229 Tryz.func229 rfl (by rw [Tryz.ntmps229]; simp) ?_ rfl
 rw [Tryz.ntmps229]
 with_reducible refine aR fun K' hK => ?_
 simp []
 refine hK _ _ _ ?_
 clear K' hK
 with_reducible refine aA ?_
 with_reducible refine aR fun K' hK => ?_
 simp []
 refine acall_flat (digits70_ok a (by omega)) rfl (by simp) ?_
 by_cases na : numP (bsL a) = true
 ·simp [na]
  refine acall_flat (digits70_ok b (by omega)) rfl (by simp) ?_
  by_cases nb : numP (bsL b) = true
  ·simp [nb]
   refine hK _ _ _ ?_
   clear K' hK
   with_reducible refine aC fun A B hA hB => ?_
   simp []
   refine ⟨fun hc => hA ?_, fun hc => hB ?_⟩ <;> clear hA hB A B <;> (try (simp at hc; done)) <;> (try (exfalso; simp at hc; omega)) <;> clear hc <;> (try with_reducible refine aK ?_)
   with_reducible refine aA ?_
   with_reducible refine aR fun K' hK => ?_
   simp []
   refine acall_flat (number71_ok a (by omega)) rfl (by simp) ?_
   simp
   refine acall_flat (number71_ok b (by omega)) rfl (by simp) ?_
   simp
   refine acall_flat (order227_ok (numR (bsL a)) (numR (bsL b))) rfl (by simp) ?_
   simp
   refine hK _ _ _ ?_
   clear K' hK
   first | with_reducible refine aw_ret ?_ | with_reducible refine aw_retL ?_ | with_reducible refine aw_skipL ?_
   simp [blockK, loopK, Post, resA, res1, expT, expA, exp1, expM, expL, okT, okA, ok1, rowOf, Tryz.f229]
   simp [partsR, na, nb]
  ·simp [nb]
   refine hK _ _ _ ?_
   clear K' hK
   with_reducible refine aC fun A B hA hB => ?_
   simp []
   refine ⟨fun hc => hA ?_, fun hc => hB ?_⟩ <;> clear hA hB A B <;> (try (simp at hc; done)) <;> (try (exfalso; simp at hc; omega)) <;> clear hc <;> (try with_reducible refine aK ?_)
   with_reducible refine aA ?_
   with_reducible refine aR fun K' hK => ?_
   simp []
   refine acall_flat (digits70_ok a (by omega)) rfl (by simp) ?_
   simp [na]
   refine hK _ _ _ ?_
   clear K' hK
   with_reducible refine aC fun A B hA hB => ?_
   simp []
   refine ⟨fun hc => hA ?_, fun hc => hB ?_⟩ <;> clear hA hB A B <;> (try (simp at hc; done)) <;> (try (exfalso; simp at hc; omega)) <;> clear hc <;> (try with_reducible refine aK ?_)
   with_reducible refine aA ?_
   with_reducible refine aR fun K' hK => ?_
   simp []
   refine hK _ _ _ ?_
   clear K' hK
   first | with_reducible refine aw_ret ?_ | with_reducible refine aw_retL ?_ | with_reducible refine aw_skipL ?_
   simp [blockK, loopK, Post, resA, res1, expT, expA, exp1, expM, expL, okT, okA, ok1, rowOf, Tryz.f229]
   simp [partsR, na, nb]
 ·simp [na]
  refine hK _ _ _ ?_
  clear K' hK
  with_reducible refine aC fun A B hA hB => ?_
  simp []
  refine ⟨fun hc => hA ?_, fun hc => hB ?_⟩ <;> clear hA hB A B <;> (try (simp at hc; done)) <;> (try (exfalso; simp at hc; omega)) <;> clear hc <;> (try with_reducible refine aK ?_)
  with_reducible refine aA ?_
  with_reducible refine aR fun K' hK => ?_
  simp []
  refine acall_flat (digits70_ok a (by omega)) rfl (by simp) ?_
  simp [na]
  refine hK _ _ _ ?_
  clear K' hK
  with_reducible refine aC fun A B hA hB => ?_
  simp []
  refine ⟨fun hc => hA ?_, fun hc => hB ?_⟩ <;> clear hA hB A B <;> (try (simp at hc; done)) <;> (try (exfalso; simp at hc; omega)) <;> clear hc <;> (try with_reducible refine aK ?_)
  with_reducible refine aA ?_
  with_reducible refine aR fun K' hK => ?_
  simp []
  refine acall_flat (digits70_ok b (by omega)) rfl (by simp) ?_
  by_cases nb : numP (bsL b) = true
  ·simp [nb]
   refine hK _ _ _ ?_
   clear K' hK
   with_reducible refine aC fun A B hA hB => ?_
   simp []
   refine ⟨fun hc => hA ?_, fun hc => hB ?_⟩ <;> clear hA hB A B <;> (try (simp at hc; done)) <;> (try (exfalso; simp at hc; omega)) <;> clear hc <;> (try with_reducible refine aK ?_)
   with_reducible refine aA ?_
   with_reducible refine aR fun K' hK => ?_
   simp []
   refine hK _ _ _ ?_
   clear K' hK
   first | with_reducible refine aw_ret ?_ | with_reducible refine aw_retL ?_ | with_reducible refine aw_skipL ?_
   simp [blockK, loopK, Post, resA, res1, expT, expA, exp1, expM, expL, okT, okA, ok1, rowOf, Tryz.f229]
   simp [partsR, na, nb]
  ·simp [nb]
   refine hK _ _ _ ?_
   clear K' hK
   with_reducible refine aC fun A B hA hB => ?_
   simp []
   refine ⟨fun hc => hA ?_, fun hc => hB ?_⟩ <;> clear hA hB A B <;> (try (simp at hc; done)) <;> (try (exfalso; simp at hc; omega)) <;> clear hc <;> (try with_reducible refine aK ?_)
   by_cases h1 : ltB a b = true
   ·with_reducible refine aA ?_
    with_reducible refine aR fun K' hK => ?_
    simp [h1]
    refine hK _ _ _ ?_
    clear K' hK
    with_reducible refine aC fun A B hA hB => ?_
    simp [h1]
    refine ⟨fun hc => hA ?_, fun hc => hB ?_⟩ <;> clear hA hB A B <;> (try (simp at hc; done)) <;> (try (exfalso; simp at hc; omega)) <;> clear hc <;> (try with_reducible refine aK ?_)
    with_reducible refine aA ?_
    with_reducible refine aR fun K' hK => ?_
    simp []
    refine hK _ _ _ ?_
    clear K' hK
    first | with_reducible refine aw_ret ?_ | with_reducible refine aw_retL ?_ | with_reducible refine aw_skipL ?_
    simp [blockK, loopK, Post, resA, res1, expT, expA, exp1, expM, expL, okT, okA, ok1, rowOf, Tryz.f229]
    simp [partsR, na, nb, cmpB, h1]
   ·with_reducible refine aA ?_
    with_reducible refine aR fun K' hK => ?_
    simp [h1]
    refine hK _ _ _ ?_
    clear K' hK
    with_reducible refine aC fun A B hA hB => ?_
    simp [h1]
    refine ⟨fun hc => hA ?_, fun hc => hB ?_⟩ <;> clear hA hB A B <;> (try (simp at hc; done)) <;> (try (exfalso; simp at hc; omega)) <;> clear hc <;> (try with_reducible refine aK ?_)
    by_cases h2 : ltB b a = true
    ·with_reducible refine aA ?_
     with_reducible refine aR fun K' hK => ?_
     simp [h2]
     refine hK _ _ _ ?_
     clear K' hK
     with_reducible refine aC fun A B hA hB => ?_
     simp [h2]
     refine ⟨fun hc => hA ?_, fun hc => hB ?_⟩ <;> clear hA hB A B <;> (try (simp at hc; done)) <;> (try (exfalso; simp at hc; omega)) <;> clear hc <;> (try with_reducible refine aK ?_)
     with_reducible refine aA ?_
     with_reducible refine aR fun K' hK => ?_
     simp []
     refine hK _ _ _ ?_
     clear K' hK
     first | with_reducible refine aw_ret ?_ | with_reducible refine aw_retL ?_ | with_reducible refine aw_skipL ?_
     simp [blockK, loopK, Post, resA, res1, expT, expA, exp1, expM, expL, okT, okA, ok1, rowOf, Tryz.f229]
     simp [partsR, na, nb, cmpB, h1, h2]
    ·with_reducible refine aA ?_
     with_reducible refine aR fun K' hK => ?_
     simp [h2]
     refine hK _ _ _ ?_
     clear K' hK
     with_reducible refine aC fun A B hA hB => ?_
     simp [h2]
     refine ⟨fun hc => hA ?_, fun hc => hB ?_⟩ <;> clear hA hB A B <;> (try (simp at hc; done)) <;> (try (exfalso; simp at hc; omega)) <;> clear hc <;> (try with_reducible refine aK ?_)
     with_reducible refine aR fun K' hK => ?_
     simp []
     refine hK _ _ _ ?_
     clear K' hK
     first | with_reducible refine aw_ret ?_ | with_reducible refine aw_retL ?_ | with_reducible refine aw_skipL ?_
     simp [blockK, loopK, Post, resA, res1, expT, expA, exp1, expM, expL, okT, okA, ok1, rowOf, Tryz.f229]
     simp [partsR, na, nb, cmpB, h1, h2]
theorem okParts {v : Ver} (h : verOk v = true) (hp : v.pre ≠ ⟨#[]⟩) : ∀ b ∈ strs (spl (bsL v.pre)), partF (bsL b) = true := by
 intro b hb
 simp only [verOk, preOk, Bool.and_eq_true, Bool.or_eq_true, decide_eq_true_eq] at h
 rcases h.1 with h1 | h1
 ·exact absurd ((empty_iff _).2 h1) hp
 ·rw [dot_spl, Bool.and_eq_true, List.all_eq_true] at h1
  obtain ⟨l, hl, rfl⟩ := List.mem_map.1 hb
  have : bsL (ofL l) = l := by simp [bsL, ofL]
  rw [this]; exact h1.2 l hl
end Go.Proofs.YtgipehooceecpaaGreatDoorAbs
namespace Go.Proofs.YtgipehooceecpaaGreatDoorAbs
set_option linter.unusedSimpArgs false
set_option linter.unusedVariables false
open Go Go.RowKit Go.Proofs
set_option maxRecDepth 100000
set_option maxHeartbeats 4000000
theorem cmpI_lt {a b : Int} (h : a < b) : cmpI a b = -1 := by unfold cmpI; rw [if_pos h]
theorem cmpI_gt {a b : Int} (h : b < a) : cmpI a b = 1 := by unfold cmpI; rw [if_neg (by omega), if_pos h]
theorem size_pos {a : Bs} (h : ¬ a = ⟨#[]⟩) : 0 < a.size := by
 rcases Nat.eq_zero_or_pos a.size with h2 | h2
 ·exact absurd (ByteArray.size_eq_zero_iff.1 h2) h
 ·exact h2
theorem wrap_0 : IntKind.i64.wrap 0 = 0 := by decide
theorem wrap_1 : IntKind.i64.wrap 1 = 1 := by decide
theorem wrap_m1 : IntKind.i64.wrap (-1) = -1 := by decide
theorem compare192_ok (a b : Ver) (ha : a.pre.size ≤ 1000000) (hb : b.pre.size ≤ 1000000) : CallsOK Tryz.prog 192 [.agg a.cells, .agg b.cells] (iV (comparN a b)) [] := by
 refine callsOK mixed Tryz.call192 Tryz.func192 rfl (by rw [Tryz.ntmps192]; simp) ?_ rfl
 rw [Tryz.ntmps192]
 with_reducible refine aR fun K' hK => ?_
 simp []
 refine hK _ _ _ ?_
 clear K' hK
 with_reducible refine aA ?_
 with_reducible refine aR fun K' hK => ?_
 simp []
 refine acall_flat (right37_ok a (by omega)) rfl (by simp) ?_
 by_cases va : verOk a = true
 ·simp [va]
  refine acall_flat (right37_ok b (by omega)) rfl (by simp) ?_
  by_cases vb : verOk b = true
  ·simp [vb]
   refine hK _ _ _ ?_
   clear K' hK
   with_reducible refine aC fun A B hA hB => ?_
   simp []
   refine ⟨fun hc => hA ?_, fun hc => hB ?_⟩ <;> clear hA hB A B <;> (try (simp at hc; done)) <;> (try (exfalso; simp at hc; omega)) <;> clear hc <;> (try with_reducible refine aK ?_)
   have fin : comparN a b = if coreN a b ≠ 0 ∨ a.pre = b.pre then coreN a b else if a.pre = ⟨#[]⟩ then 1 else if b.pre = ⟨#[]⟩ then -1 else rowsN (strs (spl (bsL a.pre))) (strs (spl (bsL b.pre))) := by rw [comparN, if_pos ⟨va, vb⟩]
   by_cases e1 : a.maj = b.maj
   ·with_reducible refine aA ?_
    with_reducible refine aR fun K' hK => ?_
    simp [e1]
    refine hK _ _ _ ?_
    clear K' hK
    with_reducible refine aC fun A B hA hB => ?_
    simp [e1]
    refine ⟨fun hc => hA ?_, fun hc => hB ?_⟩ <;> clear hA hB A B <;> (try (simp at hc; done)) <;> (try (exfalso; simp at hc; omega)) <;> clear hc <;> (try with_reducible refine aK ?_)
    by_cases e2 : a.min = b.min
    ·with_reducible refine aA ?_
     with_reducible refine aR fun K' hK => ?_
     simp [e2]
     refine hK _ _ _ ?_
     clear K' hK
     with_reducible refine aC fun A B hA hB => ?_
     simp [e2]
     refine ⟨fun hc => hA ?_, fun hc => hB ?_⟩ <;> clear hA hB A B <;> (try (simp at hc; done)) <;> (try (exfalso; simp at hc; omega)) <;> clear hc <;> (try with_reducible refine aK ?_)
     by_cases e3 : a.pat = b.pat
     ·with_reducible refine aA ?_
      with_reducible refine aR fun K' hK => ?_
      simp [e3]
      refine hK _ _ _ ?_
      clear K' hK
      with_reducible refine aC fun A B hA hB => ?_
      simp [e3]
      refine ⟨fun hc => hA ?_, fun hc => hB ?_⟩ <;> clear hA hB A B <;> (try (simp at hc; done)) <;> (try (exfalso; simp at hc; omega)) <;> clear hc <;> (try with_reducible refine aK ?_)
      have hcore : coreN a b = 0 := by simp [coreN, e1, e2, e3, cmpI_self]
      by_cases p1 : a.pre = ⟨#[]⟩
      ·with_reducible refine aA ?_
       with_reducible refine aR fun K' hK => ?_
       simp [p1]
       refine hK _ _ _ ?_
       clear K' hK
       with_reducible refine aC fun A B hA hB => ?_
       simp [p1]
       refine ⟨fun hc => hA ?_, fun hc => hB ?_⟩ <;> clear hA hB A B <;> (try (simp at hc; done)) <;> (try (exfalso; simp at hc; omega)) <;> clear hc <;> (try with_reducible refine aK ?_)
       with_reducible refine aA ?_
       with_reducible refine aQ fun K' hK => ?_
       simp []
       refine acall_flat (order227_ok b.pre.size a.pre.size) rfl (by simp) ?_
       simp
       refine acall_flat (small228_ok a.pre b.pre) rfl (by simp) ?_
       by_cases p2 : b.pre = ⟨#[]⟩
       ·have hv : comparN a b = 0 := by rw [fin, if_pos (.inr (by rw [p1, p2])), hcore]
        simp [p1, p2, cmpI_self]
        refine hK _ _ _ ?_
        clear K' hK
        first | with_reducible refine aw_ret ?_ | with_reducible refine aw_retL ?_ | with_reducible refine aw_skipL ?_
        simp [blockK, loopK, Post, resA, res1, expT, expA, exp1, expM, expL, okT, okA, ok1, rowOf, Tryz.f192]
        simp [hv, wrap_0, wrap_1, wrap_m1]
       ·have hv : comparN a b = 1 := by rw [fin, if_neg (by simp [hcore, p1, Ne.symm p2]), if_pos p1]
        have hs : cmpI b.pre.size a.pre.size = 1 := cmpI_gt (by have := size_pos p2; rw [p1]; show (0 : Int) < _; omega)
        simp [p1, p2]
        rw [p1] at hs
        simp [hs]
        refine hK _ _ _ ?_
        clear K' hK
        first | with_reducible refine aw_ret ?_ | with_reducible refine aw_retL ?_ | with_reducible refine aw_skipL ?_
        simp [blockK, loopK, Post, resA, res1, expT, expA, exp1, expM, expL, okT, okA, ok1, rowOf, Tryz.f192]
        simp [hv, wrap_0, wrap_1, wrap_m1]
      ·by_cases p2 : b.pre = ⟨#[]⟩
       ·with_reducible refine aA ?_
        with_reducible refine aR fun K' hK => ?_
        simp [p1, p2]
        refine hK _ _ _ ?_
        clear K' hK
        with_reducible refine aC fun A B hA hB => ?_
        simp [p1, p2]
        refine ⟨fun hc => hA ?_, fun hc => hB ?_⟩ <;> clear hA hB A B <;> (try (simp at hc; done)) <;> (try (exfalso; simp at hc; omega)) <;> clear hc <;> (try with_reducible refine aK ?_)
        with_reducible refine aA ?_
        with_reducible refine aQ fun K' hK => ?_
        simp []
        refine acall_flat (order227_ok b.pre.size a.pre.size) rfl (by simp) ?_
        simp
        refine acall_flat (small228_ok a.pre b.pre) rfl (by simp) ?_
        have hv : comparN a b = -1 := by rw [fin, if_neg (by simp [hcore, p1, p2]), if_neg p1, if_pos p2]
        have hs : cmpI b.pre.size a.pre.size = -1 := cmpI_lt (by have := size_pos p1; rw [p2]; show (0 : Int) < _; omega)
        simp [p1, p2]
        rw [p2] at hs
        simp [hs]
        refine hK _ _ _ ?_
        clear K' hK
        first | with_reducible refine aw_ret ?_ | with_reducible refine aw_retL ?_ | with_reducible refine aw_skipL ?_
        simp [blockK, loopK, Post, resA, res1, expT, expA, exp1, expM, expL, okT, okA, ok1, rowOf, Tryz.f192]
        simp [hv, wrap_0, wrap_1, wrap_m1]
       ·with_reducible refine aA ?_
        with_reducible refine aR fun K' hK => ?_
        simp [p1, p2]
        refine hK _ _ _ ?_
        clear K' hK
        with_reducible refine aC fun A B hA hB => ?_
        simp [p1, p2]
        refine ⟨fun hc => hA ?_, fun hc => hB ?_⟩ <;> clear hA hB A B <;> (try (simp at hc; done)) <;> (try (exfalso; simp at hc; omega)) <;> clear hc <;> (try with_reducible refine aK ?_)
        with_reducible refine aR fun K' hK => ?_
        simp []
        refine acall_new (cut58_ok a.pre (by omega)) (by simp) ?_
        simp [addJ_one]
        refine hK _ _ _ ?_
        clear K' hK
        with_reducible refine aR fun K' hK => ?_
        simp []
        refine acall_new (cut58_ok b.pre (by omega)) (by simp) ?_
        simp [addJ_one]
        refine hK _ _ _ ?_
        clear K' hK
        with_reducible refine aA ?_
        with_reducible refine aR fun K' hK => ?_
        simp []
        refine hK _ _ _ ?_
        clear K' hK
        have hpa := okParts va p1
        have hpb := okParts vb p2
        have hla := strs_le a.pre
        have hlb := strs_le b.pre
        have hsa : ∀ x ∈ strs (spl (bsL a.pre)), x.size ≤ 4000000000 := fun x hx => by have := strs_size hx; omega
        have hsb : ∀ x ∈ strs (spl (bsL b.pre)), x.size ≤ 4000000000 := fun x hx => by have := strs_size hx; omega
        have hv : comparN a b = rowsN (strs (spl (bsL a.pre))) (strs (spl (bsL b.pre))) := by
         rw [fin]
         by_cases p3 : a.pre = b.pre
         ·rw [if_pos (.inr p3), hcore, p3, rowsN_self]
         ·rw [if_neg (by simp [hcore, p3]), if_neg p1, if_neg p2]
        generalize strs (spl (bsL a.pre)) = x at *
        generalize strs (spl (bsL b.pre)) = y at *
        rw [hv]
        with_reducible refine aw_block ?_
        refine aw_loop (fun s G nx => s 5 = .row 2 x.length ∧ s 6 = .row 3 y.length ∧ G 2 = some (.row 9 (flat sC x)) ∧ G 3 = some (.row 9 (flat sC y)) ∧ ∃ i : Nat, s 7 = iV i ∧ i ≤ x.length ∧ i ≤ y.length ∧ rowsN x y = rowsN (x.drop i) (y.drop i)) (fun s _ _ => match s 7 with | .v (.int _ n) => x.length - n.toNat | _ => 0) ?_ ?_
        ·exact ⟨by simp, by simp, by simp, by simp, 0, by simp, by omega, by omega, by simp⟩
        ·rintro s G nx hf ⟨s5, s6, g2, g3, i, s7, hi, hj, ht⟩
         have hw : IntKind.i64.wrap (↑i + 1) = ((i + 1 : Nat) : Int) := wrapS (by omega)
         by_cases hi2 : i < x.length
         ·by_cases hj2 : i < y.length
          ·with_reducible refine aA ?_
           with_reducible refine aR fun K' hK => ?_
           simp [s5, s6, s7, g2, g3, hi2, hj2]
           refine hK _ _ _ ?_
           clear K' hK
           with_reducible refine aC fun A B hA hB => ?_
           simp [hi2, hj2]
           refine ⟨fun hc => hA ?_, fun hc => hB ?_⟩ <;> clear hA hB A B <;> (try (simp at hc; done)) <;> (try (exfalso; simp at hc; omega)) <;> clear hc <;> (try with_reducible refine aK ?_)
           have hstep := rowsN_drop hi2 hj2
           have e : partsR (nth x i) (nth y i) = partsN (nth x i) (nth y i) := partsR_eq (hpa _ (nth_mem hi2)) (hpb _ (nth_mem hj2))
           have h1 := hsa _ (nth_mem hi2)
           have h2 := hsb _ (nth_mem hj2)
           with_reducible refine aw_block ?_
           with_reducible refine aQ fun K' hK => ?_
           simp [s5, s6, s7, g2, g3, hi2, hj2]
           refine acall_flat (parts229_ok (nth x i) (nth y i) h1 h2) rfl (by simp) ?_
           simp
           refine hK _ _ _ ?_
           clear K' hK
           rw [e]
           by_cases h0 : partsN (nth x i) (nth y i) = 0
           ·skip
            with_reducible refine aR fun K' hK => ?_
            simp [h0]
            refine hK _ _ _ ?_
            clear K' hK
            with_reducible refine aD fun A B hA hB => ?_
            simp [h0]
            refine ⟨fun hc => hA ?_, fun hc => hB ?_⟩ <;> clear hA hB A B <;> (try (simp at hc; done)) <;> (try (exfalso; simp at hc; omega)) <;> clear hc <;> (try with_reducible refine aK ?_)
            with_reducible refine aw_skipL ?_
            refine blockK_normal ?_
            with_reducible refine aS fun K' hK => ?_
            simp [s7, hw]
            refine hK _ _ _ ?_
            clear K' hK
            refine aw_skipL (loopK_normal ?_ ?_)
            ·exact ⟨by simp [s5], by simp [s6], by simp [g2], by simp [g3], i + 1, by simp [hw], by omega, by omega, by rw [ht, hstep, if_pos h0]⟩
            ·simp [s7, hw]; omega
           ·skip
            with_reducible refine aR fun K' hK => ?_
            simp [h0]
            refine hK _ _ _ ?_
            clear K' hK
            with_reducible refine aD fun A B hA hB => ?_
            simp [h0]
            refine ⟨fun hc => hA ?_, fun hc => hB ?_⟩ <;> clear hA hB A B <;> (try (simp at hc; done)) <;> (try (exfalso; simp at hc; omega)) <;> clear hc <;> (try with_reducible refine aK ?_)
            with_reducible refine aA ?_
            with_reducible refine aR fun K' hK => ?_
            simp []
            refine hK _ _ _ ?_
            clear K' hK
            first | with_reducible refine aw_ret ?_ | with_reducible refine aw_retL ?_ | with_reducible refine aw_skipL ?_
            simp [blockK, loopK, Post, resA, res1, expT, expA, exp1, expM, expL, okT, okA, ok1, rowOf, Tryz.f192]
            rw [ht, hstep, if_neg h0]
          ·have : y.length = i := by omega
           with_reducible refine aA ?_
           with_reducible refine aR fun K' hK => ?_
           simp [s5, s6, s7, g2, g3, hi2, hj2]
           refine hK _ _ _ ?_
           clear K' hK
           with_reducible refine aC fun A B hA hB => ?_
           simp [hi2, hj2]
           refine ⟨fun hc => hA ?_, fun hc => hB ?_⟩ <;> clear hA hB A B <;> (try (simp at hc; done)) <;> (try (exfalso; simp at hc; omega)) <;> clear hc <;> (try with_reducible refine aK ?_)
           with_reducible refine aw_exit ?_
           refine loopK_exit (blockK_exit ?_)
           with_reducible refine aR fun K' hK => ?_
           simp [s5, s6, g2, g3]
           refine acall_flat (order227_ok x.length y.length) rfl (by simp) ?_
           simp
           refine hK _ _ _ ?_
           clear K' hK
           first | with_reducible refine aw_ret ?_ | with_reducible refine aw_retL ?_ | with_reducible refine aw_skipL ?_
           simp [blockK, loopK, Post, resA, res1, expT, expA, exp1, expM, expL, okT, okA, ok1, rowOf, Tryz.f192]
           rw [ht, rowsN_end (by omega)]
         ·with_reducible refine aA ?_
          with_reducible refine aR fun K' hK => ?_
          simp [s5, s6, s7, g2, g3, hi2]
          refine hK _ _ _ ?_
          clear K' hK
          with_reducible refine aC fun A B hA hB => ?_
          simp [hi2]
          refine ⟨fun hc => hA ?_, fun hc => hB ?_⟩ <;> clear hA hB A B <;> (try (simp at hc; done)) <;> (try (exfalso; simp at hc; omega)) <;> clear hc <;> (try with_reducible refine aK ?_)
          with_reducible refine aw_exit ?_
          refine loopK_exit (blockK_exit ?_)
          with_reducible refine aR fun K' hK => ?_
          simp [s5, s6, g2, g3]
          refine acall_flat (order227_ok x.length y.length) rfl (by simp) ?_
          simp
          refine hK _ _ _ ?_
          clear K' hK
          first | with_reducible refine aw_ret ?_ | with_reducible refine aw_retL ?_ | with_reducible refine aw_skipL ?_
          simp [blockK, loopK, Post, resA, res1, expT, expA, exp1, expM, expL, okT, okA, ok1, rowOf, Tryz.f192]
          rw [ht, rowsN_end (by omega)]
     ·with_reducible refine aA ?_
      with_reducible refine aR fun K' hK => ?_
      simp [e3]
      refine hK _ _ _ ?_
      clear K' hK
      with_reducible refine aC fun A B hA hB => ?_
      simp [e3]
      refine ⟨fun hc => hA ?_, fun hc => hB ?_⟩ <;> clear hA hB A B <;> (try (simp at hc; done)) <;> (try (exfalso; simp at hc; omega)) <;> clear hc <;> (try with_reducible refine aK ?_)
      with_reducible refine aA ?_
      with_reducible refine aR fun K' hK => ?_
      simp []
      refine acall_flat (order227_ok a.pat b.pat) rfl (by simp) ?_
      simp
      refine hK _ _ _ ?_
      clear K' hK
      first | with_reducible refine aw_ret ?_ | with_reducible refine aw_retL ?_ | with_reducible refine aw_skipL ?_
      simp [blockK, loopK, Post, resA, res1, expT, expA, exp1, expM, expL, okT, okA, ok1, rowOf, Tryz.f192]
      have : coreN a b = cmpI a.pat b.pat := by simp [coreN, e1, e2, cmpI_self]
      rw [fin, if_pos (.inl (by rw [this]; exact fun h => e3 (cmpI_zero.1 h))), this]
    ·with_reducible refine aA ?_
     with_reducible refine aR fun K' hK => ?_
     simp [e2]
     refine hK _ _ _ ?_
     clear K' hK
     with_reducible refine aC fun A B hA hB => ?_
     simp [e2]
     refine ⟨fun hc => hA ?_, fun hc => hB ?_⟩ <;> clear hA hB A B <;> (try (simp at hc; done)) <;> (try (exfalso; simp at hc; omega)) <;> clear hc <;> (try with_reducible refine aK ?_)
     with_reducible refine aA ?_
     with_reducible refine aR fun K' hK => ?_
     simp []
     refine acall_flat (order227_ok a.min b.min) rfl (by simp) ?_
     simp
     refine hK _ _ _ ?_
     clear K' hK
     first | with_reducible refine aw_ret ?_ | with_reducible refine aw_retL ?_ | with_reducible refine aw_skipL ?_
     simp [blockK, loopK, Post, resA, res1, expT, expA, exp1, expM, expL, okT, okA, ok1, rowOf, Tryz.f192]
     have h0 : cmpI a.min b.min ≠ 0 := fun h => e2 (cmpI_zero.1 h)
     have : coreN a b = cmpI a.min b.min := by simp [coreN, e1, cmpI_self, h0]
     rw [fin, if_pos (.inl (by rw [this]; exact h0)), this]
   ·with_reducible refine aA ?_
    with_reducible refine aR fun K' hK => ?_
    simp [e1]
    refine hK _ _ _ ?_
    clear K' hK
    with_reducible refine aC fun A B hA hB => ?_
    simp [e1]
    refine ⟨fun hc => hA ?_, fun hc => hB ?_⟩ <;> clear hA hB A B <;> (try (simp at hc; done)) <;> (try (exfalso; simp at hc; omega)) <;> clear hc <;> (try with_reducible refine aK ?_)
    with_reducible refine aA ?_
    with_reducible refine aR fun K' hK => ?_
    simp []
    refine acall_flat (order227_ok a.maj b.maj) rfl (by simp) ?_
    simp
    refine hK _ _ _ ?_
    clear K' hK
    first | with_reducible refine aw_ret ?_ | with_reducible refine aw_retL ?_ | with_reducible refine aw_skipL ?_
    simp [blockK, loopK, Post, resA, res1, expT, expA, exp1, expM, expL, okT, okA, ok1, rowOf, Tryz.f192]
    have h0 : cmpI a.maj b.maj ≠ 0 := fun h => e1 (cmpI_zero.1 h)
    have : coreN a b = cmpI a.maj b.maj := by simp [coreN, h0]
    rw [fin, if_pos (.inl (by rw [this]; exact h0)), this]
  ·simp [vb]
   refine hK _ _ _ ?_
   clear K' hK
   with_reducible refine aC fun A B hA hB => ?_
   simp []
   refine ⟨fun hc => hA ?_, fun hc => hB ?_⟩ <;> clear hA hB A B <;> (try (simp at hc; done)) <;> (try (exfalso; simp at hc; omega)) <;> clear hc <;> (try with_reducible refine aK ?_)
   with_reducible refine aA ?_
   with_reducible refine aR fun K' hK => ?_
   simp []
   refine hK _ _ _ ?_
   clear K' hK
   first | with_reducible refine aw_ret ?_ | with_reducible refine aw_retL ?_ | with_reducible refine aw_skipL ?_
   simp [blockK, loopK, Post, resA, res1, expT, expA, exp1, expM, expL, okT, okA, ok1, rowOf, Tryz.f192]
   simp [comparN, vb]
 ·simp [va]
  refine hK _ _ _ ?_
  clear K' hK
  with_reducible refine aC fun A B hA hB => ?_
  simp []
  refine ⟨fun hc => hA ?_, fun hc => hB ?_⟩ <;> clear hA hB A B <;> (try (simp at hc; done)) <;> (try (exfalso; simp at hc; omega)) <;> clear hc <;> (try with_reducible refine aK ?_)
  with_reducible refine aA ?_
  with_reducible refine aR fun K' hK => ?_
  simp []
  refine hK _ _ _ ?_
  clear K' hK
  first | with_reducible refine aw_ret ?_ | with_reducible refine aw_retL ?_ | with_reducible refine aw_skipL ?_
  simp [blockK, loopK, Post, resA, res1, expT, expA, exp1, expM, expL, okT, okA, ok1, rowOf, Tryz.f192]
  simp [comparN, va]
end Go.Proofs.YtgipehooceecpaaGreatDoorAbs
namespace Go.Proofs.YtgipehooceecpaaGreatDoorAbs
set_option linter.unusedSimpArgs false
set_option linter.unusedVariables false
open Go Go.RowKit Go.Proofs
set_option maxRecDepth 100000
set_option maxHeartbeats 4000000
theorem bound155_ok (b : Bd) (v : Ver) (hb : b.ver.pre.size ≤ 1000000) (hv : v.pre.size ≤ 1000000) : CallsOK Tryz.prog 155 [.agg b.cells, .agg v.cells] (bV (holdB v b)) [] := by
 refine callsOK mixed Tryz.call155 Tryz.func155 rfl (by rw [Tryz.ntmps155]; simp) ?_ rfl
 rw [Tryz.ntmps155]
 with_reducible refine aR fun K' hK => ?_
 simp []
 refine hK _ _ _ ?_
 clear K' hK
 with_reducible refine aR fun K' hK => ?_
 simp []
 refine acall_flat (compare192_ok v b.ver hv hb) rfl (by simp) ?_
 simp
 refine hK _ _ _ ?_
 clear K' hK
 with_reducible refine aA ?_
 with_reducible refine aR fun K' hK => ?_
 simp []
 refine hK _ _ _ ?_
 clear K' hK
 have hd : holdB v b = opN b.op (comparN v b.ver) := rfl
 generalize comparN v b.ver = c at *
 with_reducible refine aw_block ?_
 by_cases h1 : b.op = 1
 ·skip
  with_reducible refine aR fun K' hK => ?_
  simp [h1]
  refine hK _ _ _ ?_
  clear K' hK
  with_reducible refine aD fun A B hA hB => ?_
  simp [h1]
  refine ⟨fun hc => hA ?_, fun hc => hB ?_⟩ <;> clear hA hB A B <;> (try (simp at hc; done)) <;> (try (exfalso; simp at hc; omega)) <;> clear hc <;> (try with_reducible refine aK ?_)
  with_reducible refine aA ?_
  with_reducible refine aR fun K' hK => ?_
  simp []
  refine hK _ _ _ ?_
  clear K' hK
  first | with_reducible refine aw_ret ?_ | with_reducible refine aw_retL ?_ | with_reducible refine aw_skipL ?_
  simp [blockK, loopK, Post, resA, res1, expT, expA, exp1, expM, expL, okT, okA, ok1, rowOf, Tryz.f155]
  simp [hd, opN, h1]
 ·skip
  with_reducible refine aR fun K' hK => ?_
  simp [h1]
  refine hK _ _ _ ?_
  clear K' hK
  with_reducible refine aD fun A B hA hB => ?_
  simp [h1]
  refine ⟨fun hc => hA ?_, fun hc => hB ?_⟩ <;> clear hA hB A B <;> (try (simp at hc; done)) <;> (try (exfalso; simp at hc; omega)) <;> clear hc <;> (try with_reducible refine aK ?_)
  by_cases h2 : b.op = 2
  ·with_reducible refine aA ?_
   with_reducible refine aR fun K' hK => ?_
   simp [h2]
   refine hK _ _ _ ?_
   clear K' hK
   with_reducible refine aC fun A B hA hB => ?_
   simp [h2]
   refine ⟨fun hc => hA ?_, fun hc => hB ?_⟩ <;> clear hA hB A B <;> (try (simp at hc; done)) <;> (try (exfalso; simp at hc; omega)) <;> clear hc <;> (try with_reducible refine aK ?_)
   with_reducible refine aA ?_
   with_reducible refine aR fun K' hK => ?_
   simp []
   refine hK _ _ _ ?_
   clear K' hK
   first | with_reducible refine aw_ret ?_ | with_reducible refine aw_retL ?_ | with_reducible refine aw_skipL ?_
   simp [blockK, loopK, Post, resA, res1, expT, expA, exp1, expM, expL, okT, okA, ok1, rowOf, Tryz.f155]
   simp [hd, opN, h2]
  ·with_reducible refine aA ?_
   with_reducible refine aR fun K' hK => ?_
   simp [h2]
   refine hK _ _ _ ?_
   clear K' hK
   with_reducible refine aC fun A B hA hB => ?_
   simp [h2]
   refine ⟨fun hc => hA ?_, fun hc => hB ?_⟩ <;> clear hA hB A B <;> (try (simp at hc; done)) <;> (try (exfalso; simp at hc; omega)) <;> clear hc <;> (try with_reducible refine aK ?_)
   by_cases h3 : b.op = 3
   ·with_reducible refine aA ?_
    with_reducible refine aR fun K' hK => ?_
    simp [h3]
    refine hK _ _ _ ?_
    clear K' hK
    with_reducible refine aC fun A B hA hB => ?_
    simp [h3]
    refine ⟨fun hc => hA ?_, fun hc => hB ?_⟩ <;> clear hA hB A B <;> (try (simp at hc; done)) <;> (try (exfalso; simp at hc; omega)) <;> clear hc <;> (try with_reducible refine aK ?_)
    with_reducible refine aA ?_
    with_reducible refine aR fun K' hK => ?_
    simp []
    refine hK _ _ _ ?_
    clear K' hK
    first | with_reducible refine aw_ret ?_ | with_reducible refine aw_retL ?_ | with_reducible refine aw_skipL ?_
    simp [blockK, loopK, Post, resA, res1, expT, expA, exp1, expM, expL, okT, okA, ok1, rowOf, Tryz.f155]
    simp [hd, opN, h3]
   ·with_reducible refine aA ?_
    with_reducible refine aR fun K' hK => ?_
    simp [h3]
    refine hK _ _ _ ?_
    clear K' hK
    with_reducible refine aC fun A B hA hB => ?_
    simp [h3]
    refine ⟨fun hc => hA ?_, fun hc => hB ?_⟩ <;> clear hA hB A B <;> (try (simp at hc; done)) <;> (try (exfalso; simp at hc; omega)) <;> clear hc <;> (try with_reducible refine aK ?_)
    by_cases h4 : b.op = 4
    ·with_reducible refine aA ?_
     with_reducible refine aR fun K' hK => ?_
     simp [h4]
     refine hK _ _ _ ?_
     clear K' hK
     with_reducible refine aC fun A B hA hB => ?_
     simp [h4]
     refine ⟨fun hc => hA ?_, fun hc => hB ?_⟩ <;> clear hA hB A B <;> (try (simp at hc; done)) <;> (try (exfalso; simp at hc; omega)) <;> clear hc <;> (try with_reducible refine aK ?_)
     with_reducible refine aA ?_
     with_reducible refine aR fun K' hK => ?_
     simp []
     refine hK _ _ _ ?_
     clear K' hK
     first | with_reducible refine aw_ret ?_ | with_reducible refine aw_retL ?_ | with_reducible refine aw_skipL ?_
     simp [blockK, loopK, Post, resA, res1, expT, expA, exp1, expM, expL, okT, okA, ok1, rowOf, Tryz.f155]
     simp [hd, opN, h4]
    ·with_reducible refine aA ?_
     with_reducible refine aR fun K' hK => ?_
     simp [h4]
     refine hK _ _ _ ?_
     clear K' hK
     with_reducible refine aC fun A B hA hB => ?_
     simp [h4]
     refine ⟨fun hc => hA ?_, fun hc => hB ?_⟩ <;> clear hA hB A B <;> (try (simp at hc; done)) <;> (try (exfalso; simp at hc; omega)) <;> clear hc <;> (try with_reducible refine aK ?_)
     with_reducible refine aw_skipL ?_
     refine blockK_normal ?_
     with_reducible refine aR fun K' hK => ?_
     simp []
     refine hK _ _ _ ?_
     clear K' hK
     first | with_reducible refine aw_ret ?_ | with_reducible refine aw_retL ?_ | with_reducible refine aw_skipL ?_
     simp [blockK, loopK, Post, resA, res1, expT, expA, exp1, expM, expL, okT, okA, ok1, rowOf, Tryz.f155]
     simp [hd, opN, h1, h2, h3, h4]
theorem near_eq (v : Ver) (b : Bd) : nearB v b = (decide (b.ver.pre ≠ ⟨#[]⟩) && (decide (b.ver.maj = v.maj) && (decide (b.ver.min = v.min) && decide (b.ver.pat = v.pat)))) := by
 rw [Bool.eq_iff_iff]
 unfold nearB
 cases v with | mk a c d e => simp
theorem lets102_ok (l : Alt) (v : Ver) (hl : Alt.sz l) (hv : v.pre.size ≤ 1000000) : CallsOK Tryz.prog 102 [rowT Bd.cells l, .agg v.cells] (bV (altHolds v l)) [] := by
 refine callsOK mixed Tryz.call102 Tryz.func102 rfl (by rw [Tryz.ntmps102]; simp) ?_ rfl
 rw [Tryz.ntmps102]
 have hll := hl.1
 with_reducible refine aR fun K' hK => ?_
 simp []
 refine hK _ _ _ ?_
 clear K' hK
 with_reducible refine aR fun K' hK => ?_
 simp []
 refine hK _ _ _ ?_
 clear K' hK
 with_reducible refine aA ?_
 with_reducible refine aR fun K' hK => ?_
 simp []
 refine hK _ _ _ ?_
 clear K' hK
 with_reducible refine aw_block ?_
 refine aw_loop (fun s G nx => G 0 = some (.var 23 v.cells) ∧ s 3 = .ptr 0 0 ∧ s 0 = rowT Bd.cells l ∧ ∃ j : Nat, s 6 = iV j ∧ j ≤ l.length ∧ s 5 = bV (decide (v.pre = ⟨#[]⟩) || (l.take j).any (nearB v)) ∧ (l.take j).all (holdB v) = true) (fun s _ _ => match s 6 with | .v (.int _ n) => l.length - n.toNat | _ => 0) ?_ ?_
 ·exact ⟨by simp, by simp, by simp, 0, by simp, by omega, by simp, by simp⟩
 ·rintro s G nx hf ⟨g0, s3, s0, j, s6, hj, s5, hjt⟩
  have n0 : ¬ 0 = nx := by have := fresh_lt hf g0; omega
  have hwj : IntKind.i64.wrap (↑j + 1) = ((j + 1 : Nat) : Int) := wrapS (by omega)
  with_reducible refine aA ?_
  with_reducible refine aR fun K' hK => ?_
  simp [s0, s6]
  refine hK _ _ _ ?_
  clear K' hK
  with_reducible refine aC fun A B hA hB => ?_
  simp []
  refine ⟨fun hj2 => hA ?_, fun hj2 => hB ?_⟩ <;> clear hA hB A B <;> (try simp at hj2) <;> (try with_reducible refine aK ?_)
  ·have hjstep := all_take1 (p := holdB v) hj2
   have hnstep := any_take1 (p := nearB v) hj2
   have hjfalse : holdB v (nth l j) = false → altHolds v l = false := fun h => by rw [altHolds, all_false hj2 h]; rfl
   have hbz := hl.2 _ (nth_mem hj2)
   have hnear := near_eq v (nth l j)
   generalize hgb : nth l j = b at *
   with_reducible refine aw_block ?_
   with_reducible refine aR fun K' hK => ?_
   simp [s0, s6, hj2, hgb]
   refine hK _ _ _ ?_
   clear K' hK
   with_reducible refine aA ?_
   with_reducible refine aQ fun K' hK => ?_
   simp [s0, s6, s3, g0, n0, hj2, hgb]
   refine acall_flat (bound155_ok b v hbz hv) rfl (by simp) ?_
   simp
   refine hK _ _ _ ?_
   clear K' hK
   by_cases c3 : holdB v b = true
   ·skip
    with_reducible refine aC fun A B hA hB => ?_
    simp [c3]
    refine ⟨fun hc => hA ?_, fun hc => hB ?_⟩ <;> clear hA hB A B <;> (try (simp at hc; done)) <;> (try (exfalso; simp at hc; omega)) <;> clear hc <;> (try with_reducible refine aK ?_)
    generalize hnb : (decide (v.pre = ⟨#[]⟩) || (l.take j).any (nearB v)) = nb at *
    have fin : bV (nb || nearB v b) = bV (decide (v.pre = ⟨#[]⟩) || (l.take (j + 1)).any (nearB v)) := by rw [hnstep, ← Bool.or_assoc, hnb]
    refine aw_toS (aw_cut (fun s G nx => G 0 = some (.var 23 v.cells) ∧ s 3 = .ptr 0 0 ∧ s 0 = rowT Bd.cells l ∧ s 6 = iV j ∧ s 5 = bV (nb || nearB v b)) ?_ ?_)
    ·rw [hnear]
     cases nb with
     | true =>
      with_reducible refine aS fun K' hK => ?_
      simp [s5]
      refine hK _ _ _ ?_
      clear K' hK
      with_reducible refine aw_end ?_
      simp [s3, s0, s6, g0, n0]
     | false =>
      by_cases w0 : b.ver.pre = ⟨#[]⟩
      ·skip
       with_reducible refine aS fun K' hK => ?_
       simp [s5, w0]
       refine hK _ _ _ ?_
       clear K' hK
       with_reducible refine aw_end ?_
       simp [s3, s0, s6, g0, n0, w0]
      ·by_cases w1 : b.ver.maj = v.maj
       ·by_cases w2 : b.ver.min = v.min
        ·skip
         with_reducible refine aS fun K' hK => ?_
         simp [s5, w0, w1, w2, s3, g0, n0]
         refine hK _ _ _ ?_
         clear K' hK
         with_reducible refine aw_end ?_
         simp [s3, s0, s6, g0, n0, w0, w1, w2]
        ·skip
         with_reducible refine aS fun K' hK => ?_
         simp [s5, w0, w1, w2, s3, g0, n0]
         refine hK _ _ _ ?_
         clear K' hK
         with_reducible refine aw_end ?_
         simp [s3, s0, s6, g0, n0, w0, w1, w2]
       ·skip
        with_reducible refine aS fun K' hK => ?_
        simp [s5, w0, w1, s3, g0, n0]
        refine hK _ _ _ ?_
        clear K' hK
        with_reducible refine aw_end ?_
        simp [s3, s0, s6, g0, n0, w0, w1]
    ·clear s3 s0 g0 s5 hf n0
     rintro s1 G1 nx1 ⟨g0, s3, s0, s6, s5⟩
     with_reducible refine aw_skipL ?_
     refine blockK_normal ?_
     with_reducible refine aS fun K' hK => ?_
     simp [s6, hwj]
     refine hK _ _ _ ?_
     clear K' hK
     refine aw_skipL (loopK_normal ?_ ?_)
     ·exact ⟨by simp [g0], by simp [s3], by simp [s0], j + 1, by simp [hwj], by omega, by simp [s5]; simpa using fin, by rw [hjstep, hjt, c3]; rfl⟩
     ·simp [*]; omega
   ·skip
    with_reducible refine aC fun A B hA hB => ?_
    simp [c3]
    refine ⟨fun hc => hA ?_, fun hc => hB ?_⟩ <;> clear hA hB A B <;> (try (simp at hc; done)) <;> (try (exfalso; simp at hc; omega)) <;> clear hc <;> (try with_reducible refine aK ?_)
    with_reducible refine aA ?_
    with_reducible refine aR fun K' hK => ?_
    simp []
    refine hK _ _ _ ?_
    clear K' hK
    first | with_reducible refine aw_ret ?_ | with_reducible refine aw_retL ?_ | with_reducible refine aw_skipL ?_
    simp [blockK, loopK, Post, resA, res1, expT, expA, exp1, expM, expL, okT, okA, ok1, rowOf, Tryz.f102]
    rw [hjfalse (by simpa using c3)]
  ·skip
   with_reducible refine aw_exit ?_
   refine loopK_exit (blockK_exit ?_)
   rw [List.take_of_length_le (by omega)] at hjt s5
   have hah : altHolds v l = (decide (v.pre = ⟨#[]⟩) || l.any (nearB v)) := by rw [altHolds, hjt]; rfl
   rw [← hah] at s5
   with_reducible refine aR fun K' hK => ?_
   simp [s5]
   refine hK _ _ _ ?_
   clear K' hK
   first | with_reducible refine aw_ret ?_ | with_reducible refine aw_retL ?_ | with_reducible refine aw_skipL ?_
   simp [blockK, loopK, Post, resA, res1, expT, expA, exp1, expM, expL, okT, okA, ok1, rowOf, Tryz.f102]
theorem right100_ok (r : Rg) (hr : Rg.sz r) : CallsOK Tryz.prog 100 [.agg r.cells] (bV (rgOk r)) [] := by
 refine callsOK mixed Tryz.call100 Tryz.func100 rfl (by rw [Tryz.ntmps100]; simp) ?_ rfl
 rw [Tryz.ntmps100]
 have hl := hr.1
 with_reducible refine aR fun K' hK => ?_
 simp []
 refine hK _ _ _ ?_
 clear K' hK
 by_cases z1 : r.length < 1
 ·have z1' : (r.length : Int) < 1 := by omega
  with_reducible refine aA ?_
  with_reducible refine aR fun K' hK => ?_
  simp [Rg.cells, z1, z1']
  refine hK _ _ _ ?_
  clear K' hK
  with_reducible refine aC fun A B hA hB => ?_
  simp []
  refine ⟨fun hc => hA ?_, fun hc => hB ?_⟩ <;> clear hA hB A B <;> (try (simp at hc; done)) <;> (try (exfalso; simp at hc; omega)) <;> clear hc <;> (try with_reducible refine aK ?_)
  with_reducible refine aA ?_
  with_reducible refine aR fun K' hK => ?_
  simp []
  refine hK _ _ _ ?_
  clear K' hK
  first | with_reducible refine aw_ret ?_ | with_reducible refine aw_retL ?_ | with_reducible refine aw_skipL ?_
  simp [blockK, loopK, Post, resA, res1, expT, expA, exp1, expM, expL, okT, okA, ok1, rowOf, Tryz.f100]
  have : ¬ 1 ≤ r.length := by omega
  simp [rgOk, this]
 ·have z1' : ¬ (r.length : Int) < 1 := by omega
  by_cases z2 : 8 < r.length
  ·have z2' : (8 : Int) < r.length := by omega
   with_reducible refine aA ?_
   with_reducible refine aR fun K' hK => ?_
   simp [Rg.cells, z1, z1', z2, z2']
   refine hK _ _ _ ?_
   clear K' hK
   with_reducible refine aC fun A B hA hB => ?_
   simp []
   refine ⟨fun hc => hA ?_, fun hc => hB ?_⟩ <;> clear hA hB A B <;> (try (simp at hc; done)) <;> (try (exfalso; simp at hc; omega)) <;> clear hc <;> (try with_reducible refine aK ?_)
   with_reducible refine aA ?_
   with_reducible refine aR fun K' hK => ?_
   simp []
   refine hK _ _ _ ?_
   clear K' hK
   first | with_reducible refine aw_ret ?_ | with_reducible refine aw_retL ?_ | with_reducible refine aw_skipL ?_
   simp [blockK, loopK, Post, resA, res1, expT, expA, exp1, expM, expL, okT, okA, ok1, rowOf, Tryz.f100]
   have : ¬ r.length ≤ 8 := by omega
   simp [rgOk, this]
  ·have z2' : ¬ (8 : Int) < r.length := by omega
   with_reducible refine aA ?_
   with_reducible refine aR fun K' hK => ?_
   simp [Rg.cells, z1, z1', z2, z2']
   refine hK _ _ _ ?_
   clear K' hK
   with_reducible refine aC fun A B hA hB => ?_
   simp []
   refine ⟨fun hc => hA ?_, fun hc => hB ?_⟩ <;> clear hA hB A B <;> (try (simp at hc; done)) <;> (try (exfalso; simp at hc; omega)) <;> clear hc <;> (try with_reducible refine aK ?_)
   with_reducible refine aA ?_
   with_reducible refine aR fun K' hK => ?_
   simp []
   refine hK _ _ _ ?_
   clear K' hK
   with_reducible refine aw_block ?_
   refine aw_loop (fun s G nx => G 0 = some (.var 33 [rowT Alt.cells r]) ∧ s 1 = .ptr 0 0 ∧ ∃ i : Nat, s 3 = iV i ∧ i ≤ r.length ∧ (r.take i).all altOk = true) (fun s _ _ => match s 3 with | .v (.int _ n) => r.length - n.toNat | _ => 0) ?_ ?_
   ·exact ⟨by simp [Rg.cells], by simp, 0, by simp, by omega, by simp⟩
   ·rintro s G nx hf ⟨g0, s1, i, s3, hi, ht⟩
    have o3 := s3
    have n0 : ¬ 0 = nx := by have := fresh_lt hf g0; omega
    have hw : IntKind.i64.wrap (↑i + 1) = ((i + 1 : Nat) : Int) := wrapS (by omega)
    with_reducible refine aA ?_
    with_reducible refine aR fun K' hK => ?_
    simp [s1, s3, g0]
    refine hK _ _ _ ?_
    clear K' hK
    with_reducible refine aC fun A B hA hB => ?_
    simp []
    refine ⟨fun hi2 => hA ?_, fun hi2 => hB ?_⟩ <;> clear hA hB A B <;> (try simp at hi2) <;> (try with_reducible refine aK ?_)
    ·have hstep := all_take1 (p := altOk) hi2
     have hA := hr.2 _ (nth_mem hi2)
     have hfalse : altOk (nth r i) = false → rgOk r = false := fun h => by rw [rgOk, all_false hi2 h]; rfl
     generalize hgl : nth r i = l at *
     have hAl := hA.1
     with_reducible refine aw_block ?_
     by_cases k8 : 8 < l.length
     ·have k8' : (8 : Int) < l.length := by omega
      with_reducible refine aA ?_
      with_reducible refine aR fun K' hK => ?_
      simp [s1, s3, g0, hi2, hgl, k8, k8']
      refine hK _ _ _ ?_
      clear K' hK
      with_reducible refine aC fun A B hA hB => ?_
      simp []
      refine ⟨fun hc => hA ?_, fun hc => hB ?_⟩ <;> clear hA hB A B <;> (try (simp at hc; done)) <;> (try (exfalso; simp at hc; omega)) <;> clear hc <;> (try with_reducible refine aK ?_)
      with_reducible refine aA ?_
      with_reducible refine aR fun K' hK => ?_
      simp []
      refine hK _ _ _ ?_
      clear K' hK
      first | with_reducible refine aw_ret ?_ | with_reducible refine aw_retL ?_ | with_reducible refine aw_skipL ?_
      simp [blockK, loopK, Post, resA, res1, expT, expA, exp1, expM, expL, okT, okA, ok1, rowOf, Tryz.f100]
      have : altOk l = false := by
       have : ¬ l.length ≤ 8 := by omega
       simp [altOk, this]
      rw [hfalse this]
     ·have k8' : ¬ (8 : Int) < l.length := by omega
      with_reducible refine aA ?_
      with_reducible refine aR fun K' hK => ?_
      simp [s1, s3, g0, hi2, hgl, k8, k8']
      refine hK _ _ _ ?_
      clear K' hK
      with_reducible refine aC fun A B hA hB => ?_
      simp []
      refine ⟨fun hc => hA ?_, fun hc => hB ?_⟩ <;> clear hA hB A B <;> (try (simp at hc; done)) <;> (try (exfalso; simp at hc; omega)) <;> clear hc <;> (try with_reducible refine aK ?_)
      with_reducible refine aR fun K' hK => ?_
      simp []
      refine hK _ _ _ ?_
      clear K' hK
      with_reducible refine aw_toS (aw_block ?_)
      refine aw_loop (fun s G nx => G 0 = some (.var 33 [rowT Alt.cells r]) ∧ s 1 = .ptr 0 0 ∧ s 3 = iV i ∧ ∃ j : Nat, s 4 = iV j ∧ j ≤ l.length ∧ (l.take j).all bdOk = true) (fun s _ _ => match s 4 with | .v (.int _ n) => l.length - n.toNat | _ => 0) ?_ ?_
      ·exact ⟨by simp [g0], by simp [s1], by simp [s3], 0, by simp, by omega, by simp⟩
      ·clear s1 s3 g0 hf n0
       rintro s G nx hf ⟨g0, s1, s3, j, s4, hj, hjt⟩
       have n0 : ¬ 0 = nx := by have := fresh_lt hf g0; omega
       have hwj : IntKind.i64.wrap (↑j + 1) = ((j + 1 : Nat) : Int) := wrapS (by omega)
       with_reducible refine aA ?_
       with_reducible refine aR fun K' hK => ?_
       simp [s1, s3, s4, g0, hi2, hgl]
       refine hK _ _ _ ?_
       clear K' hK
       with_reducible refine aC fun A B hA hB => ?_
       simp []
       refine ⟨fun hj2 => hA ?_, fun hj2 => hB ?_⟩ <;> clear hA hB A B <;> (try simp at hj2) <;> (try with_reducible refine aK ?_)
       ·have hjstep := all_take1 (p := bdOk) hj2
        have hjfalse : bdOk (nth l j) = false → rgOk r = false := fun h => hfalse (by rw [altOk, all_false hj2 h]; rfl)
        have hbz := hA.2 _ (nth_mem hj2)
        have hbd : bdOk (nth l j) = (verOk (nth l j).ver && (decide (1 ≤ (nth l j).op) && decide ((nth l j).op ≤ 5))) := rfl
        generalize hgb : nth l j = b at *
        with_reducible refine aw_block ?_
        with_reducible refine aR fun K' hK => ?_
        simp [s1, s3, s4, g0, hi2, hgl, hj2, hgb]
        refine hK _ _ _ ?_
        clear K' hK
        by_cases b1 : b.op < 1
        ·skip
         with_reducible refine aR fun K' hK => ?_
         simp [b1]
         refine hK _ _ _ ?_
         clear K' hK
         with_reducible refine aD fun A B hA hB => ?_
         simp []
         refine ⟨fun hc => hA ?_, fun hc => hB ?_⟩ <;> clear hA hB A B <;> (try (simp at hc; done)) <;> (try (exfalso; simp at hc; omega)) <;> clear hc <;> (try with_reducible refine aK ?_)
         with_reducible refine aA ?_
         with_reducible refine aR fun K' hK => ?_
         simp []
         refine hK _ _ _ ?_
         clear K' hK
         first | with_reducible refine aw_ret ?_ | with_reducible refine aw_retL ?_ | with_reducible refine aw_skipL ?_
         simp [blockK, loopK, Post, resA, res1, expT, expA, exp1, expM, expL, okT, okA, ok1, rowOf, Tryz.f100]
         have : ¬ 1 ≤ b.op := by omega
         rw [hjfalse (by simp [hbd, this])]
        ·by_cases b2 : 5 < b.op
         ·skip
          with_reducible refine aR fun K' hK => ?_
          simp [b1, b2]
          refine hK _ _ _ ?_
          clear K' hK
          with_reducible refine aD fun A B hA hB => ?_
          simp []
          refine ⟨fun hc => hA ?_, fun hc => hB ?_⟩ <;> clear hA hB A B <;> (try (simp at hc; done)) <;> (try (exfalso; simp at hc; omega)) <;> clear hc <;> (try with_reducible refine aK ?_)
          with_reducible refine aA ?_
          with_reducible refine aR fun K' hK => ?_
          simp []
          refine hK _ _ _ ?_
          clear K' hK
          first | with_reducible refine aw_ret ?_ | with_reducible refine aw_retL ?_ | with_reducible refine aw_skipL ?_
          simp [blockK, loopK, Post, resA, res1, expT, expA, exp1, expM, expL, okT, okA, ok1, rowOf, Tryz.f100]
          have : ¬ b.op ≤ 5 := by omega
          rw [hjfalse (by simp [hbd, this])]
         ·skip
          with_reducible refine aR fun K' hK => ?_
          simp [b1, b2]
          refine acall_flat (right37_ok b.ver (by omega)) rfl (by simp) ?_
          simp
          refine hK _ _ _ ?_
          clear K' hK
          by_cases c3 : verOk b.ver = true
          ·skip
           with_reducible refine aD fun A B hA hB => ?_
           simp [c3]
           refine ⟨fun hc => hA ?_, fun hc => hB ?_⟩ <;> clear hA hB A B <;> (try (simp at hc; done)) <;> (try (exfalso; simp at hc; omega)) <;> clear hc <;> (try with_reducible refine aK ?_)
           with_reducible refine aw_skipL ?_
           refine blockK_normal ?_
           with_reducible refine aS fun K' hK => ?_
           simp [s4, hwj]
           refine hK _ _ _ ?_
           clear K' hK
           refine aw_skipL (loopK_normal ?_ ?_)
           ·exact ⟨by simp [g0, n0], by simp [s1], by simp [s3], j + 1, by simp [hwj], by omega, by
             rw [hjstep, hjt, hbd, c3]
             simp; omega⟩
           ·simp [s4, hwj]; omega
          ·skip
           with_reducible refine aD fun A B hA hB => ?_
           simp [c3]
           refine ⟨fun hc => hA ?_, fun hc => hB ?_⟩ <;> clear hA hB A B <;> (try (simp at hc; done)) <;> (try (exfalso; simp at hc; omega)) <;> clear hc <;> (try with_reducible refine aK ?_)
           with_reducible refine aA ?_
           with_reducible refine aR fun K' hK => ?_
           simp []
           refine hK _ _ _ ?_
           clear K' hK
           first | with_reducible refine aw_ret ?_ | with_reducible refine aw_retL ?_ | with_reducible refine aw_skipL ?_
           simp [blockK, loopK, Post, resA, res1, expT, expA, exp1, expM, expL, okT, okA, ok1, rowOf, Tryz.f100]
           rw [hjfalse (by simp [hbd, c3])]
       ·skip
        with_reducible refine aw_exit ?_
        refine loopK_exit (blockK_exit ?_)
        rw [List.take_of_length_le (by omega)] at hjt
        with_reducible refine aw_skipL ?_
        refine blockK_normal ?_
        with_reducible refine aS fun K' hK => ?_
        simp [s3, hw]
        refine hK _ _ _ ?_
        clear K' hK
        refine aw_skipL (loopK_normal ?_ ?_)
        ·exact ⟨by simp [g0], by simp [s1], i + 1, by simp [hw], by omega, by
          rw [hstep, ht, altOk, hjt]; simp; omega⟩
        ·simp [o3, s3, hw]; omega
    ·skip
     with_reducible refine aw_exit ?_
     refine loopK_exit (blockK_exit ?_)
     rw [List.take_of_length_le (by omega)] at ht
     with_reducible refine aR fun K' hK => ?_
     simp []
     refine hK _ _ _ ?_
     clear K' hK
     first | with_reducible refine aw_ret ?_ | with_reducible refine aw_retL ?_ | with_reducible refine aw_skipL ?_
     simp [blockK, loopK, Post, resA, res1, expT, expA, exp1, expM, expL, okT, okA, ok1, rowOf, Tryz.f100]
     simp [rgOk, ht]; omega
theorem holds44_ok (r : Rg) (v : Ver) (hr : Rg.sz r) (hv : v.pre.size ≤ 1000000) : CallsOK Tryz.prog 44 [.agg r.cells, .agg v.cells] (bV (rgHolds v r)) [] := by
 refine callsOK mixed Tryz.call44 Tryz.func44 rfl (by rw [Tryz.ntmps44]; simp) ?_ rfl
 rw [Tryz.ntmps44]
 have hl := hr.1
 with_reducible refine aR fun K' hK => ?_
 simp []
 refine hK _ _ _ ?_
 clear K' hK
 with_reducible refine aA ?_
 with_reducible refine aR fun K' hK => ?_
 simp [Rg.cells]
 refine acall_flat (right100_ok r hr) rfl (by simp [Rg.cells]) ?_
 by_cases c1 : rgOk r = true
 ·simp [c1]
  refine acall_flat (right37_ok v (by omega)) rfl (by simp) ?_
  by_cases c2 : verOk v = true
  ·simp [c2]
   refine hK _ _ _ ?_
   clear K' hK
   with_reducible refine aC fun A B hA hB => ?_
   simp []
   refine ⟨fun hc => hA ?_, fun hc => hB ?_⟩ <;> clear hA hB A B <;> (try (simp at hc; done)) <;> (try (exfalso; simp at hc; omega)) <;> clear hc <;> (try with_reducible refine aK ?_)
   with_reducible refine aA ?_
   with_reducible refine aR fun K' hK => ?_
   simp []
   refine hK _ _ _ ?_
   clear K' hK
   with_reducible refine aw_block ?_
   refine aw_loop (fun s G nx => G 0 = some (.var 33 [rowT Alt.cells r]) ∧ G 1 = some (.var 23 v.cells) ∧ s 2 = .ptr 0 0 ∧ s 3 = .ptr 1 0 ∧ ∃ i : Nat, s 5 = iV i ∧ i ≤ r.length ∧ (r.take i).any (altHolds v) = false) (fun s _ _ => match s 5 with | .v (.int _ n) => r.length - n.toNat | _ => 0) ?_ ?_
   ·exact ⟨by simp [Rg.cells], by simp, by simp, by simp, 0, by simp, by omega, by simp⟩
   ·rintro s G nx hf ⟨g0, g1, s2, s3, i, s5, hi, ht⟩
    have hw : IntKind.i64.wrap (↑i + 1) = ((i + 1 : Nat) : Int) := wrapS (by omega)
    with_reducible refine aA ?_
    with_reducible refine aR fun K' hK => ?_
    simp [s2, s5, g0]
    refine hK _ _ _ ?_
    clear K' hK
    with_reducible refine aC fun A B hA hB => ?_
    simp []
    refine ⟨fun hi2 => hA ?_, fun hi2 => hB ?_⟩ <;> clear hA hB A B <;> (try simp at hi2) <;> (try with_reducible refine aK ?_)
    ·have hA := hr.2 _ (nth_mem hi2)
     with_reducible refine aw_block ?_
     with_reducible refine aQ fun K' hK => ?_
     simp [s2, s3, s5, g0, g1, hi2]
     refine acall_flat (lets102_ok (nth r i) v hA hv) rfl (by simp) ?_
     simp
     refine hK _ _ _ ?_
     clear K' hK
     by_cases c4 : altHolds v (nth r i) = true
     ·skip
      with_reducible refine aD fun A B hA hB => ?_
      simp [c4]
      refine ⟨fun hc => hA ?_, fun hc => hB ?_⟩ <;> clear hA hB A B <;> (try (simp at hc; done)) <;> (try (exfalso; simp at hc; omega)) <;> clear hc <;> (try with_reducible refine aK ?_)
      with_reducible refine aA ?_
      with_reducible refine aR fun K' hK => ?_
      simp []
      refine hK _ _ _ ?_
      clear K' hK
      first | with_reducible refine aw_ret ?_ | with_reducible refine aw_retL ?_ | with_reducible refine aw_skipL ?_
      simp [blockK, loopK, Post, resA, res1, expT, expA, exp1, expM, expL, okT, okA, ok1, rowOf, Tryz.f44]
      have : r.any (altHolds v) = true := List.any_eq_true.2 ⟨_, nth_mem hi2, c4⟩
      simp [rgHolds, c1, c2, this]
     ·skip
      with_reducible refine aD fun A B hA hB => ?_
      simp [c4]
      refine ⟨fun hc => hA ?_, fun hc => hB ?_⟩ <;> clear hA hB A B <;> (try (simp at hc; done)) <;> (try (exfalso; simp at hc; omega)) <;> clear hc <;> (try with_reducible refine aK ?_)
      with_reducible refine aw_skipL ?_
      refine blockK_normal ?_
      with_reducible refine aS fun K' hK => ?_
      simp [s5, hw]
      refine hK _ _ _ ?_
      clear K' hK
      refine aw_skipL (loopK_normal ?_ ?_)
      ·exact ⟨by simp [g0], by simp [g1], by simp [s2], by simp [s3], i + 1, by simp [hw], by omega, any_take hi2 ht (by simpa using c4)⟩
      ·simp [s5, hw]; omega
    ·skip
     with_reducible refine aw_exit ?_
     refine loopK_exit (blockK_exit ?_)
     rw [List.take_of_length_le (by omega)] at ht
     with_reducible refine aR fun K' hK => ?_
     simp []
     refine hK _ _ _ ?_
     clear K' hK
     first | with_reducible refine aw_ret ?_ | with_reducible refine aw_retL ?_ | with_reducible refine aw_skipL ?_
     simp [blockK, loopK, Post, resA, res1, expT, expA, exp1, expM, expL, okT, okA, ok1, rowOf, Tryz.f44]
     simp [rgHolds, ht]
  ·simp [c2]
   refine hK _ _ _ ?_
   clear K' hK
   with_reducible refine aC fun A B hA hB => ?_
   simp []
   refine ⟨fun hc => hA ?_, fun hc => hB ?_⟩ <;> clear hA hB A B <;> (try (simp at hc; done)) <;> (try (exfalso; simp at hc; omega)) <;> clear hc <;> (try with_reducible refine aK ?_)
   with_reducible refine aA ?_
   with_reducible refine aR fun K' hK => ?_
   simp []
   refine hK _ _ _ ?_
   clear K' hK
   first | with_reducible refine aw_ret ?_ | with_reducible refine aw_retL ?_ | with_reducible refine aw_skipL ?_
   simp [blockK, loopK, Post, resA, res1, expT, expA, exp1, expM, expL, okT, okA, ok1, rowOf, Tryz.f44]
   simp [rgHolds, c2]
 ·simp [c1]
  refine hK _ _ _ ?_
  clear K' hK
  with_reducible refine aC fun A B hA hB => ?_
  simp []
  refine ⟨fun hc => hA ?_, fun hc => hB ?_⟩ <;> clear hA hB A B <;> (try (simp at hc; done)) <;> (try (exfalso; simp at hc; omega)) <;> clear hc <;> (try with_reducible refine aK ?_)
  with_reducible refine aA ?_
  with_reducible refine aR fun K' hK => ?_
  simp []
  refine hK _ _ _ ?_
  clear K' hK
  first | with_reducible refine aw_ret ?_ | with_reducible refine aw_retL ?_ | with_reducible refine aw_skipL ?_
  simp [blockK, loopK, Post, resA, res1, expT, expA, exp1, expM, expL, okT, okA, ok1, rowOf, Tryz.f44]
  simp [rgHolds, c1]
end Go.Proofs.YtgipehooceecpaaGreatDoorAbs
namespace Go.Proofs.YtgipehooceecpaaGreatDoorAbs
set_option linter.unusedSimpArgs false
set_option linter.unusedVariables false
open Go Go.RowKit Go.Proofs
set_option maxRecDepth 100000
set_option maxHeartbeats 4000000
theorem ruled_range {ds : List Dep} {rules : List Ru} {b : Bool} {d : Dep} {i : Nat} (h : d ∈ ofF ds rules b) (hi : atF rules d.name = some i) : d.range = (nth rules i).range := by
 obtain ⟨n, hn, rfl⟩ := List.mem_map.1 h
 have hi' : atF rules (findD (byM b ds) n).name = some i := hi
 unfold edgeOf
 rw [hi']
theorem valid_edge {root : Man} {L : List Man} {t : List Pl} {n : Int} {m : Man} (h0 : 0 ≤ n) (h1 : n < t.length) (hv : validN root L t = true) (hm : manVal root L t n = some m) : holdsF t n = true ∧ ∀ d ∈ ofF m.deps root.rules (decide (n = 0)), holdsV t n d = true := by
 simp only [validN, Bool.and_eq_true, decide_eq_true_eq] at hv
 have g : Good t := check_iff.1 (codeV_zero.1 hv.1).2.2
 have hw := wrong_mem (root := root) (L := L) g (n := n.toNat) (by omega)
 rw [hv.2, show ((n.toNat : Nat) : Int) = n by omega] at hw
 have hf : fineV root L t n = true := by simpa using hw.symm
 refine ⟨holds_iff.2 ⟨g, h0, h1⟩, ?_⟩
 unfold fineV at hf
 rw [hm] at hf
 exact List.all_eq_true.1 hf
theorem rules8_ok (root : Man) (L : List Man) (t : List Pl) (n : Int) (hl : L.length ≤ 9223372036854775807) (htl : t.length ≤ 9223372036854775807) : CallsOK Tryz.prog 8 [.agg root.cells, rowT Man.cells L, rowT Pl.cells t, iV n] (bV true) [] := by
 refine callsOK mixed Tryz.call8 Tryz.func8 rfl (by rw [Tryz.ntmps8]; simp) ?_ rfl
 rw [Tryz.ntmps8]
 with_reducible refine aR fun K' hK => ?_
 simp []
 refine hK _ _ _ ?_
 clear K' hK
 with_reducible refine aA ?_
 with_reducible refine aR fun K' hK => ?_
 simp []
 refine acall_flat (big21_ok root L t hl htl) rfl (by first | rfl | (simp []; done) | (simp []; rfl) | (simp []; exact ⟨rfl, rfl⟩)) ?_
 by_cases hb : bigW root L t = true
 ·simp [hb]
  refine hK _ _ _ ?_
  clear K' hK
  with_reducible refine aC fun A B hA hB => ?_
  simp []
  refine ⟨fun hc => hA ?_, fun hc => hB ?_⟩ <;> clear hA hB A B <;> (try (simp at hc; done)) <;> (try (exfalso; simp at hc; omega)) <;> clear hc <;> (try with_reducible refine aK ?_)
  with_reducible refine aA ?_
  with_reducible refine aR fun K' hK => ?_
  simp []
  refine hK _ _ _ ?_
  clear K' hK
  first | with_reducible refine aw_ret ?_ | with_reducible refine aw_retL ?_ | with_reducible refine aw_skipL ?_
  simp [blockK, loopK, Post, resA, res1, expT, expA, exp1, expM, expL, okT, okA, ok1, rowOf, Tryz.f8]
 ·have hb' : bigW root L t = false := by simpa using hb
  obtain ⟨b1, b2, b3⟩ := bigW_sz hb'
  have hsz : ValSz root L t := valSz_of b1 b2 b3
  simp [hb]
  by_cases h0 : n < 0
  ·simp [h0]
   refine hK _ _ _ ?_
   clear K' hK
   with_reducible refine aC fun A B hA hB => ?_
   simp []
   refine ⟨fun hc => hA ?_, fun hc => hB ?_⟩ <;> clear hA hB A B <;> (try (simp at hc; done)) <;> (try (exfalso; simp at hc; omega)) <;> clear hc <;> (try with_reducible refine aK ?_)
   with_reducible refine aA ?_
   with_reducible refine aR fun K' hK => ?_
   simp []
   refine hK _ _ _ ?_
   clear K' hK
   first | with_reducible refine aw_ret ?_ | with_reducible refine aw_retL ?_ | with_reducible refine aw_skipL ?_
   simp [blockK, loopK, Post, resA, res1, expT, expA, exp1, expM, expL, okT, okA, ok1, rowOf, Tryz.f8]
  ·by_cases h1 : (t.length : Int) ≤ n
   ·simp [h0, h1]
    refine hK _ _ _ ?_
    clear K' hK
    with_reducible refine aC fun A B hA hB => ?_
    simp []
    refine ⟨fun hc => hA ?_, fun hc => hB ?_⟩ <;> clear hA hB A B <;> (try (simp at hc; done)) <;> (try (exfalso; simp at hc; omega)) <;> clear hc <;> (try with_reducible refine aK ?_)
    with_reducible refine aA ?_
    with_reducible refine aR fun K' hK => ?_
    simp []
    refine hK _ _ _ ?_
    clear K' hK
    first | with_reducible refine aw_ret ?_ | with_reducible refine aw_retL ?_ | with_reducible refine aw_skipL ?_
    simp [blockK, loopK, Post, resA, res1, expT, expA, exp1, expM, expL, okT, okA, ok1, rowOf, Tryz.f8]
   ·simp [h0, h1]
    refine hK _ _ _ ?_
    clear K' hK
    with_reducible refine aC fun A B hA hB => ?_
    simp []
    refine ⟨fun hc => hA ?_, fun hc => hB ?_⟩ <;> clear hA hB A B <;> (try (simp at hc; done)) <;> (try (exfalso; simp at hc; omega)) <;> clear hc <;> (try with_reducible refine aK ?_)
    have hV := valid38_ok root L t hsz
    have hM := manVal_ok root hsz.2.1 L hsz.2.2.1.1 hsz.2.2.2.1 t hsz.2.2.2.2.1 n
    cases hmv : manVal root L t n with
    | none =>
     rw [hmv] at hM
     with_reducible refine aR fun K' hK => ?_
     simp []
     refine acall_new hM (by first | rfl | (simp []; done) | (simp []; rfl) | (simp []; exact ⟨rfl, rfl⟩)) ?_
     simp [manR, addJ_nil]
     refine hK _ _ _ ?_
     clear K' hK
     with_reducible refine aA ?_
     with_reducible refine aR fun K' hK => ?_
     simp []
     refine hK _ _ _ ?_
     clear K' hK
     with_reducible refine aC fun A B hA hB => ?_
     simp []
     refine ⟨fun hc => hA ?_, fun hc => hB ?_⟩ <;> clear hA hB A B <;> (try (simp at hc; done)) <;> (try (exfalso; simp at hc; omega)) <;> clear hc <;> (try with_reducible refine aK ?_)
     with_reducible refine aA ?_
     with_reducible refine aR fun K' hK => ?_
     simp []
     refine acall_flat gives26_ok rfl (by simp) ?_
     simp
     refine hK _ _ _ ?_
     clear K' hK
     first | with_reducible refine aw_ret ?_ | with_reducible refine aw_retL ?_ | with_reducible refine aw_skipL ?_
     simp [blockK, loopK, Post, resA, res1, expT, expA, exp1, expM, expL, okT, okA, ok1, rowOf, Tryz.f8]
    | some m =>
     rw [hmv] at hM
     have hmm : Man.sz m ∧ Man.okS m := by
      rcases manVal_mem hmv with rfl | h
      ·exact ⟨hsz.1, hsz.2.1⟩
      ·exact ⟨hsz.2.2.1.2 _ h, hsz.2.2.2.1 _ h⟩
     with_reducible refine aR fun K' hK => ?_
     simp []
     refine acall_new hM (by first | rfl | (simp []; done) | (simp []; rfl) | (simp []; exact ⟨rfl, rfl⟩)) ?_
     simp [manR, addJ_two]
     refine hK _ _ _ ?_
     clear K' hK
     by_cases hval : validN root L t = true
     ·with_reducible refine aA ?_
      with_reducible refine aR fun K' hK => ?_
      simp []
      refine acall_flat hV rfl (by first | rfl | (simp []; done) | (simp []; rfl) | (simp []; exact ⟨rfl, rfl⟩)) ?_
      simp [hval]
      refine hK _ _ _ ?_
      clear K' hK
      with_reducible refine aC fun A B hA hB => ?_
      simp []
      refine ⟨fun hc => hA ?_, fun hc => hB ?_⟩ <;> clear hA hB A B <;> (try (simp at hc; done)) <;> (try (exfalso; simp at hc; omega)) <;> clear hc <;> (try with_reducible refine aK ?_)
      obtain ⟨hh, hE⟩ := valid_edge (by omega) (by omega) hval hmv
      refine aw_gen (fun u H nz => u 4 = .ptr 0 0 ∧ u 2 = rowT Pl.cells t ∧ u 3 = iV n ∧ u 9 = .ptr 3 0 ∧ nz = 4 ∧ H 0 = some (.var 27 root.cells) ∧ H 1 = some (.row 35 (flat Dep.cells m.deps)) ∧ H 2 = some (.row 96 (flat Ru.cells m.rules)) ∧ H 3 = some (.var 27 (m.cellsR (.row 1 m.deps.length) (.row 2 m.rules.length)))) ?_ ?_
      ·exact ⟨by simp, by simp, by simp, by simp, by simp, by simp, by simp, by simp, by simp⟩
      rintro u H nz ⟨u4, u2, u3, u9, rfl, g0, k1, k2, k3⟩
      have hT := manR_trees (show ¬ 2 = 1 by omega) k1 k2
      have hOf := of10_ok m root.rules (decide (n = 0)) hmm.2.1 hsz.2.1.2
      have hRR : ∀ d ∈ ofF m.deps root.rules (decide (n = 0)), ∀ i, atF root.rules d.name = some i → d.range = (nth root.rules i).range := fun d hd i hi => ruled_range hd hi
      have hEl : (ofF m.deps root.rules (decide (n = 0))).length ≤ 1000000000 := ofF_lenle hmm.1.2.2.1.1
      generalize ofF m.deps root.rules (decide (n = 0)) = E at *
      with_reducible refine aR fun K' hK => ?_
      simp [u4, u3, u9, k3, g0]
      refine acall_new hOf (by simp [hT]) ?_
      simp [addJ_one, hT]
      refine hK _ _ _ ?_
      clear K' hK
      with_reducible refine aA ?_
      with_reducible refine aR fun K' hK => ?_
      simp []
      refine hK _ _ _ ?_
      clear K' hK
      with_reducible refine aw_block ?_
      refine aw_loop (fun s G nx => s 4 = .ptr 0 0 ∧ s 2 = rowT Pl.cells t ∧ s 3 = iV n ∧ s 11 = .row 4 E.length ∧ G 0 = some (.var 27 root.cells) ∧ G 4 = some (.row 35 (flat Dep.cells E)) ∧ ∃ i : Nat, s 12 = iV i ∧ i ≤ E.length) (fun s _ _ => match s 12 with | .v (.int _ n) => E.length - n.toNat | _ => 0) ?_ ?_
      ·have e1 : ¬ 0 = 1 := by omega
       have e2 : ¬ 0 = 2 := by omega
       exact ⟨by simp [u4], by simp [u2], by simp [u3], by simp, by simp [g0], by simp, 0, by simp, by omega⟩
      ·rintro s G nx hf ⟨s4, s2, s3, s11, g0, g4, i, s12, hi⟩
       have o12 := s12
       have n0 : ¬ 0 = nx := by have := fresh_lt hf g0; omega
       have n4 : ¬ 4 = nx := by have := fresh_lt hf g4; omega
       have n41 : ¬ 4 = nx + 1 := by have := fresh_lt hf g4; omega
       have n01 : ¬ 0 = nx + 1 := by omega
       have hw : IntKind.i64.wrap (↑i + 1) = ((i + 1 : Nat) : Int) := wrapS (by omega)
       with_reducible refine aA ?_
       with_reducible refine aR fun K' hK => ?_
       simp [s11, s12, g4]
       refine hK _ _ _ ?_
       clear K' hK
       with_reducible refine aC fun A B hA hB => ?_
       simp []
       refine ⟨fun hi2 => hA ?_, fun hi2 => hB ?_⟩ <;> clear hA hB A B <;> (try simp at hi2) <;> (try with_reducible refine aK ?_)
       ·have hd := hE _ (nth_mem hi2)
        have hr := hRR _ (nth_mem hi2)
        generalize hgd : nth E i = d at *
        have hto := toN_lt t n d
        have hdef : holdsV t n d = if toN t n d < 0 then decide (d.kind = 3) else rgHolds (nth t (toN t n d).toNat).ver d.range := by rw [holdsV, if_pos hh]
        with_reducible refine aw_block ?_
        cases hat : atF root.rules d.name with
        | none =>
         refine aw_regionL none [] (by decide +kernel) (by decide +kernel) (fun p' hp' => by cases hp') fun K' hK => ?_
         simp [s4, s11, s12, g0, g4, hi2, hgd]
         refine acall_new (rule11_none root.rules d.name hsz.2.1.2 hat) (by first | rfl | (simp []; done) | (simp []; rfl) | (simp []; exact ⟨rfl, rfl⟩)) ?_
         simp [addJ_nil]
         refine hK _ _ _ ?_
         clear K' hK
         with_reducible refine aR fun K' hK => ?_
         simp [s2, s3, s11, s12, g4, n4, hi2, hgd]
         refine acall_flat (to28_ok t hsz.2.2.2.2.1 n d) rfl (by first | rfl | (simp []; done) | (simp []; rfl) | (simp []; exact ⟨rfl, rfl⟩)) ?_
         simp
         refine hK _ _ _ ?_
         clear K' hK
         with_reducible refine aQ fun K' hK => ?_
         simp (maxSteps := 1000000) []
         refine hK _ _ _ ?_
         clear K' hK
         with_reducible refine aD fun A B hA hB => ?_
         simp []
         refine ⟨fun hc => hA ?_, fun hc => hB ?_⟩ <;> clear hA hB A B <;> (try (simp at hc; done)) <;> (try (exfalso; simp at hc; omega)) <;> clear hc <;> (try with_reducible refine aK ?_)
         with_reducible refine aw_skipL ?_
         refine blockK_normal ?_
         with_reducible refine aS fun K' hK => ?_
         simp [s12, hw]
         refine hK _ _ _ ?_
         clear K' hK
         refine aw_skipL (loopK_normal ?_ ?_)
         ·exact ⟨by simp [s4], by simp [s2], by simp [s3], by simp [s11], by simp [g0, n0], by simp [g4, n4], i + 1, by simp [hw], by omega⟩
         ·simp [o12, s12, hw]; omega
        | some q =>
         have hrq := hr q hat
         refine aw_regionL none [] (by decide +kernel) (by decide +kernel) (fun p' hp' => by cases hp') fun K' hK => ?_
         simp [s4, s11, s12, g0, g4, hi2, hgd]
         refine acall_new (rule11_some root.rules d.name hsz.2.1.2 hat) (by first | rfl | (simp []; done) | (simp []; rfl) | (simp []; exact ⟨rfl, rfl⟩)) ?_
         simp [addJ_one]
         refine hK _ _ _ ?_
         clear K' hK
         with_reducible refine aR fun K' hK => ?_
         simp [s2, s3, s11, s12, g4, n4, n41, hi2, hgd]
         refine acall_flat (to28_ok t hsz.2.2.2.2.1 n d) rfl (by first | rfl | (simp []; done) | (simp []; rfl) | (simp []; exact ⟨rfl, rfl⟩)) ?_
         simp
         refine hK _ _ _ ?_
         clear K' hK
         generalize toN t n d = k at *
         by_cases hk : k < 0
         ·have hk' : ¬ 0 ≤ k := by omega
          with_reducible refine aQ fun K' hK => ?_
          simp (maxSteps := 1000000) [hk, hk']
          refine hK _ _ _ ?_
          clear K' hK
          with_reducible refine aD fun A B hA hB => ?_
          simp []
          refine ⟨fun hc => hA ?_, fun hc => hB ?_⟩ <;> clear hA hB A B <;> (try (simp at hc; done)) <;> (try (exfalso; simp at hc; omega)) <;> clear hc <;> (try with_reducible refine aK ?_)
          with_reducible refine aw_skipL ?_
          refine blockK_normal ?_
          with_reducible refine aS fun K' hK => ?_
          simp [s12, hw]
          refine hK _ _ _ ?_
          clear K' hK
          refine aw_skipL (loopK_normal ?_ ?_)
          ·exact ⟨by simp [s4], by simp [s2], by simp [s3], by simp [s11], by simp [g0, n0, n01], by simp [g4, n4, n41], i + 1, by simp [hw], by omega⟩
          ·simp [o12, s12, hw]; omega
         ·rw [hd, if_neg hk, hrq] at hdef
          have hk0 : 0 ≤ k := by omega
          have hkl : ¬ (t.length : Int) ≤ k := by omega
          have hin : k.toNat < t.length := by omega
          have hqr : q < root.rules.length := (List.findIdx?_eq_some_iff_getElem.1 hat).1
          have hRz : Rg.sz (nth root.rules q).range := (hsz.1.2.2.2.2 _ (nth_mem hqr)).2
          generalize hkj : k.toNat = j at *
          with_reducible refine aQ fun K' hK => ?_
          simp [s2, hk, hk0, hkl, hto, hin, hkj]
          refine acall_flat (holds44_ok (nth root.rules q).range (nth t j).ver hRz (hsz.2.2.2.2.2 _ (nth_mem hin))) rfl (by first | rfl | (simp []; done) | (simp []; rfl) | (simp []; exact ⟨rfl, rfl⟩)) ?_
          simp [← hdef]
          refine hK _ _ _ ?_
          clear K' hK
          with_reducible refine aD fun A B hA hB => ?_
          simp []
          refine ⟨fun hc => hA ?_, fun hc => hB ?_⟩ <;> clear hA hB A B <;> (try (simp at hc; done)) <;> (try (exfalso; simp at hc; omega)) <;> clear hc <;> (try with_reducible refine aK ?_)
          with_reducible refine aw_skipL ?_
          refine blockK_normal ?_
          with_reducible refine aS fun K' hK => ?_
          simp [s12, hw]
          refine hK _ _ _ ?_
          clear K' hK
          refine aw_skipL (loopK_normal ?_ ?_)
          ·exact ⟨by simp [s4], by simp [s2], by simp [s3], by simp [s11], by simp [g0, n0, n01], by simp [g4, n4, n41], i + 1, by simp [hw], by omega⟩
          ·simp [o12, s12, hw]; omega
       ·skip
        with_reducible refine aw_exit ?_
        refine loopK_exit (blockK_exit ?_)
        with_reducible refine aR fun K' hK => ?_
        simp []
        refine acall_flat gives26_ok rfl (by simp) ?_
        simp
        refine hK _ _ _ ?_
        clear K' hK
        first | with_reducible refine aw_ret ?_ | with_reducible refine aw_retL ?_ | with_reducible refine aw_skipL ?_
        simp [blockK, loopK, Post, resA, res1, expT, expA, exp1, expM, expL, okT, okA, ok1, rowOf, Tryz.f8]
     ·have hval' : validN root L t = false := by simpa using hval
      with_reducible refine aA ?_
      with_reducible refine aR fun K' hK => ?_
      simp []
      refine acall_flat hV rfl (by first | rfl | (simp []; done) | (simp []; rfl) | (simp []; exact ⟨rfl, rfl⟩)) ?_
      simp [hval']
      refine hK _ _ _ ?_
      clear K' hK
      with_reducible refine aC fun A B hA hB => ?_
      simp []
      refine ⟨fun hc => hA ?_, fun hc => hB ?_⟩ <;> clear hA hB A B <;> (try (simp at hc; done)) <;> (try (exfalso; simp at hc; omega)) <;> clear hc <;> (try with_reducible refine aK ?_)
      with_reducible refine aA ?_
      with_reducible refine aR fun K' hK => ?_
      simp []
      refine acall_flat gives26_ok rfl (by simp) ?_
      simp
      refine hK _ _ _ ?_
      clear K' hK
      first | with_reducible refine aw_ret ?_ | with_reducible refine aw_retL ?_ | with_reducible refine aw_skipL ?_
      simp [blockK, loopK, Post, resA, res1, expT, expA, exp1, expM, expL, okT, okA, ok1, rowOf, Tryz.f8]
end Go.Proofs.YtgipehooceecpaaGreatDoorAbs
