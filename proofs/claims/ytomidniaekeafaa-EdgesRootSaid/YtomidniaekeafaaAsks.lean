/- asks: the document's rows. -/
import Derived.Test.YtomidniaekeafaaOrd
namespace Go.Proofs.YtomidniaekeafaaAbs
set_option linter.unusedSimpArgs false
set_option linter.unusedVariables false
open Go Go.RowKit Go.Proofs
set_option maxRecDepth 100000
set_option maxHeartbeats 4000000
theorem free32_c : CallsOK Try.prog 32 [] (.agg [.row 0 1]) [(66, [rowT Bd.cells []])] := free32_ok
theorem alone33_c (n : Int) : CallsOK Try.prog 33 [iV n] (.agg [.row 0 1]) [(66, [rowT Bd.cells [aloneB n]])] := alone33_ok n
theorem of10_z (ds : List Dep) (root : Bool) (hd : Dep.okL ds) : CallsOK Try.prog 10 [.agg [sV ⟨#[]⟩, iV 0, iV 0, iV 0, sV ⟨#[]⟩, rowT Dep.cells ds, .v (.slice none 0 0)], .v (.slice none 0 0), .v (.bool root)] (.row 0 (ofF ds [] root).length) [(41, flat Dep.cells (ofF ds [] root))] :=
  (of10_ok ⟨⟨#[]⟩, 0, 0, 0, ⟨#[]⟩, ds, []⟩ [] root hd ⟨by simp, by simp⟩).weak (.cons (.agg (.cons (.refl _) (.cons (.refl _) (.cons (.refl _) (.cons (.refl _) (.cons (.refl _) (.cons (.refl _) (.cons .nilRow .nil)))))))) (.cons .nilRow (.cons (.refl _) .nil)))
theorem of10_r (ds : List Dep) (rules : List Ru) (root : Bool) (hd : Dep.okL ds) (hr : Ru.okL rules) : CallsOK Try.prog 10 [.agg [sV ⟨#[]⟩, iV 0, iV 0, iV 0, sV ⟨#[]⟩, rowT Dep.cells ds, .v (.slice none 0 0)], rowT Ru.cells rules, .v (.bool root)] (.row 0 (ofF ds rules root).length) [(41, flat Dep.cells (ofF ds rules root))] :=
  (of10_ok ⟨⟨#[]⟩, 0, 0, 0, ⟨#[]⟩, ds, []⟩ rules root hd hr).weak (.cons (.agg (.cons (.refl _) (.cons (.refl _) (.cons (.refl _) (.cons (.refl _) (.cons (.refl _) (.cons (.refl _) (.cons .nilRow .nil)))))))) (.cons (.refl _) (.cons (.refl _) .nil)))
def tA : Bs := ⟨#[97]⟩
def tB : Bs := ⟨#[98]⟩
def tC : Bs := ⟨#[99]⟩
def askM : List Dep := [⟨1, tB, [[]]⟩, ⟨2, tA, [[]]⟩, ⟨3, tB, [[aloneB 1]]⟩, ⟨4, tC, [[]]⟩]
def ask1 : List Dep := [⟨2, tA, [[]]⟩, ⟨1, tB, [[]]⟩, ⟨4, tC, [[]]⟩]
def ask2 : List Dep := [⟨1, tB, [[aloneB 2]]⟩, ⟨4, tC, [[]]⟩]
def askR : List Ru := [⟨tB, [[aloneB 2]]⟩]
theorem of_ask1 : ofF askM [] true = ask1 := by
  have h1 : byM true askM = [⟨1, tB, [[]]⟩, ⟨2, tA, [[]]⟩, ⟨4, tC, [[]]⟩] := by decide +kernel
  have h2 : sortN (namesOf [⟨1, tB, [[]]⟩, ⟨2, tA, [[]]⟩, ⟨4, tC, [[]]⟩]) = [tA, tB, tC] := sortN_eq (by decide +kernel) (by
    have : ([tA, tB, tC].Pairwise fun a b => bsL a ≤ bsL b) := by decide +kernel
    exact this)
  unfold ofF
  rw [h1, h2]
  decide +kernel
theorem of_ask2 : ofF askM askR false = ask2 := by
  have h1 : byM false askM = [⟨1, tB, [[]]⟩, ⟨4, tC, [[]]⟩] := by decide +kernel
  have h2 : sortN (namesOf [⟨1, tB, [[]]⟩, ⟨4, tC, [[]]⟩]) = [tB, tC] := sortN_eq (by decide +kernel) (by
    have : ([tB, tC].Pairwise fun a b => bsL a ≤ bsL b) := by decide +kernel
    exact this)
  unfold ofF
  rw [h1, h2]
  decide +kernel
theorem askM_ok : Dep.okL askM := by
  refine ⟨by decide, fun d hd => ?_⟩
  simp [askM] at hd
  rcases hd with rfl | rfl | rfl | rfl <;> refine ⟨by decide, by decide, ?_⟩ <;> intro l hl <;> simp at hl <;> subst hl <;> simp
theorem ask1_ok : Dep.okL ask1 := by
  refine ⟨by decide, fun d hd => ?_⟩
  simp [ask1] at hd
  rcases hd with rfl | rfl | rfl <;> refine ⟨by decide, by decide, ?_⟩ <;> intro l hl <;> simp at hl <;> subst hl <;> simp
theorem ask2_ok : Dep.okL ask2 := by
  refine ⟨by decide, fun d hd => ?_⟩
  simp [ask2] at hd
  rcases hd with rfl | rfl <;> refine ⟨by decide, by decide, ?_⟩ <;> intro l hl <;> simp at hl <;> subst hl <;> simp
theorem askR_ok : Ru.okL askR := by
  refine ⟨by decide, fun d hd => ?_⟩
  simp [askR] at hd
  subst hd
  refine ⟨by decide, ?_⟩
  intro l hl; simp at hl; subst hl; simp
theorem ask_of1 : CallsOK Try.prog 10 [.agg [sV ⟨#[]⟩, iV 0, iV 0, iV 0, sV ⟨#[]⟩, rowT Dep.cells askM, .v (.slice none 0 0)], .v (.slice none 0 0), .v (.bool true)] (.row 0 3) [(41, flat Dep.cells ask1)] := by
  have h := of10_z askM true askM_ok
  rw [of_ask1] at h; exact h
theorem ask_of2 : CallsOK Try.prog 10 [.agg [sV ⟨#[]⟩, iV 0, iV 0, iV 0, sV ⟨#[]⟩, rowT Dep.cells askM, .v (.slice none 0 0)], rowT Ru.cells askR, .v (.bool false)] (.row 0 2) [(41, flat Dep.cells ask2)] := by
  have h := of10_r askM askR false askM_ok askR_ok
  rw [of_ask2] at h; exact h
theorem asks19_ok : CallsOK Try.prog 19 [] (.v (.bool true)) [] := by
  refine callsOK mixed Try.call19 Try.func19 rfl (by rw [Try.ntmps19]; simp) ?_ rfl
  rw [Try.ntmps19]
  repeat with_reducible refine aw_assoc ?_
  first | with_reducible refine aw_region0 fun K' hK => ?_ | with_reducible refine aw_toS (aw_region0 fun K' hK => ?_)
  simp []
  first | refine hK _ _ _ ?_ | done
  clear K' hK
  repeat with_reducible refine aw_assoc ?_
  first | with_reducible refine aw_region0 fun K' hK => ?_ | with_reducible refine aw_toS (aw_region0 fun K' hK => ?_)
  simp []
  refine acall_new free32_c (by simp) ?_
  simp [addJ_one]
  refine acall_new free32_c (by simp) ?_
  simp [addJ_one]
  refine acall_new (alone33_c 1) (by simp) ?_
  simp [addJ_one]
  refine acall_new free32_c (by simp) ?_
  simp [addJ_one, List.range_succ, treeOf_row, frzOf_row]
  first | refine hK _ _ _ ?_ | done
  clear K' hK
  repeat with_reducible refine aw_assoc ?_
  first | with_reducible refine aw_region0 fun K' hK => ?_ | with_reducible refine aw_toS (aw_region0 fun K' hK => ?_)
  simp []
  refine acall_new free32_c (by simp) ?_
  simp [addJ_one]
  refine acall_new free32_c (by simp) ?_
  simp [addJ_one]
  refine acall_new free32_c (by simp) ?_
  simp [addJ_one, List.range_succ, treeOf_row, frzOf_row]
  first | refine hK _ _ _ ?_ | done
  clear K' hK
  repeat with_reducible refine aw_assoc ?_
  first | with_reducible refine aw_region0 fun K' hK => ?_ | with_reducible refine aw_toS (aw_region0 fun K' hK => ?_)
  simp []
  refine acall_new (alone33_c 2) (by simp) ?_
  simp [addJ_one]
  refine acall_new free32_c (by simp) ?_
  simp [addJ_one, List.range_succ, treeOf_row, frzOf_row]
  first | refine hK _ _ _ ?_ | done
  clear K' hK
  repeat with_reducible refine aw_assoc ?_
  first | with_reducible refine aw_region1 (by decide +kernel) fun K' hK => ?_ | with_reducible refine aw_toS (aw_region1 (by decide +kernel) fun K' hK => ?_)
  simp [getC]
  refine acall_new ask_of1 (by simp [treeOf_row]; rfl) ?_
  simp [addJ_one, treeOf_row, frzOf_row]
  refine acall_flat (deps13_ok ask1 ask1 ask1_ok) rfl (by simp [treeOf_row]; rfl) ?_
  simp [getC]
  refine acall_new (alone33_c 2) (by simp) ?_
  simp [addJ_one, treeOf_row, frzOf_row]
  refine acall_new ask_of2 (by simp [treeOf_row]; exact ⟨rfl, rfl⟩) ?_
  simp [addJ_one, treeOf_row, frzOf_row]
  refine acall_flat (deps13_ok ask2 ask2 ask2_ok) rfl (by simp [treeOf_row]; rfl) ?_
  simp [getC, getO]
  refine acall_flat (needs17_ok ⟨1, tB, [[]]⟩) rfl (by simp; rfl) ?_
  simp [getC, getO]
  refine acall_flat (needs17_ok ⟨3, tB, [[aloneB 1]]⟩) rfl (by simp; rfl) ?_
  simp [getC, getO]
  first | refine hK _ _ _ ?_ | done
  clear K' hK
  repeat with_reducible refine aw_assoc ?_
  first | with_reducible refine aw_ret ?_ | with_reducible refine aw_retL ?_ | with_reducible refine aw_skipL ?_
  simp [blockK, loopK, Post, resA, res1, expT, expA, exp1, expM, expL, okT, okA, ok1, rowOf, Try.f19]
end Go.Proofs.YtomidniaekeafaaAbs
