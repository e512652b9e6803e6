/- NestGrows answers true at every input, and its arguments read afterwards as before; the listed variables of Go's library hold what the program's text lays. No other condition. -/
import Derived.Test.YtmmbgjmigmchbaaGreatDoorCards
import Derived.Test.YtmmbgjmigmchbaaGreatDoorTie
import Derived.Test.YtmmbgjmigmchbaaGreatDoorNg15
import Derived.WalkKit
import Derived.ProofKit
import Derived.OpenShut
import Derived.ShutString
import Derived.ChangeOld
import Derived.Below
import Derived.SizedLaws
import Derived.Test.YtmmbgjmigmchbaaGreatDoorKNGrowse
namespace Go.Proofs.YtmmbgjmigmchbaaGreatDoor.nestGrows
open Go.ChangeShapes Go.WideShapes Go.ChangeAt Go.RowKit Go.Proofs.YtmmbgjmigmchbaaGreatDoorAbs
open Go.ChangeMaps (open_string shut_string)
set_option linter.unusedVariables false
theorem plain (f : FuncId) (fn : Func) (hf : Tryz.pinned.checked.prog.funcNamed Rows.nestGrowsRow.func = some f) (hfn : Tryz.pinned.checked.prog.funcs[f]? = some fn) :
    true = Tryz.pinned.checked.prog.looks [] ∧ ∀ (j : Nat) t, fn.params[j]? = some t → Tryz.pinned.checked.prog.wantsStandIn t = false := by
  obtain rfl : f = 4 := Option.some.inj ((show Tryz.prog.funcNamed Rows.nestGrowsRow.func = some 4 by kernel_rfl).symm.trans hf) |>.symm
  obtain rfl : fn = Tryz.f4 := (Option.some.inj (Tryz.func4.symm.trans hfn)).symm
  refine ⟨by kernel_rfl, fun j t ht => ?_⟩
  rw [Tryz.params4] at ht
  have hm : t ∈ [27, 28, 29] := by simpa using Array.mem_of_getElem? ht
  have hall : ([27, 28, 29].all fun u => !Tryz.prog.wantsStandIn u) = true := by kernel_rfl
  exact (show Tryz.prog.wantsStandIn t = false by simpa using List.all_eq_true.1 hall t hm)
theorem card : Rows.NestGrowsCardSaid :=
  Claim7.holds_tied_plain_at .later [] _ _ _ _ said (fun _ h => by cases h) (by kernel_rfl) (fun _ h => by cases h) nestGrows_row_tie rfl ⟨rfl, rfl⟩ main_is rfl plain (by kernel_rfl)
#print axioms card
end Go.Proofs.YtmmbgjmigmchbaaGreatDoor.nestGrows
namespace Go.Proofs.YtmmbgjmigmchbaaGreatDoor
/-- The card, under a short name, for the claim. -/
theorem nestGrows_holds : Rows.NestGrowsCardSaid := nestGrows.card
end Go.Proofs.YtmmbgjmigmchbaaGreatDoor
