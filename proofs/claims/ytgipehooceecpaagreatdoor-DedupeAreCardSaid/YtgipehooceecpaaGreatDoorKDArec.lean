/- DedupeAre answers true at every input, and its arguments read afterwards as before; the listed variables of Go's library hold what the program's text lays. No other condition. -/
import Derived.Test.YtgipehooceecpaaGreatDoorCards
import Derived.Test.YtgipehooceecpaaGreatDoorTie
import Derived.Test.YtgipehooceecpaaGreatDoorEa14
import Derived.WalkKit
import Derived.ProofKit
import Derived.OpenShut
import Derived.ShutString
import Derived.ChangeOld
import Derived.Below
import Derived.SizedLaws
import Derived.Test.YtgipehooceecpaaGreatDoorKDAreb
namespace Go.Proofs.YtgipehooceecpaaGreatDoor.dedupeAre
open Go.ChangeShapes Go.WideShapes Go.ChangeAt Go.RowKit Go.Proofs.YtgipehooceecpaaGreatDoorAbs
open Go.ChangeMaps (open_string shut_string)
set_option linter.unusedVariables false
theorem in1 : (Rows.dedupeAreRow.inPlace == Tryz.prog.inPlace 14) = true := by kernel_rfl
theorem in2 : (Rows.dedupeAreRow.unfollowed == Tryz.prog.unfollowed 14) = true := by kernel_rfl
end Go.Proofs.YtgipehooceecpaaGreatDoor.dedupeAre
