/- ValidAre answers true at every input, and its arguments read afterwards as before; the listed variables of Go's library hold what the program's text lays. No other condition. -/
import Derived.Test.YtgipehooceecpaaGreatDoorCards
import Derived.Test.YtgipehooceecpaaGreatDoorTie
import Derived.Test.YtgipehooceecpaaGreatDoorS16
import Derived.WalkKit
import Derived.ProofKit
import Derived.OpenShut
import Derived.ShutString
import Derived.ChangeOld
import Derived.Below
import Derived.SizedLaws
import Derived.Test.YtgipehooceecpaaGreatDoorKArec
namespace Go.Proofs.YtgipehooceecpaaGreatDoor.validAre
open Go.ChangeShapes Go.WideShapes Go.ChangeAt Go.RowKit Go.Proofs.YtgipehooceecpaaGreatDoorAbs
open Go.ChangeMaps (open_string shut_string)
set_option linter.unusedVariables false
theorem in3 : (Rows.validAreRow.recurses == Tryz.prog.recurses 3) = true := by kernel_rfl
theorem in4 : (Rows.validAreRow.named == Tryz.prog.varsNamed 3) = true := by kernel_rfl
end Go.Proofs.YtgipehooceecpaaGreatDoor.validAre
