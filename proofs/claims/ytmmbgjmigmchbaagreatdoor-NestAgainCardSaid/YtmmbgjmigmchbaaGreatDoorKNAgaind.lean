/- NestAgain answers true at every input, and its arguments read afterwards as before; the listed variables of Go's library hold what the program's text lays. No other condition. -/
import Derived.Test.YtmmbgjmigmchbaaGreatDoorCards
import Derived.Test.YtmmbgjmigmchbaaGreatDoorTie
import Derived.Test.YtmmbgjmigmchbaaGreatDoorNa15
import Derived.WalkKit
import Derived.ProofKit
import Derived.OpenShut
import Derived.ShutString
import Derived.ChangeOld
import Derived.Below
import Derived.SizedLaws
import Derived.Test.YtmmbgjmigmchbaaGreatDoorKNAgainc
namespace Go.Proofs.YtmmbgjmigmchbaaGreatDoor.nestAgain
open Go.ChangeShapes Go.WideShapes Go.ChangeAt Go.RowKit Go.Proofs.YtmmbgjmigmchbaaGreatDoorAbs
open Go.ChangeMaps (open_string shut_string)
set_option linter.unusedVariables false
theorem in3 : (Rows.nestAgainRow.recurses == Tryz.prog.recurses 9) = true := by kernel_rfl
theorem in4 : (Rows.nestAgainRow.named == Tryz.prog.varsNamed 9) = true := by kernel_rfl
end Go.Proofs.YtmmbgjmigmchbaaGreatDoor.nestAgain
