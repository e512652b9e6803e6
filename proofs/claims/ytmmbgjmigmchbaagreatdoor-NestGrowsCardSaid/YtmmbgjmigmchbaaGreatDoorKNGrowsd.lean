/- NestGrows answers true at every input, and its arguments read afterwards as before; the listed variables of Go's library hold what the program's text lays. No other condition. -/
import Derived.Test.YtmmbgjmigmchbaaGreatDoorCards
import Derived.Test.YtmmbgjmigmchbaaGreatDoorTie
import Derived.Test.YtmmbgjmigmchbaaGreatDoorNg15
import Derived.WalkKit
import Derived.ProofKit
import Derived.OpenShut
import Derived.ShutString
import Derived.ChangeOld
import Derived.Below
import Derived.SizedLaws
import Derived.Test.YtmmbgjmigmchbaaGreatDoorKNGrowsc
namespace Go.Proofs.YtmmbgjmigmchbaaGreatDoor.nestGrows
open Go.ChangeShapes Go.WideShapes Go.ChangeAt Go.RowKit Go.Proofs.YtmmbgjmigmchbaaGreatDoorAbs
open Go.ChangeMaps (open_string shut_string)
set_option linter.unusedVariables false
theorem in3 : (Rows.nestGrowsRow.recurses == Tryz.prog.recurses 4) = true := by kernel_rfl
theorem in4 : (Rows.nestGrowsRow.named == Tryz.prog.varsNamed 4) = true := by kernel_rfl
end Go.Proofs.YtmmbgjmigmchbaaGreatDoor.nestGrows
