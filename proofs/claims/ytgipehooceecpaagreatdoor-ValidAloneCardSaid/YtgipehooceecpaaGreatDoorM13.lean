/- ValidRules. -/
import Derived.Test.YtgipehooceecpaaGreatDoorM12
namespace Go.Proofs.YtgipehooceecpaaGreatDoorAbs
set_option linter.unusedSimpArgs false
set_option linter.unusedVariables false
open Go Go.RowKit Go.Proofs
set_option maxRecDepth 100000
set_option maxHeartbeats 4000000
end Go.Proofs.YtgipehooceecpaaGreatDoorAbs
namespace Go.Proofs.YtgipehooceecpaaGreatDoorAbs
set_option linter.unusedSimpArgs false
set_option linter.unusedVariables false
open Go Go.RowKit Go.Proofs
set_option maxRecDepth 100000
set_option maxHeartbeats 4000000
end Go.Proofs.YtgipehooceecpaaGreatDoorAbs
