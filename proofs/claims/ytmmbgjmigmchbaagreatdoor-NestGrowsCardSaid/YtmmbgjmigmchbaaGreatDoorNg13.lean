/- A fact of the whole program that each card asks for. -/
import Derived.Test.YtmmbgjmigmchbaaGreatDoorCards
import Derived.ProofKit
import Derived.SizedLaws
import Derived.JoinedCond
namespace Go.Proofs.YtmmbgjmigmchbaaGreatDoor
open Go
theorem lift_ok:(Rows.nestSpotsRow.lifted==Tryz.prog.liftsFinal)=true:=by kernel_rfl
end Go.Proofs.YtmmbgjmigmchbaaGreatDoor
