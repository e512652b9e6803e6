/- A fact of the whole program that each card asks for. -/
import Derived.Test.YtmmbgjmigmchbaaGreatDoorCards
import Derived.ProofKit
import Derived.SizedLaws
import Derived.JoinedCond
namespace Go.Proofs.YtmmbgjmigmchbaaGreatDoor
open Go
theorem make_ok:(Tryz.prog.make==some Rows.nestSpotsRow.make)=true:=by kernel_rfl
end Go.Proofs.YtmmbgjmigmchbaaGreatDoor
