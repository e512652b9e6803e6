/- A fact of the whole program that each card asks for. -/
import Derived.Test.YtgipehooceecpaaGreatDoorCards
import Derived.ProofKit
import Derived.SizedLaws
import Derived.JoinedCond
namespace Go.Proofs.YtgipehooceecpaaGreatDoor
open Go
theorem lift_ok:(Rows.validAloneRow.lifted==Tryz.prog.liftsFinal)=true:=by kernel_rfl
end Go.Proofs.YtgipehooceecpaaGreatDoor
