/- A fact of the whole program that each card asks for. -/
import Derived.Test.YtgipehooceecpaaGreatDoorCards
import Derived.ProofKit
import Derived.SizedLaws
import Derived.JoinedCond
namespace Go.Proofs.YtgipehooceecpaaGreatDoor
open Go
theorem make_ok:(Tryz.prog.make==some Rows.validAloneRow.make)=true:=by kernel_rfl
end Go.Proofs.YtgipehooceecpaaGreatDoor
