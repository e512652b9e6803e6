/- Which package main the cards speak of: as the program has it. -/
import Derived.Test.YtgipehooceecpaaGreatDoorCards
import Derived.ProofKit
import Derived.SizedLaws
namespace Go.Proofs.YtgipehooceecpaaGreatDoor
open Go
theorem main_is:Tryz.pinned.checked.prog.mainIs=some (true,"6294175f6cf7e4018a5bfe40282b6661892ff3030602b1d8ed5ff62bfd41e909".toList):=by kernel_rfl
end Go.Proofs.YtgipehooceecpaaGreatDoor
