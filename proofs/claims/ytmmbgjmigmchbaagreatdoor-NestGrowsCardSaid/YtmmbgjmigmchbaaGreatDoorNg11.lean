/- Which package main the cards speak of: as the program has it. -/
import Derived.Test.YtmmbgjmigmchbaaGreatDoorCards
import Derived.ProofKit
import Derived.SizedLaws
namespace Go.Proofs.YtmmbgjmigmchbaaGreatDoor
open Go
theorem main_is:Tryz.pinned.checked.prog.mainIs=some (true,"00f8e424c857557340de37adc9d38819d23b6dc17c99b8b4782ec6e135f4a408".toList):=by kernel_rfl
end Go.Proofs.YtmmbgjmigmchbaaGreatDoor
