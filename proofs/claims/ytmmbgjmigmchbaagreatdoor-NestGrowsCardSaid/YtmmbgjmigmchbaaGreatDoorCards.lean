/-
  DERIVED. GIVEN WITH THE SEED: THE CARDS: each row of YtmmbgjmigmchbaaGreatDoorRows.lean that lists a variable, with what it lists TIED to the program's text (the seventh form; the later family's looks); each row that meets fmt, with fmt's text TOLD by the authors' own Lean function (tested against real Go, not proved from fmt's source: count such statements apart). THE CARD IS WHAT COUNTS. Prove the row's statement (the work); the ties are given (YtmmbgjmigmchbaaGreatDoorTie.lean); close each card by the builder's one call (the guide's Derived/Test/ToyasCard.lean, 'card_holds'). Laid BY PROGRAM, IN A SANDBOX (cutbox-door.mjs). By AI agents, Wed Nov 11 2026. No macro, syntax, notation, axiom, sorry.
-/
import Derived.Test.YtmmbgjmigmchbaaGreatDoorRows
import GoSem.ClaimSeven
namespace Go.Proofs.YtmmbgjmigmchbaaGreatDoor
namespace Rows

/-- THE TIED CARD OF 'hoggetlaw18.NestSpots'. -/
def nestSpotsCard : Claim7 := { stood := { row := nestSpotsRow, standIns := [], harness := (true, "00f8e424c857557340de37adc9d38819d23b6dc17c99b8b4782ec6e135f4a408"), looks := true }, kinds := [], alts := [], laidByText := true, laidKinds := [.data, .data, .data, .data, .sentinel, .sentinel, .data, .pinned], laidTests := true, laidLooks := .later }
def NestSpotsCardSaid : Prop := Claim7.holds Tryz.pinned (.plain (OpenSpec.ofChange nestSpotsSpec)) nestSpotsCard

/-- THE TIED CARD OF 'hoggetlaw18.NestGrows'. -/
def nestGrowsCard : Claim7 := { stood := { row := nestGrowsRow, standIns := [], harness := (true, "00f8e424c857557340de37adc9d38819d23b6dc17c99b8b4782ec6e135f4a408"), looks := true }, kinds := [], alts := [], laidByText := true, laidKinds := [.data, .data, .data, .data, .sentinel, .sentinel, .data, .pinned], laidTests := true, laidLooks := .later }
def NestGrowsCardSaid : Prop := Claim7.holds Tryz.pinned (.plain (OpenSpec.ofChange nestGrowsSpec)) nestGrowsCard

/-- THE TIED CARD OF 'hoggetlaw18.NestNone'. -/
def nestNoneCard : Claim7 := { stood := { row := nestNoneRow, standIns := [], harness := (true, "00f8e424c857557340de37adc9d38819d23b6dc17c99b8b4782ec6e135f4a408"), looks := true }, kinds := [], alts := [], laidByText := true, laidKinds := [.data, .data, .data, .data, .sentinel, .sentinel, .data, .pinned], laidTests := true, laidLooks := .later }
def NestNoneCardSaid : Prop := Claim7.holds Tryz.pinned (.plain (OpenSpec.ofChange nestNoneSpec)) nestNoneCard

/-- THE TIED CARD OF 'hoggetlaw18.NestLegal'. -/
def nestLegalCard : Claim7 := { stood := { row := nestLegalRow, standIns := [], harness := (true, "00f8e424c857557340de37adc9d38819d23b6dc17c99b8b4782ec6e135f4a408"), looks := true }, kinds := [], alts := [], laidByText := true, laidKinds := [.data, .data, .data, .data, .sentinel, .sentinel, .data, .pinned], laidTests := true, laidLooks := .later }
def NestLegalCardSaid : Prop := Claim7.holds Tryz.pinned (.plain (OpenSpec.ofChange nestLegalSpec)) nestLegalCard

/-- THE TIED CARD OF 'hoggetlaw18.NestReached'. -/
def nestReachedCard : Claim7 := { stood := { row := nestReachedRow, standIns := [], harness := (true, "00f8e424c857557340de37adc9d38819d23b6dc17c99b8b4782ec6e135f4a408"), looks := true }, kinds := [], alts := [], laidByText := true, laidKinds := [.data, .data, .data, .data, .sentinel, .sentinel, .data, .pinned], laidTests := true, laidLooks := .later }
def NestReachedCardSaid : Prop := Claim7.holds Tryz.pinned (.plain (OpenSpec.ofChange nestReachedSpec)) nestReachedCard

/-- THE TIED CARD OF 'hoggetlaw18.NestValid'. -/
def nestValidCard : Claim7 := { stood := { row := nestValidRow, standIns := [], harness := (true, "00f8e424c857557340de37adc9d38819d23b6dc17c99b8b4782ec6e135f4a408"), looks := true }, kinds := [], alts := [], laidByText := true, laidKinds := [.data, .data, .data, .data, .sentinel, .sentinel, .data, .pinned], laidTests := true, laidLooks := .later }
def NestValidCardSaid : Prop := Claim7.holds Tryz.pinned (.plain (OpenSpec.ofChange nestValidSpec)) nestValidCard

/-- THE TIED CARD OF 'hoggetlaw18.NestAgain'. -/
def nestAgainCard : Claim7 := { stood := { row := nestAgainRow, standIns := [], harness := (true, "00f8e424c857557340de37adc9d38819d23b6dc17c99b8b4782ec6e135f4a408"), looks := true }, kinds := [], alts := [], laidByText := true, laidKinds := [.data, .data, .data, .data, .sentinel, .sentinel, .data, .pinned], laidTests := true, laidLooks := .later }
def NestAgainCardSaid : Prop := Claim7.holds Tryz.pinned (.plain (OpenSpec.ofChange nestAgainSpec)) nestAgainCard

/-- THE SECOND FORM's CARD OF 'hoggetlaw18.NestSpots'. -/
def nestSpotsUptoCard : Claim7 := { stood := { row := nestSpotsUptoRow, standIns := [], harness := (true, "00f8e424c857557340de37adc9d38819d23b6dc17c99b8b4782ec6e135f4a408"), looks := true }, kinds := [], alts := [], laidByText := true, laidKinds := [.data, .data, .data, .data, .sentinel, .sentinel, .data, .pinned], laidTests := true, laidLooks := .later }
def NestSpotsUptoCardSaid : Prop := Claim7.holds Tryz.pinned (.plain (OpenSpec.upto nestSpotsSpec)) nestSpotsUptoCard

/-- THE SECOND FORM's CARD OF 'hoggetlaw18.NestGrows'. -/
def nestGrowsUptoCard : Claim7 := { stood := { row := nestGrowsUptoRow, standIns := [], harness := (true, "00f8e424c857557340de37adc9d38819d23b6dc17c99b8b4782ec6e135f4a408"), looks := true }, kinds := [], alts := [], laidByText := true, laidKinds := [.data, .data, .data, .data, .sentinel, .sentinel, .data, .pinned], laidTests := true, laidLooks := .later }
def NestGrowsUptoCardSaid : Prop := Claim7.holds Tryz.pinned (.plain (OpenSpec.upto nestGrowsSpec)) nestGrowsUptoCard

/-- THE SECOND FORM's CARD OF 'hoggetlaw18.NestNone'. -/
def nestNoneUptoCard : Claim7 := { stood := { row := nestNoneUptoRow, standIns := [], harness := (true, "00f8e424c857557340de37adc9d38819d23b6dc17c99b8b4782ec6e135f4a408"), looks := true }, kinds := [], alts := [], laidByText := true, laidKinds := [.data, .data, .data, .data, .sentinel, .sentinel, .data, .pinned], laidTests := true, laidLooks := .later }
def NestNoneUptoCardSaid : Prop := Claim7.holds Tryz.pinned (.plain (OpenSpec.upto nestNoneSpec)) nestNoneUptoCard

/-- THE SECOND FORM's CARD OF 'hoggetlaw18.NestLegal'. -/
def nestLegalUptoCard : Claim7 := { stood := { row := nestLegalUptoRow, standIns := [], harness := (true, "00f8e424c857557340de37adc9d38819d23b6dc17c99b8b4782ec6e135f4a408"), looks := true }, kinds := [], alts := [], laidByText := true, laidKinds := [.data, .data, .data, .data, .sentinel, .sentinel, .data, .pinned], laidTests := true, laidLooks := .later }
def NestLegalUptoCardSaid : Prop := Claim7.holds Tryz.pinned (.plain (OpenSpec.upto nestLegalSpec)) nestLegalUptoCard

/-- THE SECOND FORM's CARD OF 'hoggetlaw18.NestReached'. -/
def nestReachedUptoCard : Claim7 := { stood := { row := nestReachedUptoRow, standIns := [], harness := (true, "00f8e424c857557340de37adc9d38819d23b6dc17c99b8b4782ec6e135f4a408"), looks := true }, kinds := [], alts := [], laidByText := true, laidKinds := [.data, .data, .data, .data, .sentinel, .sentinel, .data, .pinned], laidTests := true, laidLooks := .later }
def NestReachedUptoCardSaid : Prop := Claim7.holds Tryz.pinned (.plain (OpenSpec.upto nestReachedSpec)) nestReachedUptoCard

/-- THE SECOND FORM's CARD OF 'hoggetlaw18.NestValid'. -/
def nestValidUptoCard : Claim7 := { stood := { row := nestValidUptoRow, standIns := [], harness := (true, "00f8e424c857557340de37adc9d38819d23b6dc17c99b8b4782ec6e135f4a408"), looks := true }, kinds := [], alts := [], laidByText := true, laidKinds := [.data, .data, .data, .data, .sentinel, .sentinel, .data, .pinned], laidTests := true, laidLooks := .later }
def NestValidUptoCardSaid : Prop := Claim7.holds Tryz.pinned (.plain (OpenSpec.upto nestValidSpec)) nestValidUptoCard

/-- THE SECOND FORM's CARD OF 'hoggetlaw18.NestAgain'. -/
def nestAgainUptoCard : Claim7 := { stood := { row := nestAgainUptoRow, standIns := [], harness := (true, "00f8e424c857557340de37adc9d38819d23b6dc17c99b8b4782ec6e135f4a408"), looks := true }, kinds := [], alts := [], laidByText := true, laidKinds := [.data, .data, .data, .data, .sentinel, .sentinel, .data, .pinned], laidTests := true, laidLooks := .later }
def NestAgainUptoCardSaid : Prop := Claim7.holds Tryz.pinned (.plain (OpenSpec.upto nestAgainSpec)) nestAgainUptoCard
end Rows
end Go.Proofs.YtmmbgjmigmchbaaGreatDoor
