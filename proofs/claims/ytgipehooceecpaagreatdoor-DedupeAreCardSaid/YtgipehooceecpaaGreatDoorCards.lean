/-
  DERIVED. GIVEN WITH THE SEED: THE CARDS: each row of YtgipehooceecpaaGreatDoorRows.lean that lists a variable, with what it lists TIED to the program's text (the seventh form; the later family's looks); each row that meets fmt, with fmt's text TOLD by the authors' own Lean function (tested against real Go, not proved from fmt's source: count such statements apart). THE CARD IS WHAT COUNTS. Prove the row's statement (the work); the ties are given (YtgipehooceecpaaGreatDoorTie.lean); close each card by the builder's one call (the guide's Derived/Test/ToyasCard.lean, 'card_holds'). Laid BY PROGRAM, IN A SANDBOX (cutbox-door.mjs). By AI agents, Wed Nov 11 2026. No macro, syntax, notation, axiom, sorry.
-/
import Derived.Test.YtgipehooceecpaaGreatDoorRows
import GoSem.ClaimSeven
namespace Go.Proofs.YtgipehooceecpaaGreatDoor
namespace Rows

/-- THE TIED CARD OF 'hoggetlaw16.ValidAre'. -/
def validAreCard : Claim7 := { stood := { row := validAreRow, standIns := [], harness := (true, "6294175f6cf7e4018a5bfe40282b6661892ff3030602b1d8ed5ff62bfd41e909"), looks := true }, kinds := [], alts := [], laidByText := true, laidKinds := [.data, .data, .data, .data, .sentinel, .sentinel, .data, .pinned], laidTests := true, laidLooks := .later }
def ValidAreCardSaid : Prop := Claim7.holds Tryz.pinned (.plain (OpenSpec.ofChange validAreSpec)) validAreCard

/-- THE TIED CARD OF 'hoggetlaw16.ValidWrong'. -/
def validWrongCard : Claim7 := { stood := { row := validWrongRow, standIns := [], harness := (true, "6294175f6cf7e4018a5bfe40282b6661892ff3030602b1d8ed5ff62bfd41e909"), looks := true }, kinds := [], alts := [], laidByText := true, laidKinds := [.data, .data, .data, .data, .sentinel, .sentinel, .data, .pinned], laidTests := true, laidLooks := .later }
def ValidWrongCardSaid : Prop := Claim7.holds Tryz.pinned (.plain (OpenSpec.ofChange validWrongSpec)) validWrongCard

/-- THE TIED CARD OF 'hoggetlaw16.ValidEach'. -/
def validEachCard : Claim7 := { stood := { row := validEachRow, standIns := [], harness := (true, "6294175f6cf7e4018a5bfe40282b6661892ff3030602b1d8ed5ff62bfd41e909"), looks := true }, kinds := [], alts := [], laidByText := true, laidKinds := [.data, .data, .data, .data, .sentinel, .sentinel, .data, .pinned], laidTests := true, laidLooks := .later }
def ValidEachCardSaid : Prop := Claim7.holds Tryz.pinned (.plain (OpenSpec.ofChange validEachSpec)) validEachCard

/-- THE TIED CARD OF 'hoggetlaw16.ValidNames'. -/
def validNamesCard : Claim7 := { stood := { row := validNamesRow, standIns := [], harness := (true, "6294175f6cf7e4018a5bfe40282b6661892ff3030602b1d8ed5ff62bfd41e909"), looks := true }, kinds := [], alts := [], laidByText := true, laidKinds := [.data, .data, .data, .data, .sentinel, .sentinel, .data, .pinned], laidTests := true, laidLooks := .later }
def ValidNamesCardSaid : Prop := Claim7.holds Tryz.pinned (.plain (OpenSpec.ofChange validNamesSpec)) validNamesCard

/-- THE TIED CARD OF 'hoggetlaw16.ValidPeers'. -/
def validPeersCard : Claim7 := { stood := { row := validPeersRow, standIns := [], harness := (true, "6294175f6cf7e4018a5bfe40282b6661892ff3030602b1d8ed5ff62bfd41e909"), looks := true }, kinds := [], alts := [], laidByText := true, laidKinds := [.data, .data, .data, .data, .sentinel, .sentinel, .data, .pinned], laidTests := true, laidLooks := .later }
def ValidPeersCardSaid : Prop := Claim7.holds Tryz.pinned (.plain (OpenSpec.ofChange validPeersSpec)) validPeersCard

/-- THE TIED CARD OF 'hoggetlaw16.ValidRules'. -/
def validRulesCard : Claim7 := { stood := { row := validRulesRow, standIns := [], harness := (true, "6294175f6cf7e4018a5bfe40282b6661892ff3030602b1d8ed5ff62bfd41e909"), looks := true }, kinds := [], alts := [], laidByText := true, laidKinds := [.data, .data, .data, .data, .sentinel, .sentinel, .data, .pinned], laidTests := true, laidLooks := .later }
def ValidRulesCardSaid : Prop := Claim7.holds Tryz.pinned (.plain (OpenSpec.ofChange validRulesSpec)) validRulesCard

/-- THE TIED CARD OF 'hoggetlaw16.ValidAlone'. -/
def validAloneCard : Claim7 := { stood := { row := validAloneRow, standIns := [], harness := (true, "6294175f6cf7e4018a5bfe40282b6661892ff3030602b1d8ed5ff62bfd41e909"), looks := true }, kinds := [], alts := [], laidByText := true, laidKinds := [.data, .data, .data, .data, .sentinel, .sentinel, .data, .pinned], laidTests := true, laidLooks := .later }
def ValidAloneCardSaid : Prop := Claim7.holds Tryz.pinned (.plain (OpenSpec.ofChange validAloneSpec)) validAloneCard

/-- THE TIED CARD OF 'hoggetlaw19.PruneReaches'. -/
def pruneReachesCard : Claim7 := { stood := { row := pruneReachesRow, standIns := [], harness := (true, "6294175f6cf7e4018a5bfe40282b6661892ff3030602b1d8ed5ff62bfd41e909"), looks := true }, kinds := [], alts := [], laidByText := true, laidKinds := [.data, .data, .data, .data, .sentinel, .sentinel, .data, .pinned], laidTests := true, laidLooks := .later }
def PruneReachesCardSaid : Prop := Claim7.holds Tryz.pinned (.plain (OpenSpec.ofChange pruneReachesSpec)) pruneReachesCard

/-- THE TIED CARD OF 'hoggetlaw19.PruneKeeps'. -/
def pruneKeepsCard : Claim7 := { stood := { row := pruneKeepsRow, standIns := [], harness := (true, "6294175f6cf7e4018a5bfe40282b6661892ff3030602b1d8ed5ff62bfd41e909"), looks := true }, kinds := [], alts := [], laidByText := true, laidKinds := [.data, .data, .data, .data, .sentinel, .sentinel, .data, .pinned], laidTests := true, laidLooks := .later }
def PruneKeepsCardSaid : Prop := Claim7.holds Tryz.pinned (.plain (OpenSpec.ofChange pruneKeepsSpec)) pruneKeepsCard

/-- THE TIED CARD OF 'hoggetlaw19.PruneNone'. -/
def pruneNoneCard : Claim7 := { stood := { row := pruneNoneRow, standIns := [], harness := (true, "6294175f6cf7e4018a5bfe40282b6661892ff3030602b1d8ed5ff62bfd41e909"), looks := true }, kinds := [], alts := [], laidByText := true, laidKinds := [.data, .data, .data, .data, .sentinel, .sentinel, .data, .pinned], laidTests := true, laidLooks := .later }
def PruneNoneCardSaid : Prop := Claim7.holds Tryz.pinned (.plain (OpenSpec.ofChange pruneNoneSpec)) pruneNoneCard

/-- THE TIED CARD OF 'hoggetlaw19.PruneAgain'. -/
def pruneAgainCard : Claim7 := { stood := { row := pruneAgainRow, standIns := [], harness := (true, "6294175f6cf7e4018a5bfe40282b6661892ff3030602b1d8ed5ff62bfd41e909"), looks := true }, kinds := [], alts := [], laidByText := true, laidKinds := [.data, .data, .data, .data, .sentinel, .sentinel, .data, .pinned], laidTests := true, laidLooks := .later }
def PruneAgainCardSaid : Prop := Claim7.holds Tryz.pinned (.plain (OpenSpec.ofChange pruneAgainSpec)) pruneAgainCard

/-- THE TIED CARD OF 'hoggetlaw20.DedupeAre'. -/
def dedupeAreCard : Claim7 := { stood := { row := dedupeAreRow, standIns := [], harness := (true, "6294175f6cf7e4018a5bfe40282b6661892ff3030602b1d8ed5ff62bfd41e909"), looks := true }, kinds := [], alts := [], laidByText := true, laidKinds := [.data, .data, .data, .data, .sentinel, .sentinel, .data, .pinned], laidTests := true, laidLooks := .later }
def DedupeAreCardSaid : Prop := Claim7.holds Tryz.pinned (.plain (OpenSpec.ofChange dedupeAreSpec)) dedupeAreCard

/-- THE TIED CARD OF 'hoggetlaw20.DedupeMakes'. -/
def dedupeMakesCard : Claim7 := { stood := { row := dedupeMakesRow, standIns := [], harness := (true, "6294175f6cf7e4018a5bfe40282b6661892ff3030602b1d8ed5ff62bfd41e909"), looks := true }, kinds := [], alts := [], laidByText := true, laidKinds := [.data, .data, .data, .data, .sentinel, .sentinel, .data, .pinned], laidTests := true, laidLooks := .later }
def DedupeMakesCardSaid : Prop := Claim7.holds Tryz.pinned (.plain (OpenSpec.ofChange dedupeMakesSpec)) dedupeMakesCard

/-- THE TIED CARD OF 'hoggetlaw20.DedupeLeast'. -/
def dedupeLeastCard : Claim7 := { stood := { row := dedupeLeastRow, standIns := [], harness := (true, "6294175f6cf7e4018a5bfe40282b6661892ff3030602b1d8ed5ff62bfd41e909"), looks := true }, kinds := [], alts := [], laidByText := true, laidKinds := [.data, .data, .data, .data, .sentinel, .sentinel, .data, .pinned], laidTests := true, laidLooks := .later }
def DedupeLeastCardSaid : Prop := Claim7.holds Tryz.pinned (.plain (OpenSpec.ofChange dedupeLeastSpec)) dedupeLeastCard

/-- THE TIED CARD OF 'hoggetlaw20.DedupeCuts'. -/
def dedupeCutsCard : Claim7 := { stood := { row := dedupeCutsRow, standIns := [], harness := (true, "6294175f6cf7e4018a5bfe40282b6661892ff3030602b1d8ed5ff62bfd41e909"), looks := true }, kinds := [], alts := [], laidByText := true, laidKinds := [.data, .data, .data, .data, .sentinel, .sentinel, .data, .pinned], laidTests := true, laidLooks := .later }
def DedupeCutsCardSaid : Prop := Claim7.holds Tryz.pinned (.plain (OpenSpec.ofChange dedupeCutsSpec)) dedupeCutsCard

/-- THE TIED CARD OF 'hoggetlaw19.PruneWhole'. -/
def pruneWholeCard : Claim7 := { stood := { row := pruneWholeRow, standIns := [], harness := (true, "6294175f6cf7e4018a5bfe40282b6661892ff3030602b1d8ed5ff62bfd41e909"), looks := true }, kinds := [], alts := [], laidByText := true, laidKinds := [.data, .data, .data, .data, .sentinel, .sentinel, .data, .pinned], laidTests := true, laidLooks := .later }
def PruneWholeCardSaid : Prop := Claim7.holds Tryz.pinned (.plain (OpenSpec.ofChange pruneWholeSpec)) pruneWholeCard

/-- THE TIED CARD OF 'hoggetlaw20.DedupeLifts'. -/
def dedupeLiftsCard : Claim7 := { stood := { row := dedupeLiftsRow, standIns := [], harness := (true, "6294175f6cf7e4018a5bfe40282b6661892ff3030602b1d8ed5ff62bfd41e909"), looks := true }, kinds := [], alts := [], laidByText := true, laidKinds := [.data, .data, .data, .data, .sentinel, .sentinel, .data, .pinned], laidTests := true, laidLooks := .later }
def DedupeLiftsCardSaid : Prop := Claim7.holds Tryz.pinned (.plain (OpenSpec.ofChange dedupeLiftsSpec)) dedupeLiftsCard

/-- THE TIED CARD OF 'hoggetlaw19.PruneLeads'. -/
def pruneLeadsCard : Claim7 := { stood := { row := pruneLeadsRow, standIns := [], harness := (true, "6294175f6cf7e4018a5bfe40282b6661892ff3030602b1d8ed5ff62bfd41e909"), looks := true }, kinds := [], alts := [], laidByText := true, laidKinds := [.data, .data, .data, .data, .sentinel, .sentinel, .data, .pinned], laidTests := true, laidLooks := .later }
def PruneLeadsCardSaid : Prop := Claim7.holds Tryz.pinned (.plain (OpenSpec.ofChange pruneLeadsSpec)) pruneLeadsCard

/-- THE SECOND FORM's CARD OF 'hoggetlaw16.ValidAre'. -/
def validAreUptoCard : Claim7 := { stood := { row := validAreUptoRow, standIns := [], harness := (true, "6294175f6cf7e4018a5bfe40282b6661892ff3030602b1d8ed5ff62bfd41e909"), looks := true }, kinds := [], alts := [], laidByText := true, laidKinds := [.data, .data, .data, .data, .sentinel, .sentinel, .data, .pinned], laidTests := true, laidLooks := .later }
def ValidAreUptoCardSaid : Prop := Claim7.holds Tryz.pinned (.plain (OpenSpec.upto validAreSpec)) validAreUptoCard

/-- THE SECOND FORM's CARD OF 'hoggetlaw16.ValidWrong'. -/
def validWrongUptoCard : Claim7 := { stood := { row := validWrongUptoRow, standIns := [], harness := (true, "6294175f6cf7e4018a5bfe40282b6661892ff3030602b1d8ed5ff62bfd41e909"), looks := true }, kinds := [], alts := [], laidByText := true, laidKinds := [.data, .data, .data, .data, .sentinel, .sentinel, .data, .pinned], laidTests := true, laidLooks := .later }
def ValidWrongUptoCardSaid : Prop := Claim7.holds Tryz.pinned (.plain (OpenSpec.upto validWrongSpec)) validWrongUptoCard

/-- THE SECOND FORM's CARD OF 'hoggetlaw16.ValidEach'. -/
def validEachUptoCard : Claim7 := { stood := { row := validEachUptoRow, standIns := [], harness := (true, "6294175f6cf7e4018a5bfe40282b6661892ff3030602b1d8ed5ff62bfd41e909"), looks := true }, kinds := [], alts := [], laidByText := true, laidKinds := [.data, .data, .data, .data, .sentinel, .sentinel, .data, .pinned], laidTests := true, laidLooks := .later }
def ValidEachUptoCardSaid : Prop := Claim7.holds Tryz.pinned (.plain (OpenSpec.upto validEachSpec)) validEachUptoCard

/-- THE SECOND FORM's CARD OF 'hoggetlaw16.ValidNames'. -/
def validNamesUptoCard : Claim7 := { stood := { row := validNamesUptoRow, standIns := [], harness := (true, "6294175f6cf7e4018a5bfe40282b6661892ff3030602b1d8ed5ff62bfd41e909"), looks := true }, kinds := [], alts := [], laidByText := true, laidKinds := [.data, .data, .data, .data, .sentinel, .sentinel, .data, .pinned], laidTests := true, laidLooks := .later }
def ValidNamesUptoCardSaid : Prop := Claim7.holds Tryz.pinned (.plain (OpenSpec.upto validNamesSpec)) validNamesUptoCard

/-- THE SECOND FORM's CARD OF 'hoggetlaw16.ValidPeers'. -/
def validPeersUptoCard : Claim7 := { stood := { row := validPeersUptoRow, standIns := [], harness := (true, "6294175f6cf7e4018a5bfe40282b6661892ff3030602b1d8ed5ff62bfd41e909"), looks := true }, kinds := [], alts := [], laidByText := true, laidKinds := [.data, .data, .data, .data, .sentinel, .sentinel, .data, .pinned], laidTests := true, laidLooks := .later }
def ValidPeersUptoCardSaid : Prop := Claim7.holds Tryz.pinned (.plain (OpenSpec.upto validPeersSpec)) validPeersUptoCard

/-- THE SECOND FORM's CARD OF 'hoggetlaw16.ValidRules'. -/
def validRulesUptoCard : Claim7 := { stood := { row := validRulesUptoRow, standIns := [], harness := (true, "6294175f6cf7e4018a5bfe40282b6661892ff3030602b1d8ed5ff62bfd41e909"), looks := true }, kinds := [], alts := [], laidByText := true, laidKinds := [.data, .data, .data, .data, .sentinel, .sentinel, .data, .pinned], laidTests := true, laidLooks := .later }
def ValidRulesUptoCardSaid : Prop := Claim7.holds Tryz.pinned (.plain (OpenSpec.upto validRulesSpec)) validRulesUptoCard

/-- THE SECOND FORM's CARD OF 'hoggetlaw16.ValidAlone'. -/
def validAloneUptoCard : Claim7 := { stood := { row := validAloneUptoRow, standIns := [], harness := (true, "6294175f6cf7e4018a5bfe40282b6661892ff3030602b1d8ed5ff62bfd41e909"), looks := true }, kinds := [], alts := [], laidByText := true, laidKinds := [.data, .data, .data, .data, .sentinel, .sentinel, .data, .pinned], laidTests := true, laidLooks := .later }
def ValidAloneUptoCardSaid : Prop := Claim7.holds Tryz.pinned (.plain (OpenSpec.upto validAloneSpec)) validAloneUptoCard

/-- THE SECOND FORM's CARD OF 'hoggetlaw19.PruneReaches'. -/
def pruneReachesUptoCard : Claim7 := { stood := { row := pruneReachesUptoRow, standIns := [], harness := (true, "6294175f6cf7e4018a5bfe40282b6661892ff3030602b1d8ed5ff62bfd41e909"), looks := true }, kinds := [], alts := [], laidByText := true, laidKinds := [.data, .data, .data, .data, .sentinel, .sentinel, .data, .pinned], laidTests := true, laidLooks := .later }
def PruneReachesUptoCardSaid : Prop := Claim7.holds Tryz.pinned (.plain (OpenSpec.upto pruneReachesSpec)) pruneReachesUptoCard

/-- THE SECOND FORM's CARD OF 'hoggetlaw19.PruneKeeps'. -/
def pruneKeepsUptoCard : Claim7 := { stood := { row := pruneKeepsUptoRow, standIns := [], harness := (true, "6294175f6cf7e4018a5bfe40282b6661892ff3030602b1d8ed5ff62bfd41e909"), looks := true }, kinds := [], alts := [], laidByText := true, laidKinds := [.data, .data, .data, .data, .sentinel, .sentinel, .data, .pinned], laidTests := true, laidLooks := .later }
def PruneKeepsUptoCardSaid : Prop := Claim7.holds Tryz.pinned (.plain (OpenSpec.upto pruneKeepsSpec)) pruneKeepsUptoCard

/-- THE SECOND FORM's CARD OF 'hoggetlaw19.PruneNone'. -/
def pruneNoneUptoCard : Claim7 := { stood := { row := pruneNoneUptoRow, standIns := [], harness := (true, "6294175f6cf7e4018a5bfe40282b6661892ff3030602b1d8ed5ff62bfd41e909"), looks := true }, kinds := [], alts := [], laidByText := true, laidKinds := [.data, .data, .data, .data, .sentinel, .sentinel, .data, .pinned], laidTests := true, laidLooks := .later }
def PruneNoneUptoCardSaid : Prop := Claim7.holds Tryz.pinned (.plain (OpenSpec.upto pruneNoneSpec)) pruneNoneUptoCard

/-- THE SECOND FORM's CARD OF 'hoggetlaw19.PruneAgain'. -/
def pruneAgainUptoCard : Claim7 := { stood := { row := pruneAgainUptoRow, standIns := [], harness := (true, "6294175f6cf7e4018a5bfe40282b6661892ff3030602b1d8ed5ff62bfd41e909"), looks := true }, kinds := [], alts := [], laidByText := true, laidKinds := [.data, .data, .data, .data, .sentinel, .sentinel, .data, .pinned], laidTests := true, laidLooks := .later }
def PruneAgainUptoCardSaid : Prop := Claim7.holds Tryz.pinned (.plain (OpenSpec.upto pruneAgainSpec)) pruneAgainUptoCard

/-- THE SECOND FORM's CARD OF 'hoggetlaw20.DedupeAre'. -/
def dedupeAreUptoCard : Claim7 := { stood := { row := dedupeAreUptoRow, standIns := [], harness := (true, "6294175f6cf7e4018a5bfe40282b6661892ff3030602b1d8ed5ff62bfd41e909"), looks := true }, kinds := [], alts := [], laidByText := true, laidKinds := [.data, .data, .data, .data, .sentinel, .sentinel, .data, .pinned], laidTests := true, laidLooks := .later }
def DedupeAreUptoCardSaid : Prop := Claim7.holds Tryz.pinned (.plain (OpenSpec.upto dedupeAreSpec)) dedupeAreUptoCard

/-- THE SECOND FORM's CARD OF 'hoggetlaw20.DedupeMakes'. -/
def dedupeMakesUptoCard : Claim7 := { stood := { row := dedupeMakesUptoRow, standIns := [], harness := (true, "6294175f6cf7e4018a5bfe40282b6661892ff3030602b1d8ed5ff62bfd41e909"), looks := true }, kinds := [], alts := [], laidByText := true, laidKinds := [.data, .data, .data, .data, .sentinel, .sentinel, .data, .pinned], laidTests := true, laidLooks := .later }
def DedupeMakesUptoCardSaid : Prop := Claim7.holds Tryz.pinned (.plain (OpenSpec.upto dedupeMakesSpec)) dedupeMakesUptoCard

/-- THE SECOND FORM's CARD OF 'hoggetlaw20.DedupeLeast'. -/
def dedupeLeastUptoCard : Claim7 := { stood := { row := dedupeLeastUptoRow, standIns := [], harness := (true, "6294175f6cf7e4018a5bfe40282b6661892ff3030602b1d8ed5ff62bfd41e909"), looks := true }, kinds := [], alts := [], laidByText := true, laidKinds := [.data, .data, .data, .data, .sentinel, .sentinel, .data, .pinned], laidTests := true, laidLooks := .later }
def DedupeLeastUptoCardSaid : Prop := Claim7.holds Tryz.pinned (.plain (OpenSpec.upto dedupeLeastSpec)) dedupeLeastUptoCard

/-- THE SECOND FORM's CARD OF 'hoggetlaw20.DedupeCuts'. -/
def dedupeCutsUptoCard : Claim7 := { stood := { row := dedupeCutsUptoRow, standIns := [], harness := (true, "6294175f6cf7e4018a5bfe40282b6661892ff3030602b1d8ed5ff62bfd41e909"), looks := true }, kinds := [], alts := [], laidByText := true, laidKinds := [.data, .data, .data, .data, .sentinel, .sentinel, .data, .pinned], laidTests := true, laidLooks := .later }
def DedupeCutsUptoCardSaid : Prop := Claim7.holds Tryz.pinned (.plain (OpenSpec.upto dedupeCutsSpec)) dedupeCutsUptoCard

/-- THE SECOND FORM's CARD OF 'hoggetlaw19.PruneWhole'. -/
def pruneWholeUptoCard : Claim7 := { stood := { row := pruneWholeUptoRow, standIns := [], harness := (true, "6294175f6cf7e4018a5bfe40282b6661892ff3030602b1d8ed5ff62bfd41e909"), looks := true }, kinds := [], alts := [], laidByText := true, laidKinds := [.data, .data, .data, .data, .sentinel, .sentinel, .data, .pinned], laidTests := true, laidLooks := .later }
def PruneWholeUptoCardSaid : Prop := Claim7.holds Tryz.pinned (.plain (OpenSpec.upto pruneWholeSpec)) pruneWholeUptoCard

/-- THE SECOND FORM's CARD OF 'hoggetlaw20.DedupeLifts'. -/
def dedupeLiftsUptoCard : Claim7 := { stood := { row := dedupeLiftsUptoRow, standIns := [], harness := (true, "6294175f6cf7e4018a5bfe40282b6661892ff3030602b1d8ed5ff62bfd41e909"), looks := true }, kinds := [], alts := [], laidByText := true, laidKinds := [.data, .data, .data, .data, .sentinel, .sentinel, .data, .pinned], laidTests := true, laidLooks := .later }
def DedupeLiftsUptoCardSaid : Prop := Claim7.holds Tryz.pinned (.plain (OpenSpec.upto dedupeLiftsSpec)) dedupeLiftsUptoCard

/-- THE SECOND FORM's CARD OF 'hoggetlaw19.PruneLeads'. -/
def pruneLeadsUptoCard : Claim7 := { stood := { row := pruneLeadsUptoRow, standIns := [], harness := (true, "6294175f6cf7e4018a5bfe40282b6661892ff3030602b1d8ed5ff62bfd41e909"), looks := true }, kinds := [], alts := [], laidByText := true, laidKinds := [.data, .data, .data, .data, .sentinel, .sentinel, .data, .pinned], laidTests := true, laidLooks := .later }
def PruneLeadsUptoCardSaid : Prop := Claim7.holds Tryz.pinned (.plain (OpenSpec.upto pruneLeadsSpec)) pruneLeadsUptoCard
end Rows
end Go.Proofs.YtgipehooceecpaaGreatDoor
