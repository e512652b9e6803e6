/-
  DERIVED. GIVEN WITH THE SEED: THE CARDS: each row of YtomidniaekeafaaGreatDoorRows.lean that lists a variable, with what it lists TIED to the program's text (the seventh form; the later family's looks); each row that meets fmt, with fmt's text TOLD by the authors' own Lean function (tested against real Go, not proved from fmt's source: count such statements apart). THE CARD IS WHAT COUNTS. Prove the row's statement (the work); the ties are given (YtomidniaekeafaaGreatDoorTie.lean); close each card by the builder's one call (the guide's Derived/Test/ToyasCard.lean, 'card_holds'). Laid BY PROGRAM, IN A SANDBOX (cutbox-door.mjs). By AI agents, Wed Nov 11 2026. No macro, syntax, notation, axiom, sorry.
-/
import Derived.Test.YtomidniaekeafaaGreatDoorRows
import GoSem.ClaimSeven
namespace Go.Proofs.YtomidniaekeafaaGreatDoor
namespace Rows

/-- THE TIED CARD OF 'hoggetlaw15.TreeMakes'. -/
def treeMakesCard : Claim7 := { stood := { row := treeMakesRow, standIns := [], harness := (true, "88a6f8d3f792a6cc48b322f083a35605957149ee241954b65a2a9a4fd9fe1a07"), looks := true }, kinds := [], alts := [], laidByText := true, laidKinds := [.data, .data, .data, .data, .sentinel, .sentinel, .pinned], laidTests := true, laidLooks := .later }
def TreeMakesCardSaid : Prop := Claim7.holds Tryz.pinned (.plain (OpenSpec.ofChange treeMakesSpec)) treeMakesCard

/-- THE TIED CARD OF 'hoggetlaw15.TreeRight'. -/
def treeRightCard : Claim7 := { stood := { row := treeRightRow, standIns := [], harness := (true, "88a6f8d3f792a6cc48b322f083a35605957149ee241954b65a2a9a4fd9fe1a07"), looks := true }, kinds := [], alts := [], laidByText := true, laidKinds := [.data, .data, .data, .data, .sentinel, .sentinel, .pinned], laidTests := true, laidLooks := .later }
def TreeRightCardSaid : Prop := Claim7.holds Tryz.pinned (.plain (OpenSpec.ofChange treeRightSpec)) treeRightCard

/-- THE TIED CARD OF 'hoggetlaw15.TreePaths'. -/
def treePathsCard : Claim7 := { stood := { row := treePathsRow, standIns := [], harness := (true, "88a6f8d3f792a6cc48b322f083a35605957149ee241954b65a2a9a4fd9fe1a07"), looks := true }, kinds := [], alts := [], laidByText := true, laidKinds := [.data, .data, .data, .data, .sentinel, .sentinel, .pinned], laidTests := true, laidLooks := .later }
def TreePathsCardSaid : Prop := Claim7.holds Tryz.pinned (.plain (OpenSpec.ofChange treePathsSpec)) treePathsCard

/-- THE TIED CARD OF 'hoggetlaw15.TreeResolves'. -/
def treeResolvesCard : Claim7 := { stood := { row := treeResolvesRow, standIns := [], harness := (true, "88a6f8d3f792a6cc48b322f083a35605957149ee241954b65a2a9a4fd9fe1a07"), looks := true }, kinds := [], alts := [], laidByText := true, laidKinds := [.data, .data, .data, .data, .sentinel, .sentinel, .pinned], laidTests := true, laidLooks := .later }
def TreeResolvesCardSaid : Prop := Claim7.holds Tryz.pinned (.plain (OpenSpec.ofChange treeResolvesSpec)) treeResolvesCard

/-- THE TIED CARD OF 'hoggetlaw15.TreeUndoes'. -/
def treeUndoesCard : Claim7 := { stood := { row := treeUndoesRow, standIns := [], harness := (true, "88a6f8d3f792a6cc48b322f083a35605957149ee241954b65a2a9a4fd9fe1a07"), looks := true }, kinds := [], alts := [], laidByText := true, laidKinds := [.data, .data, .data, .data, .sentinel, .sentinel, .pinned], laidTests := true, laidLooks := .later }
def TreeUndoesCardSaid : Prop := Claim7.holds Tryz.pinned (.plain (OpenSpec.ofChange treeUndoesSpec)) treeUndoesCard

/-- THE TIED CARD OF 'hoggetlaw15.TreeChecks'. -/
def treeChecksCard : Claim7 := { stood := { row := treeChecksRow, standIns := [], harness := (true, "88a6f8d3f792a6cc48b322f083a35605957149ee241954b65a2a9a4fd9fe1a07"), looks := true }, kinds := [], alts := [], laidByText := true, laidKinds := [.data, .data, .data, .data, .sentinel, .sentinel, .pinned], laidTests := true, laidLooks := .later }
def TreeChecksCardSaid : Prop := Claim7.holds Tryz.pinned (.plain (OpenSpec.ofChange treeChecksSpec)) treeChecksCard

/-- THE TIED CARD OF 'hoggetlaw15.TreeCuts'. -/
def treeCutsCard : Claim7 := { stood := { row := treeCutsRow, standIns := [], harness := (true, "88a6f8d3f792a6cc48b322f083a35605957149ee241954b65a2a9a4fd9fe1a07"), looks := true }, kinds := [], alts := [], laidByText := true, laidKinds := [.data, .data, .data, .data, .sentinel, .sentinel, .pinned], laidTests := true, laidLooks := .later }
def TreeCutsCardSaid : Prop := Claim7.holds Tryz.pinned (.plain (OpenSpec.ofChange treeCutsSpec)) treeCutsCard

/-- THE SECOND FORM's CARD OF 'hoggetlaw15.TreeMakes'. -/
def treeMakesUptoCard : Claim7 := { stood := { row := treeMakesUptoRow, standIns := [], harness := (true, "88a6f8d3f792a6cc48b322f083a35605957149ee241954b65a2a9a4fd9fe1a07"), looks := true }, kinds := [], alts := [], laidByText := true, laidKinds := [.data, .data, .data, .data, .sentinel, .sentinel, .pinned], laidTests := true, laidLooks := .later }
def TreeMakesUptoCardSaid : Prop := Claim7.holds Tryz.pinned (.plain (OpenSpec.upto treeMakesSpec)) treeMakesUptoCard

/-- THE SECOND FORM's CARD OF 'hoggetlaw15.TreeRight'. -/
def treeRightUptoCard : Claim7 := { stood := { row := treeRightUptoRow, standIns := [], harness := (true, "88a6f8d3f792a6cc48b322f083a35605957149ee241954b65a2a9a4fd9fe1a07"), looks := true }, kinds := [], alts := [], laidByText := true, laidKinds := [.data, .data, .data, .data, .sentinel, .sentinel, .pinned], laidTests := true, laidLooks := .later }
def TreeRightUptoCardSaid : Prop := Claim7.holds Tryz.pinned (.plain (OpenSpec.upto treeRightSpec)) treeRightUptoCard

/-- THE SECOND FORM's CARD OF 'hoggetlaw15.TreePaths'. -/
def treePathsUptoCard : Claim7 := { stood := { row := treePathsUptoRow, standIns := [], harness := (true, "88a6f8d3f792a6cc48b322f083a35605957149ee241954b65a2a9a4fd9fe1a07"), looks := true }, kinds := [], alts := [], laidByText := true, laidKinds := [.data, .data, .data, .data, .sentinel, .sentinel, .pinned], laidTests := true, laidLooks := .later }
def TreePathsUptoCardSaid : Prop := Claim7.holds Tryz.pinned (.plain (OpenSpec.upto treePathsSpec)) treePathsUptoCard

/-- THE SECOND FORM's CARD OF 'hoggetlaw15.TreeResolves'. -/
def treeResolvesUptoCard : Claim7 := { stood := { row := treeResolvesUptoRow, standIns := [], harness := (true, "88a6f8d3f792a6cc48b322f083a35605957149ee241954b65a2a9a4fd9fe1a07"), looks := true }, kinds := [], alts := [], laidByText := true, laidKinds := [.data, .data, .data, .data, .sentinel, .sentinel, .pinned], laidTests := true, laidLooks := .later }
def TreeResolvesUptoCardSaid : Prop := Claim7.holds Tryz.pinned (.plain (OpenSpec.upto treeResolvesSpec)) treeResolvesUptoCard

/-- THE SECOND FORM's CARD OF 'hoggetlaw15.TreeUndoes'. -/
def treeUndoesUptoCard : Claim7 := { stood := { row := treeUndoesUptoRow, standIns := [], harness := (true, "88a6f8d3f792a6cc48b322f083a35605957149ee241954b65a2a9a4fd9fe1a07"), looks := true }, kinds := [], alts := [], laidByText := true, laidKinds := [.data, .data, .data, .data, .sentinel, .sentinel, .pinned], laidTests := true, laidLooks := .later }
def TreeUndoesUptoCardSaid : Prop := Claim7.holds Tryz.pinned (.plain (OpenSpec.upto treeUndoesSpec)) treeUndoesUptoCard

/-- THE SECOND FORM's CARD OF 'hoggetlaw15.TreeChecks'. -/
def treeChecksUptoCard : Claim7 := { stood := { row := treeChecksUptoRow, standIns := [], harness := (true, "88a6f8d3f792a6cc48b322f083a35605957149ee241954b65a2a9a4fd9fe1a07"), looks := true }, kinds := [], alts := [], laidByText := true, laidKinds := [.data, .data, .data, .data, .sentinel, .sentinel, .pinned], laidTests := true, laidLooks := .later }
def TreeChecksUptoCardSaid : Prop := Claim7.holds Tryz.pinned (.plain (OpenSpec.upto treeChecksSpec)) treeChecksUptoCard

/-- THE SECOND FORM's CARD OF 'hoggetlaw15.TreeCuts'. -/
def treeCutsUptoCard : Claim7 := { stood := { row := treeCutsUptoRow, standIns := [], harness := (true, "88a6f8d3f792a6cc48b322f083a35605957149ee241954b65a2a9a4fd9fe1a07"), looks := true }, kinds := [], alts := [], laidByText := true, laidKinds := [.data, .data, .data, .data, .sentinel, .sentinel, .pinned], laidTests := true, laidLooks := .later }
def TreeCutsUptoCardSaid : Prop := Claim7.holds Tryz.pinned (.plain (OpenSpec.upto treeCutsSpec)) treeCutsUptoCard
end Rows
end Go.Proofs.YtomidniaekeafaaGreatDoor
