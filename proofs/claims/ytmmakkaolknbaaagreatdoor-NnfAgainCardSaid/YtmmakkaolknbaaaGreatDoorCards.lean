/-
  DERIVED. GIVEN WITH THE SEED: THE CARDS: each row of YtmmakkaolknbaaaGreatDoorRows.lean that lists a variable, with what it lists TIED to the program's text (the seventh form; the later family's looks); each row that meets fmt, with fmt's text TOLD by the authors' own Lean function (tested against real Go, not proved from fmt's source: count such statements apart). THE CARD IS WHAT COUNTS. Prove the row's statement (the work); the ties are given (YtmmakkaolknbaaaGreatDoorTie.lean); close each card by the builder's one call (the guide's Derived/Test/ToyasCard.lean, 'card_holds'). Laid BY PROGRAM, IN A SANDBOX (cutbox-door.mjs). By AI agents, Wed Nov 11 2026. No macro, syntax, notation, axiom, sorry.
-/
import Derived.Test.YtmmakkaolknbaaaGreatDoorRows
import GoSem.ClaimSeven
namespace Go.Proofs.YtmmakkaolknbaaaGreatDoor
namespace Rows

/-- THE TIED CARD OF 'augurlaw07.NnfAgain'. -/
def nnfAgainCard : Claim7 := { stood := { row := nnfAgainRow, standIns := [], harness := (true, "bd1f571c201b668ce98fc82147c505f3bd87c2d6cbc4e40966c6cf5f9c6310d3"), looks := true }, kinds := [], alts := [], laidByText := true, laidKinds := [.data, .data, .data, .data], laidTests := true, laidLooks := .later }
def NnfAgainCardSaid : Prop := Claim7.holds Tryz.pinned (.plain (OpenSpec.ofChange nnfAgainSpec)) nnfAgainCard

/-- THE TIED CARD OF 'augurlaw07.NnfMeans'. -/
def nnfMeansCard : Claim7 := { stood := { row := nnfMeansRow, standIns := [], harness := (true, "bd1f571c201b668ce98fc82147c505f3bd87c2d6cbc4e40966c6cf5f9c6310d3"), looks := true }, kinds := [], alts := [], laidByText := true, laidKinds := [.data, .data, .data, .data], laidTests := true, laidLooks := .later }
def NnfMeansCardSaid : Prop := Claim7.holds Tryz.pinned (.plain (OpenSpec.ofChange nnfMeansSpec)) nnfMeansCard

/-- THE TIED CARD OF 'augurlaw21.PatternsMean'. -/
def patternsMeanCard : Claim7 := { stood := { row := patternsMeanRow, standIns := [], harness := (true, "bd1f571c201b668ce98fc82147c505f3bd87c2d6cbc4e40966c6cf5f9c6310d3"), looks := true }, kinds := [], alts := [], laidByText := true, laidKinds := [.data, .data, .data, .data], laidTests := true, laidLooks := .later }
def PatternsMeanCardSaid : Prop := Claim7.holds Tryz.pinned (.plain (OpenSpec.ofChange patternsMeanSpec)) patternsMeanCard

/-- THE TIED CARD OF 'augurlaw21.PatternsOthers'. -/
def patternsOthersCard : Claim7 := { stood := { row := patternsOthersRow, standIns := [], harness := (true, "bd1f571c201b668ce98fc82147c505f3bd87c2d6cbc4e40966c6cf5f9c6310d3"), looks := true }, kinds := [], alts := [], laidByText := true, laidKinds := [.data, .data, .data, .data], laidTests := true, laidLooks := .later }
def PatternsOthersCardSaid : Prop := Claim7.holds Tryz.pinned (.plain (OpenSpec.ofChange patternsOthersSpec)) patternsOthersCard

/-- THE TIED CARD OF 'augurlaw03.TreeRights'. -/
def treeRightsCard : Claim7 := { stood := { row := treeRightsRow, standIns := [], harness := (true, "bd1f571c201b668ce98fc82147c505f3bd87c2d6cbc4e40966c6cf5f9c6310d3"), looks := true }, kinds := [], alts := [], laidByText := true, laidKinds := [.data, .data, .data, .data, .sentinel, .sentinel, .data, .pinned], laidTests := true, laidLooks := .later }
def TreeRightsCardSaid : Prop := Claim7.holds Tryz.pinned (.plain (OpenSpec.ofChange treeRightsSpec)) treeRightsCard

/-- THE TIED CARD OF 'augurlaw03.TreeTells'. -/
def treeTellsCard : Claim7 := { stood := { row := treeTellsRow, standIns := [], harness := (true, "bd1f571c201b668ce98fc82147c505f3bd87c2d6cbc4e40966c6cf5f9c6310d3"), looks := true }, kinds := [], alts := [], laidByText := true, laidKinds := [.data, .data, .data, .data, .sentinel, .sentinel, .data, .pinned], laidTests := true, laidLooks := .later }
def TreeTellsCardSaid : Prop := Claim7.holds Tryz.pinned (.plain (OpenSpec.ofChange treeTellsSpec)) treeTellsCard

/-- THE TIED CARD OF 'augurlaw03.TreeOrders'. -/
def treeOrdersCard : Claim7 := { stood := { row := treeOrdersRow, standIns := [], harness := (true, "bd1f571c201b668ce98fc82147c505f3bd87c2d6cbc4e40966c6cf5f9c6310d3"), looks := true }, kinds := [], alts := [], laidByText := true, laidKinds := [.data, .data, .data, .data, .sentinel, .sentinel, .data, .pinned], laidTests := true, laidLooks := .later }
def TreeOrdersCardSaid : Prop := Claim7.holds Tryz.pinned (.plain (OpenSpec.ofChange treeOrdersSpec)) treeOrdersCard

/-- THE TIED CARD OF 'augurlaw03.TreeAlls'. -/
def treeAllsCard : Claim7 := { stood := { row := treeAllsRow, standIns := [], harness := (true, "bd1f571c201b668ce98fc82147c505f3bd87c2d6cbc4e40966c6cf5f9c6310d3"), looks := true }, kinds := [], alts := [], laidByText := true, laidKinds := [.data, .data, .data, .data, .sentinel, .sentinel, .data, .pinned], laidTests := true, laidLooks := .later }
def TreeAllsCardSaid : Prop := Claim7.holds Tryz.pinned (.plain (OpenSpec.ofChange treeAllsSpec)) treeAllsCard

/-- THE TIED CARD OF 'augurlaw03.TreePuts'. -/
def treePutsCard : Claim7 := { stood := { row := treePutsRow, standIns := [], harness := (true, "bd1f571c201b668ce98fc82147c505f3bd87c2d6cbc4e40966c6cf5f9c6310d3"), looks := true }, kinds := [], alts := [], laidByText := true, laidKinds := [.data, .data, .data, .data, .sentinel, .sentinel, .data, .pinned], laidTests := true, laidLooks := .later }
def TreePutsCardSaid : Prop := Claim7.holds Tryz.pinned (.plain (OpenSpec.ofChange treePutsSpec)) treePutsCard

/-- THE TIED CARD OF 'augurlaw03.TreeRenames'. -/
def treeRenamesCard : Claim7 := { stood := { row := treeRenamesRow, standIns := [], harness := (true, "bd1f571c201b668ce98fc82147c505f3bd87c2d6cbc4e40966c6cf5f9c6310d3"), looks := true }, kinds := [], alts := [], laidByText := true, laidKinds := [.data, .data, .data, .data, .sentinel, .sentinel, .data, .pinned], laidTests := true, laidLooks := .later }
def TreeRenamesCardSaid : Prop := Claim7.holds Tryz.pinned (.plain (OpenSpec.ofChange treeRenamesSpec)) treeRenamesCard

/-- THE TIED CARD OF 'augurlaw03.TreePaths'. -/
def treePathsCard : Claim7 := { stood := { row := treePathsRow, standIns := [], harness := (true, "bd1f571c201b668ce98fc82147c505f3bd87c2d6cbc4e40966c6cf5f9c6310d3"), looks := true }, kinds := [], alts := [], laidByText := true, laidKinds := [.data, .data, .data, .data, .sentinel, .sentinel, .data, .pinned], laidTests := true, laidLooks := .later }
def TreePathsCardSaid : Prop := Claim7.holds Tryz.pinned (.plain (OpenSpec.ofChange treePathsSpec)) treePathsCard

/-- THE TIED CARD OF 'augurlaw03.TreeBack'. -/
def treeBackCard : Claim7 := { stood := { row := treeBackRow, standIns := [], harness := (true, "bd1f571c201b668ce98fc82147c505f3bd87c2d6cbc4e40966c6cf5f9c6310d3"), looks := true }, kinds := [], alts := [], laidByText := true, laidKinds := [.data, .data, .data, .data, .sentinel, .sentinel, .data, .pinned], laidTests := true, laidLooks := .later }
def TreeBackCardSaid : Prop := Claim7.holds Tryz.pinned (.plain (OpenSpec.ofChange treeBackSpec)) treeBackCard

/-- THE SECOND FORM's CARD OF 'augurlaw07.NnfAgain'. -/
def nnfAgainUptoCard : Claim7 := { stood := { row := nnfAgainUptoRow, standIns := [], harness := (true, "bd1f571c201b668ce98fc82147c505f3bd87c2d6cbc4e40966c6cf5f9c6310d3"), looks := true }, kinds := [], alts := [], laidByText := true, laidKinds := [.data, .data, .data, .data], laidTests := true, laidLooks := .later }
def NnfAgainUptoCardSaid : Prop := Claim7.holds Tryz.pinned (.plain (OpenSpec.upto nnfAgainSpec)) nnfAgainUptoCard

/-- THE SECOND FORM's CARD OF 'augurlaw07.NnfMeans'. -/
def nnfMeansUptoCard : Claim7 := { stood := { row := nnfMeansUptoRow, standIns := [], harness := (true, "bd1f571c201b668ce98fc82147c505f3bd87c2d6cbc4e40966c6cf5f9c6310d3"), looks := true }, kinds := [], alts := [], laidByText := true, laidKinds := [.data, .data, .data, .data], laidTests := true, laidLooks := .later }
def NnfMeansUptoCardSaid : Prop := Claim7.holds Tryz.pinned (.plain (OpenSpec.upto nnfMeansSpec)) nnfMeansUptoCard

/-- THE SECOND FORM's CARD OF 'augurlaw21.PatternsMean'. -/
def patternsMeanUptoCard : Claim7 := { stood := { row := patternsMeanUptoRow, standIns := [], harness := (true, "bd1f571c201b668ce98fc82147c505f3bd87c2d6cbc4e40966c6cf5f9c6310d3"), looks := true }, kinds := [], alts := [], laidByText := true, laidKinds := [.data, .data, .data, .data], laidTests := true, laidLooks := .later }
def PatternsMeanUptoCardSaid : Prop := Claim7.holds Tryz.pinned (.plain (OpenSpec.upto patternsMeanSpec)) patternsMeanUptoCard

/-- THE SECOND FORM's CARD OF 'augurlaw21.PatternsOthers'. -/
def patternsOthersUptoCard : Claim7 := { stood := { row := patternsOthersUptoRow, standIns := [], harness := (true, "bd1f571c201b668ce98fc82147c505f3bd87c2d6cbc4e40966c6cf5f9c6310d3"), looks := true }, kinds := [], alts := [], laidByText := true, laidKinds := [.data, .data, .data, .data], laidTests := true, laidLooks := .later }
def PatternsOthersUptoCardSaid : Prop := Claim7.holds Tryz.pinned (.plain (OpenSpec.upto patternsOthersSpec)) patternsOthersUptoCard

/-- THE SECOND FORM's CARD OF 'augurlaw03.TreeRights'. -/
def treeRightsUptoCard : Claim7 := { stood := { row := treeRightsUptoRow, standIns := [], harness := (true, "bd1f571c201b668ce98fc82147c505f3bd87c2d6cbc4e40966c6cf5f9c6310d3"), looks := true }, kinds := [], alts := [], laidByText := true, laidKinds := [.data, .data, .data, .data, .sentinel, .sentinel, .data, .pinned], laidTests := true, laidLooks := .later }
def TreeRightsUptoCardSaid : Prop := Claim7.holds Tryz.pinned (.plain (OpenSpec.upto treeRightsSpec)) treeRightsUptoCard

/-- THE SECOND FORM's CARD OF 'augurlaw03.TreeTells'. -/
def treeTellsUptoCard : Claim7 := { stood := { row := treeTellsUptoRow, standIns := [], harness := (true, "bd1f571c201b668ce98fc82147c505f3bd87c2d6cbc4e40966c6cf5f9c6310d3"), looks := true }, kinds := [], alts := [], laidByText := true, laidKinds := [.data, .data, .data, .data, .sentinel, .sentinel, .data, .pinned], laidTests := true, laidLooks := .later }
def TreeTellsUptoCardSaid : Prop := Claim7.holds Tryz.pinned (.plain (OpenSpec.upto treeTellsSpec)) treeTellsUptoCard

/-- THE SECOND FORM's CARD OF 'augurlaw03.TreeOrders'. -/
def treeOrdersUptoCard : Claim7 := { stood := { row := treeOrdersUptoRow, standIns := [], harness := (true, "bd1f571c201b668ce98fc82147c505f3bd87c2d6cbc4e40966c6cf5f9c6310d3"), looks := true }, kinds := [], alts := [], laidByText := true, laidKinds := [.data, .data, .data, .data, .sentinel, .sentinel, .data, .pinned], laidTests := true, laidLooks := .later }
def TreeOrdersUptoCardSaid : Prop := Claim7.holds Tryz.pinned (.plain (OpenSpec.upto treeOrdersSpec)) treeOrdersUptoCard

/-- THE SECOND FORM's CARD OF 'augurlaw03.TreeAlls'. -/
def treeAllsUptoCard : Claim7 := { stood := { row := treeAllsUptoRow, standIns := [], harness := (true, "bd1f571c201b668ce98fc82147c505f3bd87c2d6cbc4e40966c6cf5f9c6310d3"), looks := true }, kinds := [], alts := [], laidByText := true, laidKinds := [.data, .data, .data, .data, .sentinel, .sentinel, .data, .pinned], laidTests := true, laidLooks := .later }
def TreeAllsUptoCardSaid : Prop := Claim7.holds Tryz.pinned (.plain (OpenSpec.upto treeAllsSpec)) treeAllsUptoCard

/-- THE SECOND FORM's CARD OF 'augurlaw03.TreePuts'. -/
def treePutsUptoCard : Claim7 := { stood := { row := treePutsUptoRow, standIns := [], harness := (true, "bd1f571c201b668ce98fc82147c505f3bd87c2d6cbc4e40966c6cf5f9c6310d3"), looks := true }, kinds := [], alts := [], laidByText := true, laidKinds := [.data, .data, .data, .data, .sentinel, .sentinel, .data, .pinned], laidTests := true, laidLooks := .later }
def TreePutsUptoCardSaid : Prop := Claim7.holds Tryz.pinned (.plain (OpenSpec.upto treePutsSpec)) treePutsUptoCard

/-- THE SECOND FORM's CARD OF 'augurlaw03.TreeRenames'. -/
def treeRenamesUptoCard : Claim7 := { stood := { row := treeRenamesUptoRow, standIns := [], harness := (true, "bd1f571c201b668ce98fc82147c505f3bd87c2d6cbc4e40966c6cf5f9c6310d3"), looks := true }, kinds := [], alts := [], laidByText := true, laidKinds := [.data, .data, .data, .data, .sentinel, .sentinel, .data, .pinned], laidTests := true, laidLooks := .later }
def TreeRenamesUptoCardSaid : Prop := Claim7.holds Tryz.pinned (.plain (OpenSpec.upto treeRenamesSpec)) treeRenamesUptoCard

/-- THE SECOND FORM's CARD OF 'augurlaw03.TreePaths'. -/
def treePathsUptoCard : Claim7 := { stood := { row := treePathsUptoRow, standIns := [], harness := (true, "bd1f571c201b668ce98fc82147c505f3bd87c2d6cbc4e40966c6cf5f9c6310d3"), looks := true }, kinds := [], alts := [], laidByText := true, laidKinds := [.data, .data, .data, .data, .sentinel, .sentinel, .data, .pinned], laidTests := true, laidLooks := .later }
def TreePathsUptoCardSaid : Prop := Claim7.holds Tryz.pinned (.plain (OpenSpec.upto treePathsSpec)) treePathsUptoCard

/-- THE SECOND FORM's CARD OF 'augurlaw03.TreeBack'. -/
def treeBackUptoCard : Claim7 := { stood := { row := treeBackUptoRow, standIns := [], harness := (true, "bd1f571c201b668ce98fc82147c505f3bd87c2d6cbc4e40966c6cf5f9c6310d3"), looks := true }, kinds := [], alts := [], laidByText := true, laidKinds := [.data, .data, .data, .data, .sentinel, .sentinel, .data, .pinned], laidTests := true, laidLooks := .later }
def TreeBackUptoCardSaid : Prop := Claim7.holds Tryz.pinned (.plain (OpenSpec.upto treeBackSpec)) treeBackUptoCard
end Rows
end Go.Proofs.YtmmakkaolknbaaaGreatDoor
