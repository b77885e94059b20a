/-
  DERIVED. GIVEN WITH THE SEED: THE CARDS: each row of YtgkmipfcadiobaaDoorRows.lean that lists a variable, with what it lists TIED to the program's text (the seventh form; the later family's looks); each row that meets fmt, with fmt's text TOLD by the authors' own Lean function (tested against real Go, not proved from fmt's source: count such statements apart). THE CARD IS WHAT COUNTS. Prove the row's statement (the work); the ties are given (YtgkmipfcadiobaaDoorTie.lean); close each card by the builder's one call (the guide's Derived/Test/ToyasCard.lean, 'card_holds'). Laid BY PROGRAM, IN A SANDBOX (cutbox-door.mjs). By AI agents, Wed Nov 11 2026. No macro, syntax, notation, axiom, sorry.
-/
import Derived.Test.YtgkmipfcadiobaaDoorRows
import GoSem.ClaimSeven
namespace Go.Proofs.YtgkmipfcadiobaaDoor
namespace Rows

/-- THE TIED CARD OF 'diapauselaw15.LoadTells'. -/
def loadTellsCard : Claim7 := { stood := { row := loadTellsRow, standIns := [], harness := (true, "20a779397a74c75e4e62cd72d9f1930ea5766453bb15a2b14861958d78deaed0"), looks := true }, kinds := [], alts := [], laidByText := true, laidKinds := [.data], laidTests := true, laidLooks := .later }
def LoadTellsCardSaid : Prop := Claim7.holds Tryd.pinned (.plain (OpenSpec.ofChange loadTellsSpec)) loadTellsCard

/-- THE TIED CARD OF 'diapauselaw15.LoadMoves'. -/
def loadMovesCard : Claim7 := { stood := { row := loadMovesRow, standIns := [], harness := (true, "20a779397a74c75e4e62cd72d9f1930ea5766453bb15a2b14861958d78deaed0"), looks := true }, kinds := [], alts := [], laidByText := true, laidKinds := [.data], laidTests := true, laidLooks := .later }
def LoadMovesCardSaid : Prop := Claim7.holds Tryd.pinned (.plain (OpenSpec.ofChange loadMovesSpec)) loadMovesCard

/-- THE TIED CARD OF 'diapauselaw15.LoadLess'. -/
def loadLessCard : Claim7 := { stood := { row := loadLessRow, standIns := [], harness := (true, "20a779397a74c75e4e62cd72d9f1930ea5766453bb15a2b14861958d78deaed0"), looks := true }, kinds := [], alts := [], laidByText := true, laidKinds := [.data], laidTests := true, laidLooks := .later }
def LoadLessCardSaid : Prop := Claim7.holds Tryd.pinned (.plain (OpenSpec.ofChange loadLessSpec)) loadLessCard

/-- THE TIED CARD OF 'diapauselaw15.LoadSettles'. -/
def loadSettlesCard : Claim7 := { stood := { row := loadSettlesRow, standIns := [], harness := (true, "20a779397a74c75e4e62cd72d9f1930ea5766453bb15a2b14861958d78deaed0"), looks := true }, kinds := [], alts := [], laidByText := true, laidKinds := [.data], laidTests := true, laidLooks := .later }
def LoadSettlesCardSaid : Prop := Claim7.holds Tryd.pinned (.plain (OpenSpec.ofChange loadSettlesSpec)) loadSettlesCard

/-- THE TIED CARD OF 'diapauselaw15.LoadEven'. -/
def loadEvenCard : Claim7 := { stood := { row := loadEvenRow, standIns := [], harness := (true, "20a779397a74c75e4e62cd72d9f1930ea5766453bb15a2b14861958d78deaed0"), looks := true }, kinds := [], alts := [], laidByText := true, laidKinds := [.data], laidTests := true, laidLooks := .later }
def LoadEvenCardSaid : Prop := Claim7.holds Tryd.pinned (.plain (OpenSpec.ofChange loadEvenSpec)) loadEvenCard

/-- THE TIED CARD OF 'diapauselaw15.LoadChoice'. -/
def loadChoiceCard : Claim7 := { stood := { row := loadChoiceRow, standIns := [], harness := (true, "20a779397a74c75e4e62cd72d9f1930ea5766453bb15a2b14861958d78deaed0"), looks := true }, kinds := [], alts := [], laidByText := true, laidKinds := [.data], laidTests := true, laidLooks := .later }
def LoadChoiceCardSaid : Prop := Claim7.holds Tryd.pinned (.plain (OpenSpec.ofChange loadChoiceSpec)) loadChoiceCard

/-- THE TIED CARD OF 'diapauselaw03.MaskBack'. -/
def maskBackCard : Claim7 := { stood := { row := maskBackRow, standIns := [], harness := (true, "20a779397a74c75e4e62cd72d9f1930ea5766453bb15a2b14861958d78deaed0"), looks := true }, kinds := [], alts := [], laidByText := true, laidKinds := [.data, .data, .data, .data, .sentinel, .sentinel, .pinned], laidTests := true, laidLooks := .later }
def MaskBackCardSaid : Prop := Claim7.holds Tryd.pinned (.plain (OpenSpec.ofChange maskBackSpec)) maskBackCard

/-- THE TIED CARD OF 'diapauselaw03.MaskUps'. -/
def maskUpsCard : Claim7 := { stood := { row := maskUpsRow, standIns := [], harness := (true, "20a779397a74c75e4e62cd72d9f1930ea5766453bb15a2b14861958d78deaed0"), looks := true }, kinds := [], alts := [], laidByText := true, laidKinds := [.data, .data, .data, .data, .sentinel, .sentinel, .pinned], laidTests := true, laidLooks := .later }
def MaskUpsCardSaid : Prop := Claim7.holds Tryd.pinned (.plain (OpenSpec.ofChange maskUpsSpec)) maskUpsCard

/-- THE TIED CARD OF 'diapauselaw03.MaskPairs'. -/
def maskPairsCard : Claim7 := { stood := { row := maskPairsRow, standIns := [], harness := (true, "20a779397a74c75e4e62cd72d9f1930ea5766453bb15a2b14861958d78deaed0"), looks := true }, kinds := [], alts := [], laidByText := true, laidKinds := [.data, .data, .data, .data, .sentinel, .sentinel, .pinned], laidTests := true, laidLooks := .later }
def MaskPairsCardSaid : Prop := Claim7.holds Tryd.pinned (.plain (OpenSpec.ofChange maskPairsSpec)) maskPairsCard

/-- THE TIED CARD OF 'diapauselaw03.MaskReads'. -/
def maskReadsCard : Claim7 := { stood := { row := maskReadsRow, standIns := [], harness := (true, "20a779397a74c75e4e62cd72d9f1930ea5766453bb15a2b14861958d78deaed0"), looks := true }, kinds := [], alts := [], laidByText := true, laidKinds := [.data, .data, .data, .data, .sentinel, .sentinel, .pinned], laidTests := true, laidLooks := .later }
def MaskReadsCardSaid : Prop := Claim7.holds Tryd.pinned (.plain (OpenSpec.ofChange maskReadsSpec)) maskReadsCard

/-- THE TIED CARD OF 'diapauselaw03.MaskRanks'. -/
def maskRanksCard : Claim7 := { stood := { row := maskRanksRow, standIns := [], harness := (true, "20a779397a74c75e4e62cd72d9f1930ea5766453bb15a2b14861958d78deaed0"), looks := true }, kinds := [], alts := [], laidByText := true, laidKinds := [.data, .data, .data, .data, .sentinel, .sentinel, .pinned], laidTests := true, laidLooks := .later }
def MaskRanksCardSaid : Prop := Claim7.holds Tryd.pinned (.plain (OpenSpec.ofChange maskRanksSpec)) maskRanksCard

/-- THE TIED CARD OF 'diapauselaw03.MaskMoves'. -/
def maskMovesCard : Claim7 := { stood := { row := maskMovesRow, standIns := [], harness := (true, "20a779397a74c75e4e62cd72d9f1930ea5766453bb15a2b14861958d78deaed0"), looks := true }, kinds := [], alts := [], laidByText := true, laidKinds := [.data, .data, .data, .data, .sentinel, .sentinel, .pinned], laidTests := true, laidLooks := .later }
def MaskMovesCardSaid : Prop := Claim7.holds Tryd.pinned (.plain (OpenSpec.ofChange maskMovesSpec)) maskMovesCard

/-- THE TIED CARD OF 'diapauselaw03.MaskTells'. -/
def maskTellsCard : Claim7 := { stood := { row := maskTellsRow, standIns := [], harness := (true, "20a779397a74c75e4e62cd72d9f1930ea5766453bb15a2b14861958d78deaed0"), looks := true }, kinds := [], alts := [], laidByText := true, laidKinds := [.data, .data, .data, .data, .sentinel, .sentinel, .pinned], laidTests := true, laidLooks := .later }
def MaskTellsCardSaid : Prop := Claim7.holds Tryd.pinned (.plain (OpenSpec.ofChange maskTellsSpec)) maskTellsCard

/-- THE SECOND FORM's CARD OF 'diapauselaw15.LoadTells'. -/
def loadTellsUptoCard : Claim7 := { stood := { row := loadTellsUptoRow, standIns := [], harness := (true, "20a779397a74c75e4e62cd72d9f1930ea5766453bb15a2b14861958d78deaed0"), looks := true }, kinds := [], alts := [], laidByText := true, laidKinds := [.data], laidTests := true, laidLooks := .later }
def LoadTellsUptoCardSaid : Prop := Claim7.holds Tryd.pinned (.plain (OpenSpec.upto loadTellsSpec)) loadTellsUptoCard

/-- THE SECOND FORM's CARD OF 'diapauselaw15.LoadMoves'. -/
def loadMovesUptoCard : Claim7 := { stood := { row := loadMovesUptoRow, standIns := [], harness := (true, "20a779397a74c75e4e62cd72d9f1930ea5766453bb15a2b14861958d78deaed0"), looks := true }, kinds := [], alts := [], laidByText := true, laidKinds := [.data], laidTests := true, laidLooks := .later }
def LoadMovesUptoCardSaid : Prop := Claim7.holds Tryd.pinned (.plain (OpenSpec.upto loadMovesSpec)) loadMovesUptoCard

/-- THE SECOND FORM's CARD OF 'diapauselaw15.LoadLess'. -/
def loadLessUptoCard : Claim7 := { stood := { row := loadLessUptoRow, standIns := [], harness := (true, "20a779397a74c75e4e62cd72d9f1930ea5766453bb15a2b14861958d78deaed0"), looks := true }, kinds := [], alts := [], laidByText := true, laidKinds := [.data], laidTests := true, laidLooks := .later }
def LoadLessUptoCardSaid : Prop := Claim7.holds Tryd.pinned (.plain (OpenSpec.upto loadLessSpec)) loadLessUptoCard

/-- THE SECOND FORM's CARD OF 'diapauselaw15.LoadSettles'. -/
def loadSettlesUptoCard : Claim7 := { stood := { row := loadSettlesUptoRow, standIns := [], harness := (true, "20a779397a74c75e4e62cd72d9f1930ea5766453bb15a2b14861958d78deaed0"), looks := true }, kinds := [], alts := [], laidByText := true, laidKinds := [.data], laidTests := true, laidLooks := .later }
def LoadSettlesUptoCardSaid : Prop := Claim7.holds Tryd.pinned (.plain (OpenSpec.upto loadSettlesSpec)) loadSettlesUptoCard

/-- THE SECOND FORM's CARD OF 'diapauselaw15.LoadEven'. -/
def loadEvenUptoCard : Claim7 := { stood := { row := loadEvenUptoRow, standIns := [], harness := (true, "20a779397a74c75e4e62cd72d9f1930ea5766453bb15a2b14861958d78deaed0"), looks := true }, kinds := [], alts := [], laidByText := true, laidKinds := [.data], laidTests := true, laidLooks := .later }
def LoadEvenUptoCardSaid : Prop := Claim7.holds Tryd.pinned (.plain (OpenSpec.upto loadEvenSpec)) loadEvenUptoCard

/-- THE SECOND FORM's CARD OF 'diapauselaw15.LoadChoice'. -/
def loadChoiceUptoCard : Claim7 := { stood := { row := loadChoiceUptoRow, standIns := [], harness := (true, "20a779397a74c75e4e62cd72d9f1930ea5766453bb15a2b14861958d78deaed0"), looks := true }, kinds := [], alts := [], laidByText := true, laidKinds := [.data], laidTests := true, laidLooks := .later }
def LoadChoiceUptoCardSaid : Prop := Claim7.holds Tryd.pinned (.plain (OpenSpec.upto loadChoiceSpec)) loadChoiceUptoCard

/-- THE SECOND FORM's CARD OF 'diapauselaw03.MaskBack'. -/
def maskBackUptoCard : Claim7 := { stood := { row := maskBackUptoRow, standIns := [], harness := (true, "20a779397a74c75e4e62cd72d9f1930ea5766453bb15a2b14861958d78deaed0"), looks := true }, kinds := [], alts := [], laidByText := true, laidKinds := [.data, .data, .data, .data, .sentinel, .sentinel, .pinned], laidTests := true, laidLooks := .later }
def MaskBackUptoCardSaid : Prop := Claim7.holds Tryd.pinned (.plain (OpenSpec.upto maskBackSpec)) maskBackUptoCard

/-- THE SECOND FORM's CARD OF 'diapauselaw03.MaskUps'. -/
def maskUpsUptoCard : Claim7 := { stood := { row := maskUpsUptoRow, standIns := [], harness := (true, "20a779397a74c75e4e62cd72d9f1930ea5766453bb15a2b14861958d78deaed0"), looks := true }, kinds := [], alts := [], laidByText := true, laidKinds := [.data, .data, .data, .data, .sentinel, .sentinel, .pinned], laidTests := true, laidLooks := .later }
def MaskUpsUptoCardSaid : Prop := Claim7.holds Tryd.pinned (.plain (OpenSpec.upto maskUpsSpec)) maskUpsUptoCard

/-- THE SECOND FORM's CARD OF 'diapauselaw03.MaskPairs'. -/
def maskPairsUptoCard : Claim7 := { stood := { row := maskPairsUptoRow, standIns := [], harness := (true, "20a779397a74c75e4e62cd72d9f1930ea5766453bb15a2b14861958d78deaed0"), looks := true }, kinds := [], alts := [], laidByText := true, laidKinds := [.data, .data, .data, .data, .sentinel, .sentinel, .pinned], laidTests := true, laidLooks := .later }
def MaskPairsUptoCardSaid : Prop := Claim7.holds Tryd.pinned (.plain (OpenSpec.upto maskPairsSpec)) maskPairsUptoCard

/-- THE SECOND FORM's CARD OF 'diapauselaw03.MaskReads'. -/
def maskReadsUptoCard : Claim7 := { stood := { row := maskReadsUptoRow, standIns := [], harness := (true, "20a779397a74c75e4e62cd72d9f1930ea5766453bb15a2b14861958d78deaed0"), looks := true }, kinds := [], alts := [], laidByText := true, laidKinds := [.data, .data, .data, .data, .sentinel, .sentinel, .pinned], laidTests := true, laidLooks := .later }
def MaskReadsUptoCardSaid : Prop := Claim7.holds Tryd.pinned (.plain (OpenSpec.upto maskReadsSpec)) maskReadsUptoCard

/-- THE SECOND FORM's CARD OF 'diapauselaw03.MaskRanks'. -/
def maskRanksUptoCard : Claim7 := { stood := { row := maskRanksUptoRow, standIns := [], harness := (true, "20a779397a74c75e4e62cd72d9f1930ea5766453bb15a2b14861958d78deaed0"), looks := true }, kinds := [], alts := [], laidByText := true, laidKinds := [.data, .data, .data, .data, .sentinel, .sentinel, .pinned], laidTests := true, laidLooks := .later }
def MaskRanksUptoCardSaid : Prop := Claim7.holds Tryd.pinned (.plain (OpenSpec.upto maskRanksSpec)) maskRanksUptoCard

/-- THE SECOND FORM's CARD OF 'diapauselaw03.MaskMoves'. -/
def maskMovesUptoCard : Claim7 := { stood := { row := maskMovesUptoRow, standIns := [], harness := (true, "20a779397a74c75e4e62cd72d9f1930ea5766453bb15a2b14861958d78deaed0"), looks := true }, kinds := [], alts := [], laidByText := true, laidKinds := [.data, .data, .data, .data, .sentinel, .sentinel, .pinned], laidTests := true, laidLooks := .later }
def MaskMovesUptoCardSaid : Prop := Claim7.holds Tryd.pinned (.plain (OpenSpec.upto maskMovesSpec)) maskMovesUptoCard

/-- THE SECOND FORM's CARD OF 'diapauselaw03.MaskTells'. -/
def maskTellsUptoCard : Claim7 := { stood := { row := maskTellsUptoRow, standIns := [], harness := (true, "20a779397a74c75e4e62cd72d9f1930ea5766453bb15a2b14861958d78deaed0"), looks := true }, kinds := [], alts := [], laidByText := true, laidKinds := [.data, .data, .data, .data, .sentinel, .sentinel, .pinned], laidTests := true, laidLooks := .later }
def MaskTellsUptoCardSaid : Prop := Claim7.holds Tryd.pinned (.plain (OpenSpec.upto maskTellsSpec)) maskTellsUptoCard
end Rows
end Go.Proofs.YtgkmipfcadiobaaDoor
