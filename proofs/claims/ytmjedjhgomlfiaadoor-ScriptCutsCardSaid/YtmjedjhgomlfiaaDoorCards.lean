/-
  DERIVED. GIVEN WITH THE SEED: THE CARDS: each row of YtmjedjhgomlfiaaDoorRows.lean that lists a variable, with what it lists TIED to the program's text (the seventh form; the later family's looks); each row that meets fmt, with fmt's text TOLD by the authors' own Lean function (tested against real Go, not proved from fmt's source: count such statements apart). THE CARD IS WHAT COUNTS. Prove the row's statement (the work); the ties are given (YtmjedjhgomlfiaaDoorTie.lean); close each card by the builder's one call (the guide's Derived/Test/ToyasCard.lean, 'card_holds'). Laid BY PROGRAM, IN A SANDBOX (cutbox-door.mjs). By AI agents, Wed Nov 11 2026. No macro, syntax, notation, axiom, sorry.
-/
import Derived.Test.YtmjedjhgomlfiaaDoorRows
import GoSem.ClaimSeven
namespace Go.Proofs.YtmjedjhgomlfiaaDoor
namespace Rows

/-- THE TIED CARD OF 'towncrierlaw01.WordJoins'. -/
def wordJoinsCard : Claim7 := { stood := { row := wordJoinsRow, standIns := [], harness := (true, "3461e443ce996b70b99e5d29c48b1e5b855a344706a8efbf9e7f145b25e4f188"), looks := true }, kinds := [], alts := [], laidByText := true, laidKinds := [.data, .pinned], laidTests := true, laidLooks := .later }
def WordJoinsCardSaid : Prop := Claim7.holds Tryd.pinned (.plain (OpenSpec.ofChange wordJoinsSpec)) wordJoinsCard

/-- THE TIED CARD OF 'towncrierlaw24.RowsTell'. -/
def rowsTellCard : Claim7 := { stood := { row := rowsTellRow, standIns := [], harness := (true, "3461e443ce996b70b99e5d29c48b1e5b855a344706a8efbf9e7f145b25e4f188"), looks := true }, kinds := [], alts := [], laidByText := true, laidKinds := [.data, .data, .data, .data], laidTests := true, laidLooks := .later }
def RowsTellCardSaid : Prop := Claim7.holds Tryd.pinned (.plain (OpenSpec.ofChange rowsTellSpec)) rowsTellCard

/-- THE TIED CARD OF 'towncrierlaw24.RowsWords'. -/
def rowsWordsCard : Claim7 := { stood := { row := rowsWordsRow, standIns := [], harness := (true, "3461e443ce996b70b99e5d29c48b1e5b855a344706a8efbf9e7f145b25e4f188"), looks := true }, kinds := [], alts := [], laidByText := true, laidKinds := [.data, .data, .data, .data], laidTests := true, laidLooks := .later }
def RowsWordsCardSaid : Prop := Claim7.holds Tryd.pinned (.plain (OpenSpec.ofChange rowsWordsSpec)) rowsWordsCard

/-- THE TIED CARD OF 'towncrierlaw19.OpParses'. -/
def opParsesCard : Claim7 := { stood := { row := opParsesRow, standIns := [], harness := (true, "3461e443ce996b70b99e5d29c48b1e5b855a344706a8efbf9e7f145b25e4f188"), looks := true }, kinds := [], alts := [], laidByText := true, laidKinds := [.data, .data, .data, .sentinel, .sentinel, .data, .data, .data], laidTests := true, laidLooks := .later }
def OpParsesCardSaid : Prop := Claim7.holds Tryd.pinned (.plain (OpenSpec.ofChange opParsesSpec)) opParsesCard

/-- THE TIED CARD OF 'towncrierlaw19.OpTells'. -/
def opTellsCard : Claim7 := { stood := { row := opTellsRow, standIns := [], harness := (true, "3461e443ce996b70b99e5d29c48b1e5b855a344706a8efbf9e7f145b25e4f188"), looks := true }, kinds := [], alts := [], laidByText := true, laidKinds := [.data, .data, .data, .sentinel, .sentinel, .data, .data, .data], laidTests := true, laidLooks := .later }
def OpTellsCardSaid : Prop := Claim7.holds Tryd.pinned (.plain (OpenSpec.ofChange opTellsSpec)) opTellsCard

/-- THE TIED CARD OF 'towncrierlaw19.OpNames'. -/
def opNamesCard : Claim7 := { stood := { row := opNamesRow, standIns := [], harness := (true, "3461e443ce996b70b99e5d29c48b1e5b855a344706a8efbf9e7f145b25e4f188"), looks := true }, kinds := [], alts := [], laidByText := true, laidKinds := [.data, .data, .data, .sentinel, .sentinel, .data, .data, .data], laidTests := true, laidLooks := .later }
def OpNamesCardSaid : Prop := Claim7.holds Tryd.pinned (.plain (OpenSpec.ofChange opNamesSpec)) opNamesCard

/-- THE TIED CARD OF 'towncrierlaw19.OpTexts'. -/
def opTextsCard : Claim7 := { stood := { row := opTextsRow, standIns := [], harness := (true, "3461e443ce996b70b99e5d29c48b1e5b855a344706a8efbf9e7f145b25e4f188"), looks := true }, kinds := [], alts := [], laidByText := true, laidKinds := [.data, .data, .data, .sentinel, .sentinel, .data, .data, .data], laidTests := true, laidLooks := .later }
def OpTextsCardSaid : Prop := Claim7.holds Tryd.pinned (.plain (OpenSpec.ofChange opTextsSpec)) opTextsCard

/-- THE TIED CARD OF 'towncrierlaw01.WordNums'. -/
def wordNumsCard : Claim7 := { stood := { row := wordNumsRow, standIns := [], harness := (true, "3461e443ce996b70b99e5d29c48b1e5b855a344706a8efbf9e7f145b25e4f188"), looks := true }, kinds := [], alts := [], laidByText := true, laidKinds := [.data, .data, .data, .data, .sentinel, .sentinel, .pinned], laidTests := true, laidLooks := .later }
def WordNumsCardSaid : Prop := Claim7.holds Tryd.pinned (.plain (OpenSpec.ofChange wordNumsSpec)) wordNumsCard

/-- THE TIED CARD OF 'towncrierlaw01.WordTells'. -/
def wordTellsCard : Claim7 := { stood := { row := wordTellsRow, standIns := [], harness := (true, "3461e443ce996b70b99e5d29c48b1e5b855a344706a8efbf9e7f145b25e4f188"), looks := true }, kinds := [], alts := [], laidByText := true, laidKinds := [.data, .data, .data, .data, .sentinel, .sentinel, .pinned], laidTests := true, laidLooks := .later }
def WordTellsCardSaid : Prop := Claim7.holds Tryd.pinned (.plain (OpenSpec.ofChange wordTellsSpec)) wordTellsCard

/-- THE TIED CARD OF 'towncrierlaw21.ScriptParses'. -/
def scriptParsesCard : Claim7 := { stood := { row := scriptParsesRow, standIns := [], harness := (true, "3461e443ce996b70b99e5d29c48b1e5b855a344706a8efbf9e7f145b25e4f188"), looks := true }, kinds := [], alts := [], laidByText := true, laidKinds := [.data, .data, .data, .data, .sentinel, .sentinel, .data, .data, .data, .pinned], laidTests := true, laidLooks := .later }
def ScriptParsesCardSaid : Prop := Claim7.holds Tryd.pinned (.plain (OpenSpec.ofChange scriptParsesSpec)) scriptParsesCard

/-- THE TIED CARD OF 'towncrierlaw21.ScriptBlanks'. -/
def scriptBlanksCard : Claim7 := { stood := { row := scriptBlanksRow, standIns := [], harness := (true, "3461e443ce996b70b99e5d29c48b1e5b855a344706a8efbf9e7f145b25e4f188"), looks := true }, kinds := [], alts := [], laidByText := true, laidKinds := [.data, .data, .data, .data, .sentinel, .sentinel, .data, .data, .data, .pinned], laidTests := true, laidLooks := .later }
def ScriptBlanksCardSaid : Prop := Claim7.holds Tryd.pinned (.plain (OpenSpec.ofChange scriptBlanksSpec)) scriptBlanksCard

/-- THE TIED CARD OF 'towncrierlaw21.ScriptCuts'. -/
def scriptCutsCard : Claim7 := { stood := { row := scriptCutsRow, standIns := [], harness := (true, "3461e443ce996b70b99e5d29c48b1e5b855a344706a8efbf9e7f145b25e4f188"), looks := true }, kinds := [], alts := [], laidByText := true, laidKinds := [.data, .data, .data, .data, .sentinel, .sentinel, .data, .data, .data, .pinned], laidTests := true, laidLooks := .later }
def ScriptCutsCardSaid : Prop := Claim7.holds Tryd.pinned (.plain (OpenSpec.ofChange scriptCutsSpec)) scriptCutsCard

/-- THE SECOND FORM's CARD OF 'towncrierlaw01.WordJoins'. -/
def wordJoinsUptoCard : Claim7 := { stood := { row := wordJoinsUptoRow, standIns := [], harness := (true, "3461e443ce996b70b99e5d29c48b1e5b855a344706a8efbf9e7f145b25e4f188"), looks := true }, kinds := [], alts := [], laidByText := true, laidKinds := [.data, .pinned], laidTests := true, laidLooks := .later }
def WordJoinsUptoCardSaid : Prop := Claim7.holds Tryd.pinned (.plain (OpenSpec.upto wordJoinsSpec)) wordJoinsUptoCard

/-- THE SECOND FORM's CARD OF 'towncrierlaw24.RowsTell'. -/
def rowsTellUptoCard : Claim7 := { stood := { row := rowsTellUptoRow, standIns := [], harness := (true, "3461e443ce996b70b99e5d29c48b1e5b855a344706a8efbf9e7f145b25e4f188"), looks := true }, kinds := [], alts := [], laidByText := true, laidKinds := [.data, .data, .data, .data], laidTests := true, laidLooks := .later }
def RowsTellUptoCardSaid : Prop := Claim7.holds Tryd.pinned (.plain (OpenSpec.upto rowsTellSpec)) rowsTellUptoCard

/-- THE SECOND FORM's CARD OF 'towncrierlaw24.RowsWords'. -/
def rowsWordsUptoCard : Claim7 := { stood := { row := rowsWordsUptoRow, standIns := [], harness := (true, "3461e443ce996b70b99e5d29c48b1e5b855a344706a8efbf9e7f145b25e4f188"), looks := true }, kinds := [], alts := [], laidByText := true, laidKinds := [.data, .data, .data, .data], laidTests := true, laidLooks := .later }
def RowsWordsUptoCardSaid : Prop := Claim7.holds Tryd.pinned (.plain (OpenSpec.upto rowsWordsSpec)) rowsWordsUptoCard

/-- THE SECOND FORM's CARD OF 'towncrierlaw19.OpParses'. -/
def opParsesUptoCard : Claim7 := { stood := { row := opParsesUptoRow, standIns := [], harness := (true, "3461e443ce996b70b99e5d29c48b1e5b855a344706a8efbf9e7f145b25e4f188"), looks := true }, kinds := [], alts := [], laidByText := true, laidKinds := [.data, .data, .data, .sentinel, .sentinel, .data, .data, .data], laidTests := true, laidLooks := .later }
def OpParsesUptoCardSaid : Prop := Claim7.holds Tryd.pinned (.plain (OpenSpec.upto opParsesSpec)) opParsesUptoCard

/-- THE SECOND FORM's CARD OF 'towncrierlaw19.OpTells'. -/
def opTellsUptoCard : Claim7 := { stood := { row := opTellsUptoRow, standIns := [], harness := (true, "3461e443ce996b70b99e5d29c48b1e5b855a344706a8efbf9e7f145b25e4f188"), looks := true }, kinds := [], alts := [], laidByText := true, laidKinds := [.data, .data, .data, .sentinel, .sentinel, .data, .data, .data], laidTests := true, laidLooks := .later }
def OpTellsUptoCardSaid : Prop := Claim7.holds Tryd.pinned (.plain (OpenSpec.upto opTellsSpec)) opTellsUptoCard

/-- THE SECOND FORM's CARD OF 'towncrierlaw19.OpNames'. -/
def opNamesUptoCard : Claim7 := { stood := { row := opNamesUptoRow, standIns := [], harness := (true, "3461e443ce996b70b99e5d29c48b1e5b855a344706a8efbf9e7f145b25e4f188"), looks := true }, kinds := [], alts := [], laidByText := true, laidKinds := [.data, .data, .data, .sentinel, .sentinel, .data, .data, .data], laidTests := true, laidLooks := .later }
def OpNamesUptoCardSaid : Prop := Claim7.holds Tryd.pinned (.plain (OpenSpec.upto opNamesSpec)) opNamesUptoCard

/-- THE SECOND FORM's CARD OF 'towncrierlaw19.OpTexts'. -/
def opTextsUptoCard : Claim7 := { stood := { row := opTextsUptoRow, standIns := [], harness := (true, "3461e443ce996b70b99e5d29c48b1e5b855a344706a8efbf9e7f145b25e4f188"), looks := true }, kinds := [], alts := [], laidByText := true, laidKinds := [.data, .data, .data, .sentinel, .sentinel, .data, .data, .data], laidTests := true, laidLooks := .later }
def OpTextsUptoCardSaid : Prop := Claim7.holds Tryd.pinned (.plain (OpenSpec.upto opTextsSpec)) opTextsUptoCard

/-- THE SECOND FORM's CARD OF 'towncrierlaw01.WordNums'. -/
def wordNumsUptoCard : Claim7 := { stood := { row := wordNumsUptoRow, standIns := [], harness := (true, "3461e443ce996b70b99e5d29c48b1e5b855a344706a8efbf9e7f145b25e4f188"), looks := true }, kinds := [], alts := [], laidByText := true, laidKinds := [.data, .data, .data, .data, .sentinel, .sentinel, .pinned], laidTests := true, laidLooks := .later }
def WordNumsUptoCardSaid : Prop := Claim7.holds Tryd.pinned (.plain (OpenSpec.upto wordNumsSpec)) wordNumsUptoCard

/-- THE SECOND FORM's CARD OF 'towncrierlaw01.WordTells'. -/
def wordTellsUptoCard : Claim7 := { stood := { row := wordTellsUptoRow, standIns := [], harness := (true, "3461e443ce996b70b99e5d29c48b1e5b855a344706a8efbf9e7f145b25e4f188"), looks := true }, kinds := [], alts := [], laidByText := true, laidKinds := [.data, .data, .data, .data, .sentinel, .sentinel, .pinned], laidTests := true, laidLooks := .later }
def WordTellsUptoCardSaid : Prop := Claim7.holds Tryd.pinned (.plain (OpenSpec.upto wordTellsSpec)) wordTellsUptoCard

/-- THE SECOND FORM's CARD OF 'towncrierlaw21.ScriptParses'. -/
def scriptParsesUptoCard : Claim7 := { stood := { row := scriptParsesUptoRow, standIns := [], harness := (true, "3461e443ce996b70b99e5d29c48b1e5b855a344706a8efbf9e7f145b25e4f188"), looks := true }, kinds := [], alts := [], laidByText := true, laidKinds := [.data, .data, .data, .data, .sentinel, .sentinel, .data, .data, .data, .pinned], laidTests := true, laidLooks := .later }
def ScriptParsesUptoCardSaid : Prop := Claim7.holds Tryd.pinned (.plain (OpenSpec.upto scriptParsesSpec)) scriptParsesUptoCard

/-- THE SECOND FORM's CARD OF 'towncrierlaw21.ScriptBlanks'. -/
def scriptBlanksUptoCard : Claim7 := { stood := { row := scriptBlanksUptoRow, standIns := [], harness := (true, "3461e443ce996b70b99e5d29c48b1e5b855a344706a8efbf9e7f145b25e4f188"), looks := true }, kinds := [], alts := [], laidByText := true, laidKinds := [.data, .data, .data, .data, .sentinel, .sentinel, .data, .data, .data, .pinned], laidTests := true, laidLooks := .later }
def ScriptBlanksUptoCardSaid : Prop := Claim7.holds Tryd.pinned (.plain (OpenSpec.upto scriptBlanksSpec)) scriptBlanksUptoCard

/-- THE SECOND FORM's CARD OF 'towncrierlaw21.ScriptCuts'. -/
def scriptCutsUptoCard : Claim7 := { stood := { row := scriptCutsUptoRow, standIns := [], harness := (true, "3461e443ce996b70b99e5d29c48b1e5b855a344706a8efbf9e7f145b25e4f188"), looks := true }, kinds := [], alts := [], laidByText := true, laidKinds := [.data, .data, .data, .data, .sentinel, .sentinel, .data, .data, .data, .pinned], laidTests := true, laidLooks := .later }
def ScriptCutsUptoCardSaid : Prop := Claim7.holds Tryd.pinned (.plain (OpenSpec.upto scriptCutsSpec)) scriptCutsUptoCard
end Rows
end Go.Proofs.YtmjedjhgomlfiaaDoor
