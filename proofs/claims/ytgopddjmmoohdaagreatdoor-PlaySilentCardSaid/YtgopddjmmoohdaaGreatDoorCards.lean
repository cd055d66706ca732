/-
  DERIVED. GIVEN WITH THE SEED: THE CARDS: each row of YtgopddjmmoohdaaGreatDoorRows.lean that lists a variable, with what it lists TIED to the program's text (the seventh form; the later family's looks); each row that meets fmt, with fmt's text TOLD by the authors' own Lean function (tested against real Go, not proved from fmt's source: count such statements apart). THE CARD IS WHAT COUNTS. Prove the row's statement (the work); the ties are given (YtgopddjmmoohdaaGreatDoorTie.lean); close each card by the builder's one call (the guide's Derived/Test/ToyasCard.lean, 'card_holds'). Laid BY PROGRAM, IN A SANDBOX (cutbox-door.mjs). By AI agents, Wed Nov 11 2026. No macro, syntax, notation, axiom, sorry.
-/
import Derived.Test.YtgopddjmmoohdaaGreatDoorRows
import GoSem.ClaimSeven
namespace Go.Proofs.YtgopddjmmoohdaaGreatDoor
namespace Rows

/-- THE TIED CARD OF 'towncrierlaw23.PlayNested'. -/
def playNestedCard : Claim7 := { stood := { row := playNestedRow, standIns := [], harness := (true, "fc5fd9508d363cc41cc0c3526a221f83cf8a00af85575c7ef355f897083781a9"), looks := false }, kinds := [], alts := [], laidByText := true, laidKinds := [.data, .data, .data], laidTests := true, laidLooks := .later }
def PlayNestedCardSaid : Prop := Claim7.holds Tryz.pinned (.plain (OpenSpec.ofChange playNestedSpec)) playNestedCard

/-- THE TIED CARD OF 'towncrierlaw23.PlaySilent'. -/
def playSilentCard : Claim7 := { stood := { row := playSilentRow, standIns := [], harness := (true, "fc5fd9508d363cc41cc0c3526a221f83cf8a00af85575c7ef355f897083781a9"), looks := false }, kinds := [], alts := [], laidByText := true, laidKinds := [.data, .data, .data], laidTests := true, laidLooks := .later }
def PlaySilentCardSaid : Prop := Claim7.holds Tryz.pinned (.plain (OpenSpec.ofChange playSilentSpec)) playSilentCard

/-- THE TIED CARD OF 'towncrierlaw23.PlayEnds'. -/
def playEndsCard : Claim7 := { stood := { row := playEndsRow, standIns := [], harness := (true, "fc5fd9508d363cc41cc0c3526a221f83cf8a00af85575c7ef355f897083781a9"), looks := false }, kinds := [], alts := [], laidByText := true, laidKinds := [.data, .data, .data], laidTests := true, laidLooks := .later }
def PlayEndsCardSaid : Prop := Claim7.holds Tryz.pinned (.plain (OpenSpec.ofChange playEndsSpec)) playEndsCard

/-- THE SECOND FORM's CARD OF 'towncrierlaw23.PlayNested'. -/
def playNestedUptoCard : Claim7 := { stood := { row := playNestedUptoRow, standIns := [], harness := (true, "fc5fd9508d363cc41cc0c3526a221f83cf8a00af85575c7ef355f897083781a9"), looks := false }, kinds := [], alts := [], laidByText := true, laidKinds := [.data, .data, .data], laidTests := true, laidLooks := .later }
def PlayNestedUptoCardSaid : Prop := Claim7.holds Tryz.pinned (.plain (OpenSpec.upto playNestedSpec)) playNestedUptoCard

/-- THE SECOND FORM's CARD OF 'towncrierlaw23.PlaySilent'. -/
def playSilentUptoCard : Claim7 := { stood := { row := playSilentUptoRow, standIns := [], harness := (true, "fc5fd9508d363cc41cc0c3526a221f83cf8a00af85575c7ef355f897083781a9"), looks := false }, kinds := [], alts := [], laidByText := true, laidKinds := [.data, .data, .data], laidTests := true, laidLooks := .later }
def PlaySilentUptoCardSaid : Prop := Claim7.holds Tryz.pinned (.plain (OpenSpec.upto playSilentSpec)) playSilentUptoCard

/-- THE SECOND FORM's CARD OF 'towncrierlaw23.PlayEnds'. -/
def playEndsUptoCard : Claim7 := { stood := { row := playEndsUptoRow, standIns := [], harness := (true, "fc5fd9508d363cc41cc0c3526a221f83cf8a00af85575c7ef355f897083781a9"), looks := false }, kinds := [], alts := [], laidByText := true, laidKinds := [.data, .data, .data], laidTests := true, laidLooks := .later }
def PlayEndsUptoCardSaid : Prop := Claim7.holds Tryz.pinned (.plain (OpenSpec.upto playEndsSpec)) playEndsUptoCard
end Rows
end Go.Proofs.YtgopddjmmoohdaaGreatDoor
