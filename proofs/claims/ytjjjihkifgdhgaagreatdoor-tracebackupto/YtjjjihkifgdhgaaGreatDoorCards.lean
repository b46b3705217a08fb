/-
  DERIVED. GIVEN WITH THE SEED: THE CARDS: each row of YtjjjihkifgdhgaaGreatDoorRows.lean that lists a variable, with what it lists TIED to the program's text (the seventh form; the later family's looks); each row that meets fmt, with fmt's text TOLD by the authors' own Lean function (tested against real Go, not proved from fmt's source: count such statements apart). THE CARD IS WHAT COUNTS. Prove the row's statement (the work); the ties are given (YtjjjihkifgdhgaaGreatDoorTie.lean); close each card by the builder's one call (the guide's Derived/Test/ToyasCard.lean, 'card_holds'). Laid BY PROGRAM, IN A SANDBOX (cutbox-door.mjs). By AI agents, Wed Nov 11 2026. No macro, syntax, notation, axiom, sorry.
-/
import Derived.Test.YtjjjihkifgdhgaaGreatDoorRows
import GoSem.ClaimSeven
namespace Go.Proofs.YtjjjihkifgdhgaaGreatDoor
namespace Rows

/-- THE TIED CARD OF 'ententelaw31.LintFinds'. -/
def lintFindsCard : Claim7 := { stood := { row := lintFindsRow, standIns := [], harness := (true, "82bf2deb4af170fc9487f2327279792596ca8fb92b6a0a81864b3a1a70dd5447"), looks := true }, kinds := [], alts := [], laidByText := true, laidKinds := [.data, .data, .data], laidTests := true, laidLooks := .later }
def LintFindsCardSaid : Prop := Claim7.holds Tryz.pinned (.plain (OpenSpec.ofChange lintFindsSpec)) lintFindsCard

/-- THE TIED CARD OF 'ententelaw31.LintTexts'. -/
def lintTextsCard : Claim7 := { stood := { row := lintTextsRow, standIns := [], harness := (true, "82bf2deb4af170fc9487f2327279792596ca8fb92b6a0a81864b3a1a70dd5447"), looks := true }, kinds := [], alts := [], laidByText := true, laidKinds := [.data, .data, .data], laidTests := true, laidLooks := .later }
def LintTextsCardSaid : Prop := Claim7.holds Tryz.pinned (.plain (OpenSpec.ofChange lintTextsSpec)) lintTextsCard

/-- THE TIED CARD OF 'ententelaw31.LintHolds'. -/
def lintHoldsCard : Claim7 := { stood := { row := lintHoldsRow, standIns := [], harness := (true, "82bf2deb4af170fc9487f2327279792596ca8fb92b6a0a81864b3a1a70dd5447"), looks := true }, kinds := [], alts := [], laidByText := true, laidKinds := [.data, .data, .data], laidTests := true, laidLooks := .later }
def LintHoldsCardSaid : Prop := Claim7.holds Tryz.pinned (.plain (OpenSpec.ofChange lintHoldsSpec)) lintHoldsCard

/-- THE TIED CARD OF 'ententelaw50.ChangeMoves'. -/
def changeMovesCard : Claim7 := { stood := { row := changeMovesRow, standIns := [], harness := (true, "82bf2deb4af170fc9487f2327279792596ca8fb92b6a0a81864b3a1a70dd5447"), looks := true }, kinds := [], alts := [], laidByText := true, laidKinds := [.data, .data, .data], laidTests := true, laidLooks := .later }
def ChangeMovesCardSaid : Prop := Claim7.holds Tryz.pinned (.plain (OpenSpec.ofChange changeMovesSpec)) changeMovesCard

/-- THE TIED CARD OF 'ententelaw50.ChangeTells'. -/
def changeTellsCard : Claim7 := { stood := { row := changeTellsRow, standIns := [], harness := (true, "82bf2deb4af170fc9487f2327279792596ca8fb92b6a0a81864b3a1a70dd5447"), looks := true }, kinds := [], alts := [], laidByText := true, laidKinds := [.data, .data, .data], laidTests := true, laidLooks := .later }
def ChangeTellsCardSaid : Prop := Claim7.holds Tryz.pinned (.plain (OpenSpec.ofChange changeTellsSpec)) changeTellsCard

/-- THE TIED CARD OF 'ententelaw50.ChangeLoses'. -/
def changeLosesCard : Claim7 := { stood := { row := changeLosesRow, standIns := [], harness := (true, "82bf2deb4af170fc9487f2327279792596ca8fb92b6a0a81864b3a1a70dd5447"), looks := true }, kinds := [], alts := [], laidByText := true, laidKinds := [.data, .data, .data], laidTests := true, laidLooks := .later }
def ChangeLosesCardSaid : Prop := Claim7.holds Tryz.pinned (.plain (OpenSpec.ofChange changeLosesSpec)) changeLosesCard

/-- THE TIED CARD OF 'ententelaw39.TraceBack'. -/
def traceBackCard : Claim7 := { stood := { row := traceBackRow, standIns := [], harness := (true, "82bf2deb4af170fc9487f2327279792596ca8fb92b6a0a81864b3a1a70dd5447"), looks := true }, kinds := [], alts := [], laidByText := true, laidKinds := [.data, .data, .data, .data, .sentinel, .sentinel, .pinned], laidTests := true, laidLooks := .later }
def TraceBackCardSaid : Prop := Claim7.holds Tryz.pinned (.plain (OpenSpec.ofChange traceBackSpec)) traceBackCard

/-- THE SECOND FORM's CARD OF 'ententelaw31.LintFinds'. -/
def lintFindsUptoCard : Claim7 := { stood := { row := lintFindsUptoRow, standIns := [], harness := (true, "82bf2deb4af170fc9487f2327279792596ca8fb92b6a0a81864b3a1a70dd5447"), looks := true }, kinds := [], alts := [], laidByText := true, laidKinds := [.data, .data, .data], laidTests := true, laidLooks := .later }
def LintFindsUptoCardSaid : Prop := Claim7.holds Tryz.pinned (.plain (OpenSpec.upto lintFindsSpec)) lintFindsUptoCard

/-- THE SECOND FORM's CARD OF 'ententelaw31.LintTexts'. -/
def lintTextsUptoCard : Claim7 := { stood := { row := lintTextsUptoRow, standIns := [], harness := (true, "82bf2deb4af170fc9487f2327279792596ca8fb92b6a0a81864b3a1a70dd5447"), looks := true }, kinds := [], alts := [], laidByText := true, laidKinds := [.data, .data, .data], laidTests := true, laidLooks := .later }
def LintTextsUptoCardSaid : Prop := Claim7.holds Tryz.pinned (.plain (OpenSpec.upto lintTextsSpec)) lintTextsUptoCard

/-- THE SECOND FORM's CARD OF 'ententelaw31.LintHolds'. -/
def lintHoldsUptoCard : Claim7 := { stood := { row := lintHoldsUptoRow, standIns := [], harness := (true, "82bf2deb4af170fc9487f2327279792596ca8fb92b6a0a81864b3a1a70dd5447"), looks := true }, kinds := [], alts := [], laidByText := true, laidKinds := [.data, .data, .data], laidTests := true, laidLooks := .later }
def LintHoldsUptoCardSaid : Prop := Claim7.holds Tryz.pinned (.plain (OpenSpec.upto lintHoldsSpec)) lintHoldsUptoCard

/-- THE SECOND FORM's CARD OF 'ententelaw50.ChangeMoves'. -/
def changeMovesUptoCard : Claim7 := { stood := { row := changeMovesUptoRow, standIns := [], harness := (true, "82bf2deb4af170fc9487f2327279792596ca8fb92b6a0a81864b3a1a70dd5447"), looks := true }, kinds := [], alts := [], laidByText := true, laidKinds := [.data, .data, .data], laidTests := true, laidLooks := .later }
def ChangeMovesUptoCardSaid : Prop := Claim7.holds Tryz.pinned (.plain (OpenSpec.upto changeMovesSpec)) changeMovesUptoCard

/-- THE SECOND FORM's CARD OF 'ententelaw50.ChangeTells'. -/
def changeTellsUptoCard : Claim7 := { stood := { row := changeTellsUptoRow, standIns := [], harness := (true, "82bf2deb4af170fc9487f2327279792596ca8fb92b6a0a81864b3a1a70dd5447"), looks := true }, kinds := [], alts := [], laidByText := true, laidKinds := [.data, .data, .data], laidTests := true, laidLooks := .later }
def ChangeTellsUptoCardSaid : Prop := Claim7.holds Tryz.pinned (.plain (OpenSpec.upto changeTellsSpec)) changeTellsUptoCard

/-- THE SECOND FORM's CARD OF 'ententelaw50.ChangeLoses'. -/
def changeLosesUptoCard : Claim7 := { stood := { row := changeLosesUptoRow, standIns := [], harness := (true, "82bf2deb4af170fc9487f2327279792596ca8fb92b6a0a81864b3a1a70dd5447"), looks := true }, kinds := [], alts := [], laidByText := true, laidKinds := [.data, .data, .data], laidTests := true, laidLooks := .later }
def ChangeLosesUptoCardSaid : Prop := Claim7.holds Tryz.pinned (.plain (OpenSpec.upto changeLosesSpec)) changeLosesUptoCard

/-- THE SECOND FORM's CARD OF 'ententelaw39.TraceBack'. -/
def traceBackUptoCard : Claim7 := { stood := { row := traceBackUptoRow, standIns := [], harness := (true, "82bf2deb4af170fc9487f2327279792596ca8fb92b6a0a81864b3a1a70dd5447"), looks := true }, kinds := [], alts := [], laidByText := true, laidKinds := [.data, .data, .data, .data, .sentinel, .sentinel, .pinned], laidTests := true, laidLooks := .later }
def TraceBackUptoCardSaid : Prop := Claim7.holds Tryz.pinned (.plain (OpenSpec.upto traceBackSpec)) traceBackUptoCard
end Rows
end Go.Proofs.YtjjjihkifgdhgaaGreatDoor
