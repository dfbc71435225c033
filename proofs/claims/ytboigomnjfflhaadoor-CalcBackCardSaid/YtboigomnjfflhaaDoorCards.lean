/-
  DERIVED. GIVEN WITH THE SEED: THE CARDS: each row of YtboigomnjfflhaaDoorRows.lean that lists a variable, with what it lists TIED to the program's text (the seventh form; the later family's looks); each row that meets fmt, with fmt's text TOLD by the authors' own Lean function (tested against real Go, not proved from fmt's source: count such statements apart). THE CARD IS WHAT COUNTS. Prove the row's statement (the work); the ties are given (YtboigomnjfflhaaDoorTie.lean); close each card by the builder's one call (the guide's Derived/Test/ToyasCard.lean, 'card_holds'). Laid BY PROGRAM, IN A SANDBOX (cutbox-door.mjs). By AI agents, Wed Nov 11 2026. No macro, syntax, notation, axiom, sorry.
-/
import Derived.Test.YtboigomnjfflhaaDoorRows
import GoSem.ClaimSeven
namespace Go.Proofs.YtboigomnjfflhaaDoor
namespace Rows

/-- THE TIED CARD OF 'pavanelaw03.CalcDoes'. -/
def calcDoesCard : Claim7 := { stood := { row := calcDoesRow, standIns := [], harness := (true, "fc0c6b86722760177f18f436d46e398f54b7d47f00e02df77626c8adaf55e975"), looks := true }, kinds := [], alts := [], laidByText := true, laidKinds := [.data, .data, .data], laidTests := true, laidLooks := .later }
def CalcDoesCardSaid : Prop := Claim7.holds Tryd.pinned (.plain (OpenSpec.ofChange calcDoesSpec)) calcDoesCard

/-- THE TIED CARD OF 'pavanelaw03.CalcRounds'. -/
def calcRoundsCard : Claim7 := { stood := { row := calcRoundsRow, standIns := [], harness := (true, "fc0c6b86722760177f18f436d46e398f54b7d47f00e02df77626c8adaf55e975"), looks := true }, kinds := [], alts := [], laidByText := true, laidKinds := [.data, .data, .data], laidTests := true, laidLooks := .later }
def CalcRoundsCardSaid : Prop := Claim7.holds Tryd.pinned (.plain (OpenSpec.ofChange calcRoundsSpec)) calcRoundsCard

/-- THE TIED CARD OF 'pavanelaw03.CalcOrders'. -/
def calcOrdersCard : Claim7 := { stood := { row := calcOrdersRow, standIns := [], harness := (true, "fc0c6b86722760177f18f436d46e398f54b7d47f00e02df77626c8adaf55e975"), looks := true }, kinds := [], alts := [], laidByText := true, laidKinds := [.data, .data, .data], laidTests := true, laidLooks := .later }
def CalcOrdersCardSaid : Prop := Claim7.holds Tryd.pinned (.plain (OpenSpec.ofChange calcOrdersSpec)) calcOrdersCard

/-- THE TIED CARD OF 'pavanelaw03.CalcOnes'. -/
def calcOnesCard : Claim7 := { stood := { row := calcOnesRow, standIns := [], harness := (true, "fc0c6b86722760177f18f436d46e398f54b7d47f00e02df77626c8adaf55e975"), looks := true }, kinds := [], alts := [], laidByText := true, laidKinds := [.data, .data, .data], laidTests := true, laidLooks := .later }
def CalcOnesCardSaid : Prop := Claim7.holds Tryd.pinned (.plain (OpenSpec.ofChange calcOnesSpec)) calcOnesCard

/-- THE TIED CARD OF 'pavanelaw03.CalcTexts'. -/
def calcTextsCard : Claim7 := { stood := { row := calcTextsRow, standIns := [], harness := (true, "fc0c6b86722760177f18f436d46e398f54b7d47f00e02df77626c8adaf55e975"), looks := true }, kinds := [], alts := [], laidByText := true, laidKinds := [.data, .data, .data, .sentinel, .sentinel], laidTests := true, laidLooks := .later }
def CalcTextsCardSaid : Prop := Claim7.holds Tryd.pinned (.plain (OpenSpec.ofChange calcTextsSpec)) calcTextsCard

/-- THE TIED CARD OF 'pavanelaw03.CalcBack'. -/
def calcBackCard : Claim7 := { stood := { row := calcBackRow, standIns := [], harness := (true, "fc0c6b86722760177f18f436d46e398f54b7d47f00e02df77626c8adaf55e975"), looks := true }, kinds := [], alts := [], laidByText := true, laidKinds := [.data, .data, .data, .sentinel, .sentinel], laidTests := true, laidLooks := .later }
def CalcBackCardSaid : Prop := Claim7.holds Tryd.pinned (.plain (OpenSpec.ofChange calcBackSpec)) calcBackCard

/-- THE SECOND FORM's CARD OF 'pavanelaw03.CalcDoes'. -/
def calcDoesUptoCard : Claim7 := { stood := { row := calcDoesUptoRow, standIns := [], harness := (true, "fc0c6b86722760177f18f436d46e398f54b7d47f00e02df77626c8adaf55e975"), looks := true }, kinds := [], alts := [], laidByText := true, laidKinds := [.data, .data, .data], laidTests := true, laidLooks := .later }
def CalcDoesUptoCardSaid : Prop := Claim7.holds Tryd.pinned (.plain (OpenSpec.upto calcDoesSpec)) calcDoesUptoCard

/-- THE SECOND FORM's CARD OF 'pavanelaw03.CalcRounds'. -/
def calcRoundsUptoCard : Claim7 := { stood := { row := calcRoundsUptoRow, standIns := [], harness := (true, "fc0c6b86722760177f18f436d46e398f54b7d47f00e02df77626c8adaf55e975"), looks := true }, kinds := [], alts := [], laidByText := true, laidKinds := [.data, .data, .data], laidTests := true, laidLooks := .later }
def CalcRoundsUptoCardSaid : Prop := Claim7.holds Tryd.pinned (.plain (OpenSpec.upto calcRoundsSpec)) calcRoundsUptoCard

/-- THE SECOND FORM's CARD OF 'pavanelaw03.CalcOrders'. -/
def calcOrdersUptoCard : Claim7 := { stood := { row := calcOrdersUptoRow, standIns := [], harness := (true, "fc0c6b86722760177f18f436d46e398f54b7d47f00e02df77626c8adaf55e975"), looks := true }, kinds := [], alts := [], laidByText := true, laidKinds := [.data, .data, .data], laidTests := true, laidLooks := .later }
def CalcOrdersUptoCardSaid : Prop := Claim7.holds Tryd.pinned (.plain (OpenSpec.upto calcOrdersSpec)) calcOrdersUptoCard

/-- THE SECOND FORM's CARD OF 'pavanelaw03.CalcOnes'. -/
def calcOnesUptoCard : Claim7 := { stood := { row := calcOnesUptoRow, standIns := [], harness := (true, "fc0c6b86722760177f18f436d46e398f54b7d47f00e02df77626c8adaf55e975"), looks := true }, kinds := [], alts := [], laidByText := true, laidKinds := [.data, .data, .data], laidTests := true, laidLooks := .later }
def CalcOnesUptoCardSaid : Prop := Claim7.holds Tryd.pinned (.plain (OpenSpec.upto calcOnesSpec)) calcOnesUptoCard

/-- THE SECOND FORM's CARD OF 'pavanelaw03.CalcTexts'. -/
def calcTextsUptoCard : Claim7 := { stood := { row := calcTextsUptoRow, standIns := [], harness := (true, "fc0c6b86722760177f18f436d46e398f54b7d47f00e02df77626c8adaf55e975"), looks := true }, kinds := [], alts := [], laidByText := true, laidKinds := [.data, .data, .data, .sentinel, .sentinel], laidTests := true, laidLooks := .later }
def CalcTextsUptoCardSaid : Prop := Claim7.holds Tryd.pinned (.plain (OpenSpec.upto calcTextsSpec)) calcTextsUptoCard

/-- THE SECOND FORM's CARD OF 'pavanelaw03.CalcBack'. -/
def calcBackUptoCard : Claim7 := { stood := { row := calcBackUptoRow, standIns := [], harness := (true, "fc0c6b86722760177f18f436d46e398f54b7d47f00e02df77626c8adaf55e975"), looks := true }, kinds := [], alts := [], laidByText := true, laidKinds := [.data, .data, .data, .sentinel, .sentinel], laidTests := true, laidLooks := .later }
def CalcBackUptoCardSaid : Prop := Claim7.holds Tryd.pinned (.plain (OpenSpec.upto calcBackSpec)) calcBackUptoCard
end Rows
end Go.Proofs.YtboigomnjfflhaaDoor
