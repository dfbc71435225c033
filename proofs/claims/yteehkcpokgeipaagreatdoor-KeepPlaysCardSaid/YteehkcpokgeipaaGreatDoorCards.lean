/-
  DERIVED. GIVEN WITH THE SEED: THE CARDS: each row of YteehkcpokgeipaaGreatDoorRows.lean that lists a variable, with what it lists TIED to the program's text (the seventh form; the later family's looks); each row that meets fmt, with fmt's text TOLD by the authors' own Lean function (tested against real Go, not proved from fmt's source: count such statements apart). THE CARD IS WHAT COUNTS. Prove the row's statement (the work); the ties are given (YteehkcpokgeipaaGreatDoorTie.lean); close each card by the builder's one call (the guide's Derived/Test/ToyasCard.lean, 'card_holds'). Laid BY PROGRAM, IN A SANDBOX (cutbox-door.mjs). By AI agents, Wed Nov 11 2026. No macro, syntax, notation, axiom, sorry.
-/
import Derived.Test.YteehkcpokgeipaaGreatDoorRows
import GoSem.ClaimSeven
namespace Go.Proofs.YteehkcpokgeipaaGreatDoor
namespace Rows

/-- THE TIED CARD OF 'pavanelaw23.KeepTwo'. -/
def keepTwoCard : Claim7 := { stood := { row := keepTwoRow, standIns := [], harness := (true, "48d4a486ca8c04495270ebcd091451afe823c4b0496f7cb65085f0ffd3ebda8c"), looks := true }, kinds := [], alts := [], laidByText := true, laidKinds := [.data, .data, .data, .sentinel, .sentinel], laidTests := true, laidLooks := .later }
def KeepTwoCardSaid : Prop := Claim7.holds Tryz.pinned (.plain (OpenSpec.ofChange keepTwoSpec)) keepTwoCard

/-- THE TIED CARD OF 'pavanelaw23.KeepPlays'. -/
def keepPlaysCard : Claim7 := { stood := { row := keepPlaysRow, standIns := [], harness := (true, "48d4a486ca8c04495270ebcd091451afe823c4b0496f7cb65085f0ffd3ebda8c"), looks := true }, kinds := [], alts := [], laidByText := true, laidKinds := [.data, .data, .data, .sentinel, .sentinel], laidTests := true, laidLooks := .later }
def KeepPlaysCardSaid : Prop := Claim7.holds Tryz.pinned (.plain (OpenSpec.ofChange keepPlaysSpec)) keepPlaysCard

/-- THE SECOND FORM's CARD OF 'pavanelaw23.KeepTwo'. -/
def keepTwoUptoCard : Claim7 := { stood := { row := keepTwoUptoRow, standIns := [], harness := (true, "48d4a486ca8c04495270ebcd091451afe823c4b0496f7cb65085f0ffd3ebda8c"), looks := true }, kinds := [], alts := [], laidByText := true, laidKinds := [.data, .data, .data, .sentinel, .sentinel], laidTests := true, laidLooks := .later }
def KeepTwoUptoCardSaid : Prop := Claim7.holds Tryz.pinned (.plain (OpenSpec.upto keepTwoSpec)) keepTwoUptoCard

/-- THE SECOND FORM's CARD OF 'pavanelaw23.KeepPlays'. -/
def keepPlaysUptoCard : Claim7 := { stood := { row := keepPlaysUptoRow, standIns := [], harness := (true, "48d4a486ca8c04495270ebcd091451afe823c4b0496f7cb65085f0ffd3ebda8c"), looks := true }, kinds := [], alts := [], laidByText := true, laidKinds := [.data, .data, .data, .sentinel, .sentinel], laidTests := true, laidLooks := .later }
def KeepPlaysUptoCardSaid : Prop := Claim7.holds Tryz.pinned (.plain (OpenSpec.upto keepPlaysSpec)) keepPlaysUptoCard
end Rows
end Go.Proofs.YteehkcpokgeipaaGreatDoor
