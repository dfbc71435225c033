/-
  DERIVED. GIVEN WITH THE SEED: THE CARDS: each row of YtgeofijddhflaaaGreatDoorRows.lean that lists a variable, with what it lists TIED to the program's text (the seventh form; the later family's looks); each row that meets fmt, with fmt's text TOLD by the authors' own Lean function (tested against real Go, not proved from fmt's source: count such statements apart). THE CARD IS WHAT COUNTS. Prove the row's statement (the work); the ties are given (YtgeofijddhflaaaGreatDoorTie.lean); close each card by the builder's one call (the guide's Derived/Test/ToyasCard.lean, 'card_holds'). Laid BY PROGRAM, IN A SANDBOX (cutbox-door.mjs). By AI agents, Wed Nov 11 2026. No macro, syntax, notation, axiom, sorry.
-/
import Derived.Test.YtgeofijddhflaaaGreatDoorRows
import GoSem.ClaimSeven
namespace Go.Proofs.YtgeofijddhflaaaGreatDoor
namespace Rows

/-- THE TIED CARD OF 'pavanelaw22.JournalOpens'. -/
def journalOpensCard : Claim7 := { stood := { row := journalOpensRow, standIns := [], harness := (true, "f32df182ff8fdf14657f1a6c872bb6475a291bb3711ecbc932fbcfeea79fb355"), looks := true }, kinds := [], alts := [], laidByText := true, laidKinds := [.data, .data, .data, .sentinel, .sentinel], laidTests := true, laidLooks := .later }
def JournalOpensCardSaid : Prop := Claim7.holds Tryz.pinned (.plain (OpenSpec.ofChange journalOpensSpec)) journalOpensCard

/-- THE TIED CARD OF 'pavanelaw22.JournalLasts'. -/
def journalLastsCard : Claim7 := { stood := { row := journalLastsRow, standIns := [], harness := (true, "f32df182ff8fdf14657f1a6c872bb6475a291bb3711ecbc932fbcfeea79fb355"), looks := true }, kinds := [], alts := [], laidByText := true, laidKinds := [.data, .data, .data, .sentinel, .sentinel], laidTests := true, laidLooks := .later }
def JournalLastsCardSaid : Prop := Claim7.holds Tryz.pinned (.plain (OpenSpec.ofChange journalLastsSpec)) journalLastsCard

/-- THE TIED CARD OF 'pavanelaw22.JournalRooms'. -/
def journalRoomsCard : Claim7 := { stood := { row := journalRoomsRow, standIns := [], harness := (true, "f32df182ff8fdf14657f1a6c872bb6475a291bb3711ecbc932fbcfeea79fb355"), looks := true }, kinds := [], alts := [], laidByText := true, laidKinds := [.data, .data, .data, .sentinel, .sentinel], laidTests := true, laidLooks := .later }
def JournalRoomsCardSaid : Prop := Claim7.holds Tryz.pinned (.plain (OpenSpec.ofChange journalRoomsSpec)) journalRoomsCard

/-- THE TIED CARD OF 'pavanelaw22.JournalPlays'. -/
def journalPlaysCard : Claim7 := { stood := { row := journalPlaysRow, standIns := [], harness := (true, "f32df182ff8fdf14657f1a6c872bb6475a291bb3711ecbc932fbcfeea79fb355"), looks := true }, kinds := [], alts := [], laidByText := true, laidKinds := [.data, .data, .data, .sentinel, .sentinel], laidTests := true, laidLooks := .later }
def JournalPlaysCardSaid : Prop := Claim7.holds Tryz.pinned (.plain (OpenSpec.ofChange journalPlaysSpec)) journalPlaysCard

/-- THE SECOND FORM's CARD OF 'pavanelaw22.JournalOpens'. -/
def journalOpensUptoCard : Claim7 := { stood := { row := journalOpensUptoRow, standIns := [], harness := (true, "f32df182ff8fdf14657f1a6c872bb6475a291bb3711ecbc932fbcfeea79fb355"), looks := true }, kinds := [], alts := [], laidByText := true, laidKinds := [.data, .data, .data, .sentinel, .sentinel], laidTests := true, laidLooks := .later }
def JournalOpensUptoCardSaid : Prop := Claim7.holds Tryz.pinned (.plain (OpenSpec.upto journalOpensSpec)) journalOpensUptoCard

/-- THE SECOND FORM's CARD OF 'pavanelaw22.JournalLasts'. -/
def journalLastsUptoCard : Claim7 := { stood := { row := journalLastsUptoRow, standIns := [], harness := (true, "f32df182ff8fdf14657f1a6c872bb6475a291bb3711ecbc932fbcfeea79fb355"), looks := true }, kinds := [], alts := [], laidByText := true, laidKinds := [.data, .data, .data, .sentinel, .sentinel], laidTests := true, laidLooks := .later }
def JournalLastsUptoCardSaid : Prop := Claim7.holds Tryz.pinned (.plain (OpenSpec.upto journalLastsSpec)) journalLastsUptoCard

/-- THE SECOND FORM's CARD OF 'pavanelaw22.JournalRooms'. -/
def journalRoomsUptoCard : Claim7 := { stood := { row := journalRoomsUptoRow, standIns := [], harness := (true, "f32df182ff8fdf14657f1a6c872bb6475a291bb3711ecbc932fbcfeea79fb355"), looks := true }, kinds := [], alts := [], laidByText := true, laidKinds := [.data, .data, .data, .sentinel, .sentinel], laidTests := true, laidLooks := .later }
def JournalRoomsUptoCardSaid : Prop := Claim7.holds Tryz.pinned (.plain (OpenSpec.upto journalRoomsSpec)) journalRoomsUptoCard

/-- THE SECOND FORM's CARD OF 'pavanelaw22.JournalPlays'. -/
def journalPlaysUptoCard : Claim7 := { stood := { row := journalPlaysUptoRow, standIns := [], harness := (true, "f32df182ff8fdf14657f1a6c872bb6475a291bb3711ecbc932fbcfeea79fb355"), looks := true }, kinds := [], alts := [], laidByText := true, laidKinds := [.data, .data, .data, .sentinel, .sentinel], laidTests := true, laidLooks := .later }
def JournalPlaysUptoCardSaid : Prop := Claim7.holds Tryz.pinned (.plain (OpenSpec.upto journalPlaysSpec)) journalPlaysUptoCard
end Rows
end Go.Proofs.YtgeofijddhflaaaGreatDoor
