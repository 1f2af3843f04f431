/-
  DERIVED. GIVEN WITH THE SEED: THE CARDS: each row of YtoanmoddppmffaaGreatDoorRows.lean that lists a variable, with what it lists TIED to the program's text (the seventh form; the later family's looks); each row that meets fmt, with fmt's text TOLD by the authors' own Lean function (tested against real Go, not proved from fmt's source: count such statements apart). THE CARD IS WHAT COUNTS. Prove the row's statement (the work); the ties are given (YtoanmoddppmffaaGreatDoorTie.lean); close each card by the builder's one call (the guide's Derived/Test/ToyasCard.lean, 'card_holds'). Laid BY PROGRAM, IN A SANDBOX (cutbox-door.mjs). By AI agents, Wed Nov 11 2026. No macro, syntax, notation, axiom, sorry.
-/
import Derived.Test.YtoanmoddppmffaaGreatDoorRows
import GoSem.ClaimSeven
namespace Go.Proofs.YtoanmoddppmffaaGreatDoor
namespace Rows

/-- THE TIED CARD OF 'topiarylaw19.QueryWrites'. -/
def queryWritesCard : Claim7 := { stood := { row := queryWritesRow, standIns := [], harness := (true, "610d4a16726e2d648ea080fa7ffddb156f3b5e2d64167e4cfc124a9bc38ac695"), looks := true }, kinds := [], alts := [], laidByText := true, laidKinds := [.data, .data, .data, .data, .sentinel, .sentinel, .pinned], laidTests := true, laidLooks := .later }
def QueryWritesCardSaid : Prop := Claim7.holds Tryz.pinned (.plain (OpenSpec.ofChange queryWritesSpec)) queryWritesCard

/-- THE TIED CARD OF 'topiarylaw19.QueryBack'. -/
def queryBackCard : Claim7 := { stood := { row := queryBackRow, standIns := [], harness := (true, "610d4a16726e2d648ea080fa7ffddb156f3b5e2d64167e4cfc124a9bc38ac695"), looks := true }, kinds := [], alts := [], laidByText := true, laidKinds := [.data, .data, .data, .data, .sentinel, .sentinel, .pinned], laidTests := true, laidLooks := .later }
def QueryBackCardSaid : Prop := Claim7.holds Tryz.pinned (.plain (OpenSpec.ofChange queryBackSpec)) queryBackCard

/-- THE TIED CARD OF 'topiarylaw19.QuerySpaces'. -/
def querySpacesCard : Claim7 := { stood := { row := querySpacesRow, standIns := [], harness := (true, "610d4a16726e2d648ea080fa7ffddb156f3b5e2d64167e4cfc124a9bc38ac695"), looks := true }, kinds := [], alts := [], laidByText := true, laidKinds := [.data, .data, .data, .data, .sentinel, .sentinel, .pinned], laidTests := true, laidLooks := .later }
def QuerySpacesCardSaid : Prop := Claim7.holds Tryz.pinned (.plain (OpenSpec.ofChange querySpacesSpec)) querySpacesCard

/-- THE SECOND FORM's CARD OF 'topiarylaw19.QueryWrites'. -/
def queryWritesUptoCard : Claim7 := { stood := { row := queryWritesUptoRow, standIns := [], harness := (true, "610d4a16726e2d648ea080fa7ffddb156f3b5e2d64167e4cfc124a9bc38ac695"), looks := true }, kinds := [], alts := [], laidByText := true, laidKinds := [.data, .data, .data, .data, .sentinel, .sentinel, .pinned], laidTests := true, laidLooks := .later }
def QueryWritesUptoCardSaid : Prop := Claim7.holds Tryz.pinned (.plain (OpenSpec.upto queryWritesSpec)) queryWritesUptoCard

/-- THE SECOND FORM's CARD OF 'topiarylaw19.QueryBack'. -/
def queryBackUptoCard : Claim7 := { stood := { row := queryBackUptoRow, standIns := [], harness := (true, "610d4a16726e2d648ea080fa7ffddb156f3b5e2d64167e4cfc124a9bc38ac695"), looks := true }, kinds := [], alts := [], laidByText := true, laidKinds := [.data, .data, .data, .data, .sentinel, .sentinel, .pinned], laidTests := true, laidLooks := .later }
def QueryBackUptoCardSaid : Prop := Claim7.holds Tryz.pinned (.plain (OpenSpec.upto queryBackSpec)) queryBackUptoCard

/-- THE SECOND FORM's CARD OF 'topiarylaw19.QuerySpaces'. -/
def querySpacesUptoCard : Claim7 := { stood := { row := querySpacesUptoRow, standIns := [], harness := (true, "610d4a16726e2d648ea080fa7ffddb156f3b5e2d64167e4cfc124a9bc38ac695"), looks := true }, kinds := [], alts := [], laidByText := true, laidKinds := [.data, .data, .data, .data, .sentinel, .sentinel, .pinned], laidTests := true, laidLooks := .later }
def QuerySpacesUptoCardSaid : Prop := Claim7.holds Tryz.pinned (.plain (OpenSpec.upto querySpacesSpec)) querySpacesUptoCard
end Rows
end Go.Proofs.YtoanmoddppmffaaGreatDoor
