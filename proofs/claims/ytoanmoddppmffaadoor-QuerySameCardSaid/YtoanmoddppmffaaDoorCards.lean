/-
  DERIVED. GIVEN WITH THE SEED: THE CARDS: each row of YtoanmoddppmffaaDoorRows.lean that lists a variable, with what it lists TIED to the program's text (the seventh form; the later family's looks); each row that meets fmt, with fmt's text TOLD by the authors' own Lean function (tested against real Go, not proved from fmt's source: count such statements apart). THE CARD IS WHAT COUNTS. Prove the row's statement (the work); the ties are given (YtoanmoddppmffaaDoorTie.lean); close each card by the builder's one call (the guide's Derived/Test/ToyasCard.lean, 'card_holds'). Laid BY PROGRAM, IN A SANDBOX (cutbox-door.mjs). By AI agents, Wed Nov 11 2026. No macro, syntax, notation, axiom, sorry.
-/
import Derived.Test.YtoanmoddppmffaaDoorRows
import GoSem.ClaimSeven
namespace Go.Proofs.YtoanmoddppmffaaDoor
namespace Rows

/-- THE TIED CARD OF 'topiarylaw19.QueryReads'. -/
def queryReadsCard : Claim7 := { stood := { row := queryReadsRow, standIns := [], harness := (true, "de6e7573f3c691ea85ad8dab1a86cc0dbab3b4eff038a548b7c5d577683216b6"), looks := true }, kinds := [], alts := [], laidByText := true, laidKinds := [.data, .data, .data, .data, .sentinel, .sentinel, .pinned], laidTests := true, laidLooks := .later }
def QueryReadsCardSaid : Prop := Claim7.holds Tryd.pinned (.plain (OpenSpec.ofChange queryReadsSpec)) queryReadsCard

/-- THE TIED CARD OF 'topiarylaw19.QueryJoins'. -/
def queryJoinsCard : Claim7 := { stood := { row := queryJoinsRow, standIns := [], harness := (true, "de6e7573f3c691ea85ad8dab1a86cc0dbab3b4eff038a548b7c5d577683216b6"), looks := true }, kinds := [], alts := [], laidByText := true, laidKinds := [.data, .data, .data, .data, .sentinel, .sentinel, .pinned], laidTests := true, laidLooks := .later }
def QueryJoinsCardSaid : Prop := Claim7.holds Tryd.pinned (.plain (OpenSpec.ofChange queryJoinsSpec)) queryJoinsCard

/-- THE TIED CARD OF 'topiarylaw19.QuerySame'. -/
def querySameCard : Claim7 := { stood := { row := querySameRow, standIns := [], harness := (true, "de6e7573f3c691ea85ad8dab1a86cc0dbab3b4eff038a548b7c5d577683216b6"), looks := true }, kinds := [], alts := [], laidByText := true, laidKinds := [.data, .data, .data, .data, .sentinel, .sentinel, .pinned], laidTests := true, laidLooks := .later }
def QuerySameCardSaid : Prop := Claim7.holds Tryd.pinned (.plain (OpenSpec.ofChange querySameSpec)) querySameCard

/-- THE SECOND FORM's CARD OF 'topiarylaw19.QueryReads'. -/
def queryReadsUptoCard : Claim7 := { stood := { row := queryReadsUptoRow, standIns := [], harness := (true, "de6e7573f3c691ea85ad8dab1a86cc0dbab3b4eff038a548b7c5d577683216b6"), looks := true }, kinds := [], alts := [], laidByText := true, laidKinds := [.data, .data, .data, .data, .sentinel, .sentinel, .pinned], laidTests := true, laidLooks := .later }
def QueryReadsUptoCardSaid : Prop := Claim7.holds Tryd.pinned (.plain (OpenSpec.upto queryReadsSpec)) queryReadsUptoCard

/-- THE SECOND FORM's CARD OF 'topiarylaw19.QueryJoins'. -/
def queryJoinsUptoCard : Claim7 := { stood := { row := queryJoinsUptoRow, standIns := [], harness := (true, "de6e7573f3c691ea85ad8dab1a86cc0dbab3b4eff038a548b7c5d577683216b6"), looks := true }, kinds := [], alts := [], laidByText := true, laidKinds := [.data, .data, .data, .data, .sentinel, .sentinel, .pinned], laidTests := true, laidLooks := .later }
def QueryJoinsUptoCardSaid : Prop := Claim7.holds Tryd.pinned (.plain (OpenSpec.upto queryJoinsSpec)) queryJoinsUptoCard

/-- THE SECOND FORM's CARD OF 'topiarylaw19.QuerySame'. -/
def querySameUptoCard : Claim7 := { stood := { row := querySameUptoRow, standIns := [], harness := (true, "de6e7573f3c691ea85ad8dab1a86cc0dbab3b4eff038a548b7c5d577683216b6"), looks := true }, kinds := [], alts := [], laidByText := true, laidKinds := [.data, .data, .data, .data, .sentinel, .sentinel, .pinned], laidTests := true, laidLooks := .later }
def QuerySameUptoCardSaid : Prop := Claim7.holds Tryd.pinned (.plain (OpenSpec.upto querySameSpec)) querySameUptoCard
end Rows
end Go.Proofs.YtoanmoddppmffaaDoor
