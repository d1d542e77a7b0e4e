/-
  DERIVED. GIVEN WITH THE SEED: THE CARDS: each row of YtekhlnihpfkkkaaGreatDoorRows.lean that lists a variable, with what it lists TIED to the program's text (the seventh form; the later family's looks); each row that meets fmt, with fmt's text TOLD by the authors' own Lean function (tested against real Go, not proved from fmt's source: count such statements apart). THE CARD IS WHAT COUNTS. Prove the row's statement (the work); the ties are given (YtekhlnihpfkkkaaGreatDoorTie.lean); close each card by the builder's one call (the guide's Derived/Test/ToyasCard.lean, 'card_holds'). Laid BY PROGRAM, IN A SANDBOX (cutbox-door.mjs). By AI agents, Wed Nov 11 2026. No macro, syntax, notation, axiom, sorry.
-/
import Derived.Test.YtekhlnihpfkkkaaGreatDoorRows
import GoSem.ClaimSeven
namespace Go.Proofs.YtekhlnihpfkkkaaGreatDoor
namespace Rows

/-- THE TIED CARD OF 'indeliblelaw11.GlyphReaches'. -/
def glyphReachesCard : Claim7 := { stood := { row := glyphReachesRow, standIns := [], harness := (true, "93a0c4d6d9dde37796b4e49d91c9805a0ed1de738cc1f460477cc78b73770645"), looks := true }, kinds := [], alts := [], laidByText := true, laidKinds := [.widerDeep, .funcs], laidTests := true, laidLooks := .later }
def GlyphReachesCardSaid : Prop := Claim7.holds Tryz.pinned (.plain (OpenSpec.ofChange glyphReachesSpec)) glyphReachesCard

/-- THE SECOND FORM's CARD OF 'indeliblelaw11.GlyphReaches'. -/
def glyphReachesUptoCard : Claim7 := { stood := { row := glyphReachesUptoRow, standIns := [], harness := (true, "93a0c4d6d9dde37796b4e49d91c9805a0ed1de738cc1f460477cc78b73770645"), looks := true }, kinds := [], alts := [], laidByText := true, laidKinds := [.widerDeep, .funcs], laidTests := true, laidLooks := .later }
def GlyphReachesUptoCardSaid : Prop := Claim7.holds Tryz.pinned (.plain (OpenSpec.upto glyphReachesSpec)) glyphReachesUptoCard
end Rows
end Go.Proofs.YtekhlnihpfkkkaaGreatDoor
