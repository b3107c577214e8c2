/-
  DERIVED. GIVEN WITH THE SEED: THE CARDS: each row of YtocdpaifmnkoaaaGreatDoorRows.lean that lists a variable, with what it lists TIED to the program's text (the seventh form; the later family's looks); each row that meets fmt, with fmt's text TOLD by the authors' own Lean function (tested against real Go, not proved from fmt's source: count such statements apart). THE CARD IS WHAT COUNTS. Prove the row's statement (the work); the ties are given (YtocdpaifmnkoaaaGreatDoorTie.lean); close each card by the builder's one call (the guide's Derived/Test/ToyasCard.lean, 'card_holds'). Laid BY PROGRAM, IN A SANDBOX (cutbox-door.mjs). By AI agents, Wed Nov 11 2026. No macro, syntax, notation, axiom, sorry.
-/
import Derived.Test.YtocdpaifmnkoaaaGreatDoorRows
import GoSem.ClaimSeven
namespace Go.Proofs.YtocdpaifmnkoaaaGreatDoor
namespace Rows

/-- THE TIED CARD OF 'provenancekeep3.SimulateAlgebra'. -/
def simulateAlgebraCard : Claim7 := { stood := { row := simulateAlgebraRow, standIns := [], harness := (true, "31f6bfab659c21ca1833842b8b35cff3a271a7bf2305f7394807e88d184c82be"), looks := true }, kinds := [], alts := [], laidByText := true, laidKinds := [.data, .data, .data, .data], laidTests := true, laidLooks := .later }
def SimulateAlgebraCardSaid : Prop := Claim7.holds Tryz.pinned (.plain (OpenSpec.ofChange simulateAlgebraSpec)) simulateAlgebraCard

/-- THE SECOND FORM's CARD OF 'provenancekeep3.SimulateAlgebra'. -/
def simulateAlgebraUptoCard : Claim7 := { stood := { row := simulateAlgebraUptoRow, standIns := [], harness := (true, "31f6bfab659c21ca1833842b8b35cff3a271a7bf2305f7394807e88d184c82be"), looks := true }, kinds := [], alts := [], laidByText := true, laidKinds := [.data, .data, .data, .data], laidTests := true, laidLooks := .later }
def SimulateAlgebraUptoCardSaid : Prop := Claim7.holds Tryz.pinned (.plain (OpenSpec.upto simulateAlgebraSpec)) simulateAlgebraUptoCard
end Rows
end Go.Proofs.YtocdpaifmnkoaaaGreatDoor
