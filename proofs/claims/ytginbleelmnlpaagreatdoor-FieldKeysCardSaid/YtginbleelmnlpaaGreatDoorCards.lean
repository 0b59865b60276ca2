/-
  DERIVED. GIVEN WITH THE SEED: THE CARDS: each row of YtginbleelmnlpaaGreatDoorRows.lean that lists a variable, with what it lists TIED to the program's text (the seventh form; the later family's looks); each row that meets fmt, with fmt's text TOLD by the authors' own Lean function (tested against real Go, not proved from fmt's source: count such statements apart). THE CARD IS WHAT COUNTS. Prove the row's statement (the work); the ties are given (YtginbleelmnlpaaGreatDoorTie.lean); close each card by the builder's one call (the guide's Derived/Test/ToyasCard.lean, 'card_holds'). Laid BY PROGRAM, IN A SANDBOX (cutbox-door.mjs). By AI agents, Wed Nov 11 2026. No macro, syntax, notation, axiom, sorry.
-/
import Derived.Test.YtginbleelmnlpaaGreatDoorRows
import GoSem.ClaimSeven
namespace Go.Proofs.YtginbleelmnlpaaGreatDoor
namespace Rows

/-- THE TIED CARD OF 'stopwatchlaw24.FieldKeys'. -/
def fieldKeysCard : Claim7 := { stood := { row := fieldKeysRow, standIns := [], harness := (true, "dc501607843f2f9f2002e196650b715d44d70f81b39c308469b199601f21f2b2"), looks := true }, kinds := [], alts := [], laidByText := true, laidKinds := [.data, .data, .data, .data, .data, .data, .data, .data, .data, .data, .data], laidTests := true, laidLooks := .later }
def FieldKeysCardSaid : Prop := Claim7.holds Tryz.pinned (.plain (OpenSpec.ofChange fieldKeysSpec)) fieldKeysCard

/-- THE SECOND FORM's CARD OF 'stopwatchlaw24.FieldKeys'. -/
def fieldKeysUptoCard : Claim7 := { stood := { row := fieldKeysUptoRow, standIns := [], harness := (true, "dc501607843f2f9f2002e196650b715d44d70f81b39c308469b199601f21f2b2"), looks := true }, kinds := [], alts := [], laidByText := true, laidKinds := [.data, .data, .data, .data, .data, .data, .data, .data, .data, .data, .data], laidTests := true, laidLooks := .later }
def FieldKeysUptoCardSaid : Prop := Claim7.holds Tryz.pinned (.plain (OpenSpec.upto fieldKeysSpec)) fieldKeysUptoCard
end Rows
end Go.Proofs.YtginbleelmnlpaaGreatDoor
