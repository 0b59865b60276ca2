/-
  DERIVED. GIVEN WITH THE SEED: THE CARDS: each row of YtnedhhillonniaaGreatDoorRows.lean that lists a variable, with what it lists TIED to the program's text (the seventh form; the later family's looks); each row that meets fmt, with fmt's text TOLD by the authors' own Lean function (tested against real Go, not proved from fmt's source: count such statements apart). THE CARD IS WHAT COUNTS. Prove the row's statement (the work); the ties are given (YtnedhhillonniaaGreatDoorTie.lean); close each card by the builder's one call (the guide's Derived/Test/ToyasCard.lean, 'card_holds'). Laid BY PROGRAM, IN A SANDBOX (cutbox-door.mjs). By AI agents, Wed Nov 11 2026. No macro, syntax, notation, axiom, sorry.
-/
import Derived.Test.YtnedhhillonniaaGreatDoorRows
import GoSem.ClaimSeven
namespace Go.Proofs.YtnedhhillonniaaGreatDoor
namespace Rows

/-- THE TIED CARD OF 'stopwatchlaw24.FieldKeysSpec'. -/
def fieldKeysSpecCard : Claim7 := { stood := { row := fieldKeysSpecRow, standIns := [], harness := (true, "7ccb8cbcff6415841f57a838d5969a49e97f77be86376166baacbe968050db93"), looks := true }, kinds := [], alts := [], laidByText := true, laidKinds := [.data, .data, .data, .data, .data, .data, .data, .data, .data, .data, .data], laidTests := true, laidLooks := .later }
def FieldKeysSpecCardSaid : Prop := Claim7.holds Tryz.pinned (.plain (OpenSpec.ofChange fieldKeysSpecSpec)) fieldKeysSpecCard

/-- THE SECOND FORM's CARD OF 'stopwatchlaw24.FieldKeysSpec'. -/
def fieldKeysSpecUptoCard : Claim7 := { stood := { row := fieldKeysSpecUptoRow, standIns := [], harness := (true, "7ccb8cbcff6415841f57a838d5969a49e97f77be86376166baacbe968050db93"), looks := true }, kinds := [], alts := [], laidByText := true, laidKinds := [.data, .data, .data, .data, .data, .data, .data, .data, .data, .data, .data], laidTests := true, laidLooks := .later }
def FieldKeysSpecUptoCardSaid : Prop := Claim7.holds Tryz.pinned (.plain (OpenSpec.upto fieldKeysSpecSpec)) fieldKeysSpecUptoCard
end Rows
end Go.Proofs.YtnedhhillonniaaGreatDoor
