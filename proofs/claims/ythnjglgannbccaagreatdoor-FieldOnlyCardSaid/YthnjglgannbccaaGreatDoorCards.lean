/-
  DERIVED. GIVEN WITH THE SEED: THE CARDS: each row of YthnjglgannbccaaGreatDoorRows.lean that lists a variable, with what it lists TIED to the program's text (the seventh form; the later family's looks); each row that meets fmt, with fmt's text TOLD by the authors' own Lean function (tested against real Go, not proved from fmt's source: count such statements apart). THE CARD IS WHAT COUNTS. Prove the row's statement (the work); the ties are given (YthnjglgannbccaaGreatDoorTie.lean); close each card by the builder's one call (the guide's Derived/Test/ToyasCard.lean, 'card_holds'). Laid BY PROGRAM, IN A SANDBOX (cutbox-door.mjs). By AI agents, Wed Nov 11 2026. No macro, syntax, notation, axiom, sorry.
-/
import Derived.Test.YthnjglgannbccaaGreatDoorRows
import GoSem.ClaimSeven
namespace Go.Proofs.YthnjglgannbccaaGreatDoor
namespace Rows

/-- THE TIED CARD OF 'stopwatchlaw24.FieldCheckSpec'. -/
def fieldCheckSpecCard : Claim7 := { stood := { row := fieldCheckSpecRow, standIns := [], harness := (true, "da2202ae3a55ecb5019e1f3c672b06ef929baea59004dd954eed4640865b57c4"), looks := true }, kinds := [], alts := [], laidByText := true, laidKinds := [.data, .data, .data, .data, .data, .data, .data, .data, .data, .data, .data], laidTests := true, laidLooks := .later }
def FieldCheckSpecCardSaid : Prop := Claim7.holds Tryz.pinned (.plain (OpenSpec.ofChange fieldCheckSpecSpec)) fieldCheckSpecCard

/-- THE TIED CARD OF 'stopwatchlaw24.FieldOnly'. -/
def fieldOnlyCard : Claim7 := { stood := { row := fieldOnlyRow, standIns := [], harness := (true, "da2202ae3a55ecb5019e1f3c672b06ef929baea59004dd954eed4640865b57c4"), looks := true }, kinds := [], alts := [], laidByText := true, laidKinds := [.data, .data, .data, .data, .data, .data, .data, .data, .data, .data, .data], laidTests := true, laidLooks := .later }
def FieldOnlyCardSaid : Prop := Claim7.holds Tryz.pinned (.plain (OpenSpec.ofChange fieldOnlySpec)) fieldOnlyCard

/-- THE TIED CARD OF 'stopwatchlaw24.FieldKeys'. -/
def fieldKeysCard : Claim7 := { stood := { row := fieldKeysRow, standIns := [], harness := (true, "da2202ae3a55ecb5019e1f3c672b06ef929baea59004dd954eed4640865b57c4"), looks := true }, kinds := [], alts := [], laidByText := true, laidKinds := [.data, .data, .data, .data, .data, .data, .data, .data, .data, .data, .data], laidTests := true, laidLooks := .later }
def FieldKeysCardSaid : Prop := Claim7.holds Tryz.pinned (.plain (OpenSpec.ofChange fieldKeysSpec)) fieldKeysCard

/-- THE SECOND FORM's CARD OF 'stopwatchlaw24.FieldCheckSpec'. -/
def fieldCheckSpecUptoCard : Claim7 := { stood := { row := fieldCheckSpecUptoRow, standIns := [], harness := (true, "da2202ae3a55ecb5019e1f3c672b06ef929baea59004dd954eed4640865b57c4"), looks := true }, kinds := [], alts := [], laidByText := true, laidKinds := [.data, .data, .data, .data, .data, .data, .data, .data, .data, .data, .data], laidTests := true, laidLooks := .later }
def FieldCheckSpecUptoCardSaid : Prop := Claim7.holds Tryz.pinned (.plain (OpenSpec.upto fieldCheckSpecSpec)) fieldCheckSpecUptoCard

/-- THE SECOND FORM's CARD OF 'stopwatchlaw24.FieldOnly'. -/
def fieldOnlyUptoCard : Claim7 := { stood := { row := fieldOnlyUptoRow, standIns := [], harness := (true, "da2202ae3a55ecb5019e1f3c672b06ef929baea59004dd954eed4640865b57c4"), looks := true }, kinds := [], alts := [], laidByText := true, laidKinds := [.data, .data, .data, .data, .data, .data, .data, .data, .data, .data, .data], laidTests := true, laidLooks := .later }
def FieldOnlyUptoCardSaid : Prop := Claim7.holds Tryz.pinned (.plain (OpenSpec.upto fieldOnlySpec)) fieldOnlyUptoCard

/-- THE SECOND FORM's CARD OF 'stopwatchlaw24.FieldKeys'. -/
def fieldKeysUptoCard : Claim7 := { stood := { row := fieldKeysUptoRow, standIns := [], harness := (true, "da2202ae3a55ecb5019e1f3c672b06ef929baea59004dd954eed4640865b57c4"), looks := true }, kinds := [], alts := [], laidByText := true, laidKinds := [.data, .data, .data, .data, .data, .data, .data, .data, .data, .data, .data], laidTests := true, laidLooks := .later }
def FieldKeysUptoCardSaid : Prop := Claim7.holds Tryz.pinned (.plain (OpenSpec.upto fieldKeysSpec)) fieldKeysUptoCard
end Rows
end Go.Proofs.YthnjglgannbccaaGreatDoor
