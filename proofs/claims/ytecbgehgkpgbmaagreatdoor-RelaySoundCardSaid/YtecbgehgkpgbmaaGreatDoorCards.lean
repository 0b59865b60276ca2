/-
  DERIVED. GIVEN WITH THE SEED: THE CARDS: each row of YtecbgehgkpgbmaaGreatDoorRows.lean that lists a variable, with what it lists TIED to the program's text (the seventh form; the later family's looks); each row that meets fmt, with fmt's text TOLD by the authors' own Lean function (tested against real Go, not proved from fmt's source: count such statements apart). THE CARD IS WHAT COUNTS. Prove the row's statement (the work); the ties are given (YtecbgehgkpgbmaaGreatDoorTie.lean); close each card by the builder's one call (the guide's Derived/Test/ToyasCard.lean, 'card_holds'). Laid BY PROGRAM, IN A SANDBOX (cutbox-door.mjs). By AI agents, Wed Nov 11 2026. No macro, syntax, notation, axiom, sorry.
-/
import Derived.Test.YtecbgehgkpgbmaaGreatDoorRows
import GoSem.ClaimSeven
namespace Go.Proofs.YtecbgehgkpgbmaaGreatDoor
namespace Rows

/-- THE TIED CARD OF 'stopwatchlaw32.RelayOrder'. -/
def relayOrderCard : Claim7 := { stood := { row := relayOrderRow, standIns := [], harness := (true, "c7eda499b1e56a8b5b3af4e2d9a9772ef801ad781e908b2bee3dd112ac687c39"), looks := true }, kinds := [], alts := [], laidByText := true, laidKinds := [.data, .data, .data, .data, .data, .data, .data, .data, .data, .data, .data], laidTests := true, laidLooks := .later }
def RelayOrderCardSaid : Prop := Claim7.holds Tryz.pinned (.plain (OpenSpec.ofChange relayOrderSpec)) relayOrderCard

/-- THE TIED CARD OF 'stopwatchlaw32.RelaySound'. -/
def relaySoundCard : Claim7 := { stood := { row := relaySoundRow, standIns := [], harness := (true, "c7eda499b1e56a8b5b3af4e2d9a9772ef801ad781e908b2bee3dd112ac687c39"), looks := true }, kinds := [], alts := [], laidByText := true, laidKinds := [.data, .data, .data, .data, .data, .data, .data, .data, .data, .data, .data], laidTests := true, laidLooks := .later }
def RelaySoundCardSaid : Prop := Claim7.holds Tryz.pinned (.plain (OpenSpec.ofChange relaySoundSpec)) relaySoundCard

/-- THE SECOND FORM's CARD OF 'stopwatchlaw32.RelayOrder'. -/
def relayOrderUptoCard : Claim7 := { stood := { row := relayOrderUptoRow, standIns := [], harness := (true, "c7eda499b1e56a8b5b3af4e2d9a9772ef801ad781e908b2bee3dd112ac687c39"), looks := true }, kinds := [], alts := [], laidByText := true, laidKinds := [.data, .data, .data, .data, .data, .data, .data, .data, .data, .data, .data], laidTests := true, laidLooks := .later }
def RelayOrderUptoCardSaid : Prop := Claim7.holds Tryz.pinned (.plain (OpenSpec.upto relayOrderSpec)) relayOrderUptoCard

/-- THE SECOND FORM's CARD OF 'stopwatchlaw32.RelaySound'. -/
def relaySoundUptoCard : Claim7 := { stood := { row := relaySoundUptoRow, standIns := [], harness := (true, "c7eda499b1e56a8b5b3af4e2d9a9772ef801ad781e908b2bee3dd112ac687c39"), looks := true }, kinds := [], alts := [], laidByText := true, laidKinds := [.data, .data, .data, .data, .data, .data, .data, .data, .data, .data, .data], laidTests := true, laidLooks := .later }
def RelaySoundUptoCardSaid : Prop := Claim7.holds Tryz.pinned (.plain (OpenSpec.upto relaySoundSpec)) relaySoundUptoCard
end Rows
end Go.Proofs.YtecbgehgkpgbmaaGreatDoor
