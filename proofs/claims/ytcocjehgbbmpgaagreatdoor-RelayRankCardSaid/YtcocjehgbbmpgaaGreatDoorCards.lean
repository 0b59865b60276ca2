/-
  DERIVED. GIVEN WITH THE SEED: THE CARDS: each row of YtcocjehgbbmpgaaGreatDoorRows.lean that lists a variable, with what it lists TIED to the program's text (the seventh form; the later family's looks); each row that meets fmt, with fmt's text TOLD by the authors' own Lean function (tested against real Go, not proved from fmt's source: count such statements apart). THE CARD IS WHAT COUNTS. Prove the row's statement (the work); the ties are given (YtcocjehgbbmpgaaGreatDoorTie.lean); close each card by the builder's one call (the guide's Derived/Test/ToyasCard.lean, 'card_holds'). Laid BY PROGRAM, IN A SANDBOX (cutbox-door.mjs). By AI agents, Wed Nov 11 2026. No macro, syntax, notation, axiom, sorry.
-/
import Derived.Test.YtcocjehgbbmpgaaGreatDoorRows
import GoSem.ClaimSeven
namespace Go.Proofs.YtcocjehgbbmpgaaGreatDoor
namespace Rows

/-- THE TIED CARD OF 'stopwatchlaw32.RelayRank'. -/
def relayRankCard : Claim7 := { stood := { row := relayRankRow, standIns := [], harness := (true, "86c563430b3e86605da0503559c29f276b5a37e3d5177b65aadbe11fd108ef8a"), looks := true }, kinds := [], alts := [], laidByText := true, laidKinds := [.data, .data, .data, .data, .data, .data, .data, .data, .data, .data, .data], laidTests := true, laidLooks := .later }
def RelayRankCardSaid : Prop := Claim7.holds Tryz.pinned (.plain (OpenSpec.ofChange relayRankSpec)) relayRankCard

/-- THE SECOND FORM's CARD OF 'stopwatchlaw32.RelayRank'. -/
def relayRankUptoCard : Claim7 := { stood := { row := relayRankUptoRow, standIns := [], harness := (true, "86c563430b3e86605da0503559c29f276b5a37e3d5177b65aadbe11fd108ef8a"), looks := true }, kinds := [], alts := [], laidByText := true, laidKinds := [.data, .data, .data, .data, .data, .data, .data, .data, .data, .data, .data], laidTests := true, laidLooks := .later }
def RelayRankUptoCardSaid : Prop := Claim7.holds Tryz.pinned (.plain (OpenSpec.upto relayRankSpec)) relayRankUptoCard
end Rows
end Go.Proofs.YtcocjehgbbmpgaaGreatDoor
