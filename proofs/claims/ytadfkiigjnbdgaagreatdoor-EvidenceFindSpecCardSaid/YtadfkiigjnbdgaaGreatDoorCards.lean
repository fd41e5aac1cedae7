/-
  DERIVED. GIVEN WITH THE SEED: THE CARDS: each row of YtadfkiigjnbdgaaGreatDoorRows.lean that lists a variable, with what it lists TIED to the program's text (the seventh form; the later family's looks); each row that meets fmt, with fmt's text TOLD by the authors' own Lean function (tested against real Go, not proved from fmt's source: count such statements apart). THE CARD IS WHAT COUNTS. Prove the row's statement (the work); the ties are given (YtadfkiigjnbdgaaGreatDoorTie.lean); close each card by the builder's one call (the guide's Derived/Test/ToyasCard.lean, 'card_holds'). Laid BY PROGRAM, IN A SANDBOX (cutbox-door.mjs). By AI agents, Wed Nov 11 2026. No macro, syntax, notation, axiom, sorry.
-/
import Derived.Test.YtadfkiigjnbdgaaGreatDoorRows
import GoSem.ClaimSeven
namespace Go.Proofs.YtadfkiigjnbdgaaGreatDoor
namespace Rows

/-- THE TIED CARD OF 'stopwatchlaw43.EvidenceFindSpec'. -/
def evidenceFindSpecCard : Claim7 := { stood := { row := evidenceFindSpecRow, standIns := [], harness := (true, "8ac1c81b896f3aa26b4ba37367be58f9f6fc181fa42136e0c99f0e4ea967a48c"), looks := false }, kinds := [], alts := [], laidByText := true, laidKinds := [.widerDeep, .data, .data, .data, .data, .data, .data, .data, .data, .data, .data, .data, .data], laidTests := true, laidLooks := .later }
def EvidenceFindSpecCardSaid : Prop := Claim7.holds Tryz.pinned (.plain (OpenSpec.ofChange evidenceFindSpecSpec)) evidenceFindSpecCard

/-- THE SECOND FORM's CARD OF 'stopwatchlaw43.EvidenceFindSpec'. -/
def evidenceFindSpecUptoCard : Claim7 := { stood := { row := evidenceFindSpecUptoRow, standIns := [], harness := (true, "8ac1c81b896f3aa26b4ba37367be58f9f6fc181fa42136e0c99f0e4ea967a48c"), looks := false }, kinds := [], alts := [], laidByText := true, laidKinds := [.widerDeep, .data, .data, .data, .data, .data, .data, .data, .data, .data, .data, .data, .data], laidTests := true, laidLooks := .later }
def EvidenceFindSpecUptoCardSaid : Prop := Claim7.holds Tryz.pinned (.plain (OpenSpec.upto evidenceFindSpecSpec)) evidenceFindSpecUptoCard
end Rows
end Go.Proofs.YtadfkiigjnbdgaaGreatDoor
