/-
  DERIVED. GIVEN WITH THE SEED: THE CARDS: each row of YtdjkbdhdejlakaaGreatDoorRows.lean that lists a variable, with what it lists TIED to the program's text (the seventh form; the later family's looks); each row that meets fmt, with fmt's text TOLD by the authors' own Lean function (tested against real Go, not proved from fmt's source: count such statements apart). THE CARD IS WHAT COUNTS. Prove the row's statement (the work); the ties are given (YtdjkbdhdejlakaaGreatDoorTie.lean); close each card by the builder's one call (the guide's Derived/Test/ToyasCard.lean, 'card_holds'). Laid BY PROGRAM, IN A SANDBOX (cutbox-door.mjs). By AI agents, Wed Nov 11 2026. No macro, syntax, notation, axiom, sorry.
-/
import Derived.Test.YtdjkbdhdejlakaaGreatDoorRows
import GoSem.ClaimSeven
namespace Go.Proofs.YtdjkbdhdejlakaaGreatDoor
namespace Rows

/-- THE TIED CARD OF 'stopwatchlaw43.EvidenceCheckSpec'. -/
def evidenceCheckSpecCard : Claim7 := { stood := { row := evidenceCheckSpecRow, standIns := [], harness := (true, "2ad5118254e34bf61519f8951064f1c871127e93c9500e4dcb42c54c40be6040"), looks := false }, kinds := [], alts := [], laidByText := true, laidKinds := [.widerDeep, .data, .data, .data, .data, .data, .data, .data, .data, .data, .data, .data, .data], laidTests := true, laidLooks := .later }
def EvidenceCheckSpecCardSaid : Prop := Claim7.holds Tryz.pinned (.plain (OpenSpec.ofChange evidenceCheckSpecSpec)) evidenceCheckSpecCard

/-- THE SECOND FORM's CARD OF 'stopwatchlaw43.EvidenceCheckSpec'. -/
def evidenceCheckSpecUptoCard : Claim7 := { stood := { row := evidenceCheckSpecUptoRow, standIns := [], harness := (true, "2ad5118254e34bf61519f8951064f1c871127e93c9500e4dcb42c54c40be6040"), looks := false }, kinds := [], alts := [], laidByText := true, laidKinds := [.widerDeep, .data, .data, .data, .data, .data, .data, .data, .data, .data, .data, .data, .data], laidTests := true, laidLooks := .later }
def EvidenceCheckSpecUptoCardSaid : Prop := Claim7.holds Tryz.pinned (.plain (OpenSpec.upto evidenceCheckSpecSpec)) evidenceCheckSpecUptoCard
end Rows
end Go.Proofs.YtdjkbdhdejlakaaGreatDoor
