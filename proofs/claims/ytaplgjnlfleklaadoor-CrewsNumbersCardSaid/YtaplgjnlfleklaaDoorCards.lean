/-
  DERIVED. GIVEN WITH THE SEED: THE CARDS: each row of YtaplgjnlfleklaaDoorRows.lean that lists a variable, with what it lists TIED to the program's text (the seventh form; the later family's looks); each row that meets fmt, with fmt's text TOLD by the authors' own Lean function (tested against real Go, not proved from fmt's source: count such statements apart). THE CARD IS WHAT COUNTS. Prove the row's statement (the work); the ties are given (YtaplgjnlfleklaaDoorTie.lean); close each card by the builder's one call (the guide's Derived/Test/ToyasCard.lean, 'card_holds'). Laid BY PROGRAM, IN A SANDBOX (cutbox-door.mjs). By AI agents, Wed Nov 11 2026. No macro, syntax, notation, axiom, sorry.
-/
import Derived.Test.YtaplgjnlfleklaaDoorRows
import GoSem.ClaimSeven
namespace Go.Proofs.YtaplgjnlfleklaaDoor
namespace Rows

/-- THE TIED CARD OF 'stopwatchlaw13.CrewsSigned'. -/
def crewsSignedCard : Claim7 := { stood := { row := crewsSignedRow, standIns := [], harness := (true, "5675e46dd889b25bfa4fa682b530501dabb96ae9221d361156b31411fa3f4748"), looks := false }, kinds := [], alts := [], laidByText := true, laidKinds := [.widerDeep, .data, .data, .data, .data, .data, .data, .data, .data, .data, .data, .data, .data], laidTests := true, laidLooks := .later }
def CrewsSignedCardSaid : Prop := Claim7.holds Tryd.pinned (.plain (OpenSpec.ofChange crewsSignedSpec)) crewsSignedCard

/-- THE TIED CARD OF 'stopwatchlaw13.CrewsNumbers'. -/
def crewsNumbersCard : Claim7 := { stood := { row := crewsNumbersRow, standIns := [], harness := (true, "5675e46dd889b25bfa4fa682b530501dabb96ae9221d361156b31411fa3f4748"), looks := false }, kinds := [], alts := [], laidByText := true, laidKinds := [.widerDeep, .data, .data, .data, .data, .data, .data, .data, .data, .data, .data, .data, .data], laidTests := true, laidLooks := .later }
def CrewsNumbersCardSaid : Prop := Claim7.holds Tryd.pinned (.plain (OpenSpec.ofChange crewsNumbersSpec)) crewsNumbersCard

/-- THE TIED CARD OF 'stopwatchlaw13.CrewsTurned'. -/
def crewsTurnedCard : Claim7 := { stood := { row := crewsTurnedRow, standIns := [], harness := (true, "5675e46dd889b25bfa4fa682b530501dabb96ae9221d361156b31411fa3f4748"), looks := false }, kinds := [], alts := [], laidByText := true, laidKinds := [.widerDeep, .data, .data, .data, .data, .data, .data, .data, .data, .data, .data, .data, .data], laidTests := true, laidLooks := .later }
def CrewsTurnedCardSaid : Prop := Claim7.holds Tryd.pinned (.plain (OpenSpec.ofChange crewsTurnedSpec)) crewsTurnedCard

/-- THE SECOND FORM's CARD OF 'stopwatchlaw13.CrewsSigned'. -/
def crewsSignedUptoCard : Claim7 := { stood := { row := crewsSignedUptoRow, standIns := [], harness := (true, "5675e46dd889b25bfa4fa682b530501dabb96ae9221d361156b31411fa3f4748"), looks := false }, kinds := [], alts := [], laidByText := true, laidKinds := [.widerDeep, .data, .data, .data, .data, .data, .data, .data, .data, .data, .data, .data, .data], laidTests := true, laidLooks := .later }
def CrewsSignedUptoCardSaid : Prop := Claim7.holds Tryd.pinned (.plain (OpenSpec.upto crewsSignedSpec)) crewsSignedUptoCard

/-- THE SECOND FORM's CARD OF 'stopwatchlaw13.CrewsNumbers'. -/
def crewsNumbersUptoCard : Claim7 := { stood := { row := crewsNumbersUptoRow, standIns := [], harness := (true, "5675e46dd889b25bfa4fa682b530501dabb96ae9221d361156b31411fa3f4748"), looks := false }, kinds := [], alts := [], laidByText := true, laidKinds := [.widerDeep, .data, .data, .data, .data, .data, .data, .data, .data, .data, .data, .data, .data], laidTests := true, laidLooks := .later }
def CrewsNumbersUptoCardSaid : Prop := Claim7.holds Tryd.pinned (.plain (OpenSpec.upto crewsNumbersSpec)) crewsNumbersUptoCard

/-- THE SECOND FORM's CARD OF 'stopwatchlaw13.CrewsTurned'. -/
def crewsTurnedUptoCard : Claim7 := { stood := { row := crewsTurnedUptoRow, standIns := [], harness := (true, "5675e46dd889b25bfa4fa682b530501dabb96ae9221d361156b31411fa3f4748"), looks := false }, kinds := [], alts := [], laidByText := true, laidKinds := [.widerDeep, .data, .data, .data, .data, .data, .data, .data, .data, .data, .data, .data, .data], laidTests := true, laidLooks := .later }
def CrewsTurnedUptoCardSaid : Prop := Claim7.holds Tryd.pinned (.plain (OpenSpec.upto crewsTurnedSpec)) crewsTurnedUptoCard
end Rows
end Go.Proofs.YtaplgjnlfleklaaDoor
