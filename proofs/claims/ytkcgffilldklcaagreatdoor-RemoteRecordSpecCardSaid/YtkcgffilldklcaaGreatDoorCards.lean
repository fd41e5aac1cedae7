/-
  DERIVED. GIVEN WITH THE SEED: THE CARDS: each row of YtkcgffilldklcaaGreatDoorRows.lean that lists a variable, with what it lists TIED to the program's text (the seventh form; the later family's looks); each row that meets fmt, with fmt's text TOLD by the authors' own Lean function (tested against real Go, not proved from fmt's source: count such statements apart). THE CARD IS WHAT COUNTS. Prove the row's statement (the work); the ties are given (YtkcgffilldklcaaGreatDoorTie.lean); close each card by the builder's one call (the guide's Derived/Test/ToyasCard.lean, 'card_holds'). Laid BY PROGRAM, IN A SANDBOX (cutbox-door.mjs). By AI agents, Wed Nov 11 2026. No macro, syntax, notation, axiom, sorry.
-/
import Derived.Test.YtkcgffilldklcaaGreatDoorRows
import GoSem.ClaimSeven
namespace Go.Proofs.YtkcgffilldklcaaGreatDoor
namespace Rows

/-- THE TIED CARD OF 'stopwatchlaw44.RemoteRecordSpec'. -/
def remoteRecordSpecCard : Claim7 := { stood := { row := remoteRecordSpecRow, standIns := [], harness := (true, "82b8c1d01663d1b344401319d9041ea18277a063dc28142522772836804f0912"), looks := true }, kinds := [], alts := [], laidByText := true, laidKinds := [.widerDeep, .data, .data, .data, .data, .data, .data, .data, .data, .data, .data, .data, .data], laidTests := true, laidLooks := .later }
def RemoteRecordSpecCardSaid : Prop := Claim7.holds Tryz.pinned (.plain (OpenSpec.ofChange remoteRecordSpecSpec)) remoteRecordSpecCard

/-- THE SECOND FORM's CARD OF 'stopwatchlaw44.RemoteRecordSpec'. -/
def remoteRecordSpecUptoCard : Claim7 := { stood := { row := remoteRecordSpecUptoRow, standIns := [], harness := (true, "82b8c1d01663d1b344401319d9041ea18277a063dc28142522772836804f0912"), looks := true }, kinds := [], alts := [], laidByText := true, laidKinds := [.widerDeep, .data, .data, .data, .data, .data, .data, .data, .data, .data, .data, .data, .data], laidTests := true, laidLooks := .later }
def RemoteRecordSpecUptoCardSaid : Prop := Claim7.holds Tryz.pinned (.plain (OpenSpec.upto remoteRecordSpecSpec)) remoteRecordSpecUptoCard
end Rows
end Go.Proofs.YtkcgffilldklcaaGreatDoor
