/-
  DERIVED. GIVEN WITH THE SEED: THE CARDS: each row of YtghfancmonhkcaaDoorRows.lean that lists a variable, with what it lists TIED to the program's text (the seventh form; the later family's looks); each row that meets fmt, with fmt's text TOLD by the authors' own Lean function (tested against real Go, not proved from fmt's source: count such statements apart). THE CARD IS WHAT COUNTS. Prove the row's statement (the work); the ties are given (YtghfancmonhkcaaDoorTie.lean); close each card by the builder's one call (the guide's Derived/Test/ToyasCard.lean, 'card_holds'). Laid BY PROGRAM, IN A SANDBOX (cutbox-door.mjs). By AI agents, Wed Nov 11 2026. No macro, syntax, notation, axiom, sorry.
-/
import Derived.Test.YtghfancmonhkcaaDoorRows
import GoSem.ClaimSeven
namespace Go.Proofs.YtghfancmonhkcaaDoor
namespace Rows

/-- THE TIED CARD OF 'stopwatchlaw14.LedgerForce'. -/
def ledgerForceCard : Claim7 := { stood := { row := ledgerForceRow, standIns := [], harness := (true, "a9a508e2f8adf3e79eb180a039009decc8a2b788ab6eb3b8bbf533b136cb6e5c"), looks := false }, kinds := [], alts := [], laidByText := true, laidKinds := [.widerDeep, .data, .data, .data, .data, .data, .data, .data, .data, .data, .data, .data, .data], laidTests := true, laidLooks := .later }
def LedgerForceCardSaid : Prop := Claim7.holds Tryd.pinned (.plain (OpenSpec.ofChange ledgerForceSpec)) ledgerForceCard

/-- THE TIED CARD OF 'stopwatchlaw14.LedgerJoined'. -/
def ledgerJoinedCard : Claim7 := { stood := { row := ledgerJoinedRow, standIns := [], harness := (true, "a9a508e2f8adf3e79eb180a039009decc8a2b788ab6eb3b8bbf533b136cb6e5c"), looks := false }, kinds := [], alts := [], laidByText := true, laidKinds := [.widerDeep, .data, .data, .data, .data, .data, .data, .data, .data, .data, .data, .data, .data], laidTests := true, laidLooks := .later }
def LedgerJoinedCardSaid : Prop := Claim7.holds Tryd.pinned (.plain (OpenSpec.ofChange ledgerJoinedSpec)) ledgerJoinedCard

/-- THE SECOND FORM's CARD OF 'stopwatchlaw14.LedgerForce'. -/
def ledgerForceUptoCard : Claim7 := { stood := { row := ledgerForceUptoRow, standIns := [], harness := (true, "a9a508e2f8adf3e79eb180a039009decc8a2b788ab6eb3b8bbf533b136cb6e5c"), looks := false }, kinds := [], alts := [], laidByText := true, laidKinds := [.widerDeep, .data, .data, .data, .data, .data, .data, .data, .data, .data, .data, .data, .data], laidTests := true, laidLooks := .later }
def LedgerForceUptoCardSaid : Prop := Claim7.holds Tryd.pinned (.plain (OpenSpec.upto ledgerForceSpec)) ledgerForceUptoCard

/-- THE SECOND FORM's CARD OF 'stopwatchlaw14.LedgerJoined'. -/
def ledgerJoinedUptoCard : Claim7 := { stood := { row := ledgerJoinedUptoRow, standIns := [], harness := (true, "a9a508e2f8adf3e79eb180a039009decc8a2b788ab6eb3b8bbf533b136cb6e5c"), looks := false }, kinds := [], alts := [], laidByText := true, laidKinds := [.widerDeep, .data, .data, .data, .data, .data, .data, .data, .data, .data, .data, .data, .data], laidTests := true, laidLooks := .later }
def LedgerJoinedUptoCardSaid : Prop := Claim7.holds Tryd.pinned (.plain (OpenSpec.upto ledgerJoinedSpec)) ledgerJoinedUptoCard
end Rows
end Go.Proofs.YtghfancmonhkcaaDoor
