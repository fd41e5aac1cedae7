/-
  DERIVED. GIVEN WITH THE SEED: THE CARDS: each row of YtpamincphlfhlaaGreatDoorRows.lean that lists a variable, with what it lists TIED to the program's text (the seventh form; the later family's looks); each row that meets fmt, with fmt's text TOLD by the authors' own Lean function (tested against real Go, not proved from fmt's source: count such statements apart). THE CARD IS WHAT COUNTS. Prove the row's statement (the work); the ties are given (YtpamincphlfhlaaGreatDoorTie.lean); close each card by the builder's one call (the guide's Derived/Test/ToyasCard.lean, 'card_holds'). Laid BY PROGRAM, IN A SANDBOX (cutbox-door.mjs). By AI agents, Wed Nov 11 2026. No macro, syntax, notation, axiom, sorry.
-/
import Derived.Test.YtpamincphlfhlaaGreatDoorRows
import GoSem.ClaimSeven
namespace Go.Proofs.YtpamincphlfhlaaGreatDoor
namespace Rows

/-- THE TIED CARD OF 'stopwatchlaw43.EvidenceMore'. -/
def evidenceMoreCard : Claim7 := { stood := { row := evidenceMoreRow, standIns := [], harness := (true, "d750b70d1c9c98556f15187789bf825dc375f73c247a2b738a3a852389944693"), looks := false }, kinds := [], alts := [], laidByText := true, laidKinds := [.widerDeep, .data, .data, .data, .data, .data, .data, .data, .data, .data, .data, .data, .data], laidTests := true, laidLooks := .later }
def EvidenceMoreCardSaid : Prop := Claim7.holds Tryz.pinned (.plain (OpenSpec.ofChange evidenceMoreSpec)) evidenceMoreCard

/-- THE TIED CARD OF 'stopwatchlaw43.EvidenceComplete'. -/
def evidenceCompleteCard : Claim7 := { stood := { row := evidenceCompleteRow, standIns := [], harness := (true, "d750b70d1c9c98556f15187789bf825dc375f73c247a2b738a3a852389944693"), looks := false }, kinds := [], alts := [], laidByText := true, laidKinds := [.widerDeep, .data, .data, .data, .data, .data, .data, .data, .data, .data, .data, .data, .data], laidTests := true, laidLooks := .later }
def EvidenceCompleteCardSaid : Prop := Claim7.holds Tryz.pinned (.plain (OpenSpec.ofChange evidenceCompleteSpec)) evidenceCompleteCard

/-- THE TIED CARD OF 'stopwatchlaw43.EvidenceAlteredSpec'. -/
def evidenceAlteredSpecCard : Claim7 := { stood := { row := evidenceAlteredSpecRow, standIns := [], harness := (true, "d750b70d1c9c98556f15187789bf825dc375f73c247a2b738a3a852389944693"), looks := false }, kinds := [], alts := [], laidByText := true, laidKinds := [.widerDeep, .data, .data, .data, .data, .data, .data, .data, .data, .data, .data, .data, .data], laidTests := true, laidLooks := .later }
def EvidenceAlteredSpecCardSaid : Prop := Claim7.holds Tryz.pinned (.plain (OpenSpec.ofChange evidenceAlteredSpecSpec)) evidenceAlteredSpecCard

/-- THE TIED CARD OF 'stopwatchlaw43.EvidenceFindSpec'. -/
def evidenceFindSpecCard : Claim7 := { stood := { row := evidenceFindSpecRow, standIns := [], harness := (true, "d750b70d1c9c98556f15187789bf825dc375f73c247a2b738a3a852389944693"), looks := false }, kinds := [], alts := [], laidByText := true, laidKinds := [.widerDeep, .data, .data, .data, .data, .data, .data, .data, .data, .data, .data, .data, .data], laidTests := true, laidLooks := .later }
def EvidenceFindSpecCardSaid : Prop := Claim7.holds Tryz.pinned (.plain (OpenSpec.ofChange evidenceFindSpecSpec)) evidenceFindSpecCard

/-- THE TIED CARD OF 'stopwatchlaw43.EvidenceCheckSpec'. -/
def evidenceCheckSpecCard : Claim7 := { stood := { row := evidenceCheckSpecRow, standIns := [], harness := (true, "d750b70d1c9c98556f15187789bf825dc375f73c247a2b738a3a852389944693"), looks := false }, kinds := [], alts := [], laidByText := true, laidKinds := [.widerDeep, .data, .data, .data, .data, .data, .data, .data, .data, .data, .data, .data, .data], laidTests := true, laidLooks := .later }
def EvidenceCheckSpecCardSaid : Prop := Claim7.holds Tryz.pinned (.plain (OpenSpec.ofChange evidenceCheckSpecSpec)) evidenceCheckSpecCard

/-- THE TIED CARD OF 'stopwatchlaw43.EvidenceShown'. -/
def evidenceShownCard : Claim7 := { stood := { row := evidenceShownRow, standIns := [], harness := (true, "d750b70d1c9c98556f15187789bf825dc375f73c247a2b738a3a852389944693"), looks := false }, kinds := [], alts := [], laidByText := true, laidKinds := [.widerDeep, .data, .data, .data, .data, .data, .data, .data, .data, .data, .data, .data, .data], laidTests := true, laidLooks := .later }
def EvidenceShownCardSaid : Prop := Claim7.holds Tryz.pinned (.plain (OpenSpec.ofChange evidenceShownSpec)) evidenceShownCard

/-- THE TIED CARD OF 'stopwatchlaw43.EvidenceOrder'. -/
def evidenceOrderCard : Claim7 := { stood := { row := evidenceOrderRow, standIns := [], harness := (true, "d750b70d1c9c98556f15187789bf825dc375f73c247a2b738a3a852389944693"), looks := false }, kinds := [], alts := [], laidByText := true, laidKinds := [.widerDeep, .data, .data, .data, .data, .data, .data, .data, .data, .data, .data, .data, .data], laidTests := true, laidLooks := .later }
def EvidenceOrderCardSaid : Prop := Claim7.holds Tryz.pinned (.plain (OpenSpec.ofChange evidenceOrderSpec)) evidenceOrderCard

/-- THE TIED CARD OF 'stopwatchlaw43.EvidenceVerified'. -/
def evidenceVerifiedCard : Claim7 := { stood := { row := evidenceVerifiedRow, standIns := [], harness := (true, "d750b70d1c9c98556f15187789bf825dc375f73c247a2b738a3a852389944693"), looks := false }, kinds := [], alts := [], laidByText := true, laidKinds := [.widerDeep, .data, .data, .data, .data, .data, .data, .data, .data, .data, .data, .data, .data], laidTests := true, laidLooks := .later }
def EvidenceVerifiedCardSaid : Prop := Claim7.holds Tryz.pinned (.plain (OpenSpec.ofChange evidenceVerifiedSpec)) evidenceVerifiedCard

/-- THE SECOND FORM's CARD OF 'stopwatchlaw43.EvidenceMore'. -/
def evidenceMoreUptoCard : Claim7 := { stood := { row := evidenceMoreUptoRow, standIns := [], harness := (true, "d750b70d1c9c98556f15187789bf825dc375f73c247a2b738a3a852389944693"), looks := false }, kinds := [], alts := [], laidByText := true, laidKinds := [.widerDeep, .data, .data, .data, .data, .data, .data, .data, .data, .data, .data, .data, .data], laidTests := true, laidLooks := .later }
def EvidenceMoreUptoCardSaid : Prop := Claim7.holds Tryz.pinned (.plain (OpenSpec.upto evidenceMoreSpec)) evidenceMoreUptoCard

/-- THE SECOND FORM's CARD OF 'stopwatchlaw43.EvidenceComplete'. -/
def evidenceCompleteUptoCard : Claim7 := { stood := { row := evidenceCompleteUptoRow, standIns := [], harness := (true, "d750b70d1c9c98556f15187789bf825dc375f73c247a2b738a3a852389944693"), looks := false }, kinds := [], alts := [], laidByText := true, laidKinds := [.widerDeep, .data, .data, .data, .data, .data, .data, .data, .data, .data, .data, .data, .data], laidTests := true, laidLooks := .later }
def EvidenceCompleteUptoCardSaid : Prop := Claim7.holds Tryz.pinned (.plain (OpenSpec.upto evidenceCompleteSpec)) evidenceCompleteUptoCard

/-- THE SECOND FORM's CARD OF 'stopwatchlaw43.EvidenceAlteredSpec'. -/
def evidenceAlteredSpecUptoCard : Claim7 := { stood := { row := evidenceAlteredSpecUptoRow, standIns := [], harness := (true, "d750b70d1c9c98556f15187789bf825dc375f73c247a2b738a3a852389944693"), looks := false }, kinds := [], alts := [], laidByText := true, laidKinds := [.widerDeep, .data, .data, .data, .data, .data, .data, .data, .data, .data, .data, .data, .data], laidTests := true, laidLooks := .later }
def EvidenceAlteredSpecUptoCardSaid : Prop := Claim7.holds Tryz.pinned (.plain (OpenSpec.upto evidenceAlteredSpecSpec)) evidenceAlteredSpecUptoCard

/-- THE SECOND FORM's CARD OF 'stopwatchlaw43.EvidenceFindSpec'. -/
def evidenceFindSpecUptoCard : Claim7 := { stood := { row := evidenceFindSpecUptoRow, standIns := [], harness := (true, "d750b70d1c9c98556f15187789bf825dc375f73c247a2b738a3a852389944693"), looks := false }, kinds := [], alts := [], laidByText := true, laidKinds := [.widerDeep, .data, .data, .data, .data, .data, .data, .data, .data, .data, .data, .data, .data], laidTests := true, laidLooks := .later }
def EvidenceFindSpecUptoCardSaid : Prop := Claim7.holds Tryz.pinned (.plain (OpenSpec.upto evidenceFindSpecSpec)) evidenceFindSpecUptoCard

/-- THE SECOND FORM's CARD OF 'stopwatchlaw43.EvidenceCheckSpec'. -/
def evidenceCheckSpecUptoCard : Claim7 := { stood := { row := evidenceCheckSpecUptoRow, standIns := [], harness := (true, "d750b70d1c9c98556f15187789bf825dc375f73c247a2b738a3a852389944693"), looks := false }, kinds := [], alts := [], laidByText := true, laidKinds := [.widerDeep, .data, .data, .data, .data, .data, .data, .data, .data, .data, .data, .data, .data], laidTests := true, laidLooks := .later }
def EvidenceCheckSpecUptoCardSaid : Prop := Claim7.holds Tryz.pinned (.plain (OpenSpec.upto evidenceCheckSpecSpec)) evidenceCheckSpecUptoCard

/-- THE SECOND FORM's CARD OF 'stopwatchlaw43.EvidenceShown'. -/
def evidenceShownUptoCard : Claim7 := { stood := { row := evidenceShownUptoRow, standIns := [], harness := (true, "d750b70d1c9c98556f15187789bf825dc375f73c247a2b738a3a852389944693"), looks := false }, kinds := [], alts := [], laidByText := true, laidKinds := [.widerDeep, .data, .data, .data, .data, .data, .data, .data, .data, .data, .data, .data, .data], laidTests := true, laidLooks := .later }
def EvidenceShownUptoCardSaid : Prop := Claim7.holds Tryz.pinned (.plain (OpenSpec.upto evidenceShownSpec)) evidenceShownUptoCard

/-- THE SECOND FORM's CARD OF 'stopwatchlaw43.EvidenceOrder'. -/
def evidenceOrderUptoCard : Claim7 := { stood := { row := evidenceOrderUptoRow, standIns := [], harness := (true, "d750b70d1c9c98556f15187789bf825dc375f73c247a2b738a3a852389944693"), looks := false }, kinds := [], alts := [], laidByText := true, laidKinds := [.widerDeep, .data, .data, .data, .data, .data, .data, .data, .data, .data, .data, .data, .data], laidTests := true, laidLooks := .later }
def EvidenceOrderUptoCardSaid : Prop := Claim7.holds Tryz.pinned (.plain (OpenSpec.upto evidenceOrderSpec)) evidenceOrderUptoCard

/-- THE SECOND FORM's CARD OF 'stopwatchlaw43.EvidenceVerified'. -/
def evidenceVerifiedUptoCard : Claim7 := { stood := { row := evidenceVerifiedUptoRow, standIns := [], harness := (true, "d750b70d1c9c98556f15187789bf825dc375f73c247a2b738a3a852389944693"), looks := false }, kinds := [], alts := [], laidByText := true, laidKinds := [.widerDeep, .data, .data, .data, .data, .data, .data, .data, .data, .data, .data, .data, .data], laidTests := true, laidLooks := .later }
def EvidenceVerifiedUptoCardSaid : Prop := Claim7.holds Tryz.pinned (.plain (OpenSpec.upto evidenceVerifiedSpec)) evidenceVerifiedUptoCard
end Rows
end Go.Proofs.YtpamincphlfhlaaGreatDoor
