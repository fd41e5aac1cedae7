/-
  DERIVED. GIVEN WITH THE SEED: THE CARDS: each row of YtnljenjcaeophaaGreatDoorRows.lean that lists a variable, with what it lists TIED to the program's text (the seventh form; the later family's looks); each row that meets fmt, with fmt's text TOLD by the authors' own Lean function (tested against real Go, not proved from fmt's source: count such statements apart). THE CARD IS WHAT COUNTS. Prove the row's statement (the work); the ties are given (YtnljenjcaeophaaGreatDoorTie.lean); close each card by the builder's one call (the guide's Derived/Test/ToyasCard.lean, 'card_holds'). Laid BY PROGRAM, IN A SANDBOX (cutbox-door.mjs). By AI agents, Wed Nov 11 2026. No macro, syntax, notation, axiom, sorry.
-/
import Derived.Test.YtnljenjcaeophaaGreatDoorRows
import GoSem.ClaimSeven
namespace Go.Proofs.YtnljenjcaeophaaGreatDoor
namespace Rows

/-- THE TIED CARD OF 'stopwatchlaw43.EvidenceMore'. -/
def evidenceMoreCard : Claim7 := { stood := { row := evidenceMoreRow, standIns := [], harness := (true, "85579bafdf618157d2aa463e13defca1eaca247f4fd272061cce0aa1da9397f5"), looks := false }, kinds := [], alts := [], laidByText := true, laidKinds := [.widerDeep, .data, .data, .data, .data, .data, .data, .data, .data, .data, .data, .data, .data], laidTests := true, laidLooks := .later }
def EvidenceMoreCardSaid : Prop := Claim7.holds Tryz.pinned (.plain (OpenSpec.ofChange evidenceMoreSpec)) evidenceMoreCard

/-- THE TIED CARD OF 'stopwatchlaw14.LedgerNewSpec'. -/
def ledgerNewSpecCard : Claim7 := { stood := { row := ledgerNewSpecRow, standIns := [], harness := (true, "85579bafdf618157d2aa463e13defca1eaca247f4fd272061cce0aa1da9397f5"), looks := false }, kinds := [], alts := [], laidByText := true, laidKinds := [.widerDeep, .data, .data, .data, .data, .data, .data, .data, .data, .data, .data, .data, .data], laidTests := true, laidLooks := .later }
def LedgerNewSpecCardSaid : Prop := Claim7.holds Tryz.pinned (.plain (OpenSpec.ofChange ledgerNewSpecSpec)) ledgerNewSpecCard

/-- THE TIED CARD OF 'stopwatchlaw14.LedgerAddSpec'. -/
def ledgerAddSpecCard : Claim7 := { stood := { row := ledgerAddSpecRow, standIns := [], harness := (true, "85579bafdf618157d2aa463e13defca1eaca247f4fd272061cce0aa1da9397f5"), looks := false }, kinds := [], alts := [], laidByText := true, laidKinds := [.widerDeep, .data, .data, .data, .data, .data, .data, .data, .data, .data, .data, .data, .data], laidTests := true, laidLooks := .later }
def LedgerAddSpecCardSaid : Prop := Claim7.holds Tryz.pinned (.plain (OpenSpec.ofChange ledgerAddSpecSpec)) ledgerAddSpecCard

/-- THE TIED CARD OF 'stopwatchlaw13.CrewsSignSpec'. -/
def crewsSignSpecCard : Claim7 := { stood := { row := crewsSignSpecRow, standIns := [], harness := (true, "85579bafdf618157d2aa463e13defca1eaca247f4fd272061cce0aa1da9397f5"), looks := false }, kinds := [], alts := [], laidByText := true, laidKinds := [.widerDeep, .data, .data, .data, .data, .data, .data, .data, .data, .data, .data, .data, .data], laidTests := true, laidLooks := .later }
def CrewsSignSpecCardSaid : Prop := Claim7.holds Tryz.pinned (.plain (OpenSpec.ofChange crewsSignSpecSpec)) crewsSignSpecCard

/-- THE TIED CARD OF 'stopwatchlaw13.CrewsVerifySpec'. -/
def crewsVerifySpecCard : Claim7 := { stood := { row := crewsVerifySpecRow, standIns := [], harness := (true, "85579bafdf618157d2aa463e13defca1eaca247f4fd272061cce0aa1da9397f5"), looks := false }, kinds := [], alts := [], laidByText := true, laidKinds := [.widerDeep, .data, .data, .data, .data, .data, .data, .data, .data, .data, .data, .data, .data], laidTests := true, laidLooks := .later }
def CrewsVerifySpecCardSaid : Prop := Claim7.holds Tryz.pinned (.plain (OpenSpec.ofChange crewsVerifySpecSpec)) crewsVerifySpecCard

/-- THE TIED CARD OF 'stopwatchlaw13.CrewsForks'. -/
def crewsForksCard : Claim7 := { stood := { row := crewsForksRow, standIns := [], harness := (true, "85579bafdf618157d2aa463e13defca1eaca247f4fd272061cce0aa1da9397f5"), looks := false }, kinds := [], alts := [], laidByText := true, laidKinds := [.widerDeep, .data, .data, .data, .data, .data, .data, .data, .data, .data, .data, .data, .data], laidTests := true, laidLooks := .later }
def CrewsForksCardSaid : Prop := Claim7.holds Tryz.pinned (.plain (OpenSpec.ofChange crewsForksSpec)) crewsForksCard

/-- THE TIED CARD OF 'stopwatchlaw43.EvidenceCheckSpec'. -/
def evidenceCheckSpecCard : Claim7 := { stood := { row := evidenceCheckSpecRow, standIns := [], harness := (true, "85579bafdf618157d2aa463e13defca1eaca247f4fd272061cce0aa1da9397f5"), looks := false }, kinds := [], alts := [], laidByText := true, laidKinds := [.widerDeep, .data, .data, .data, .data, .data, .data, .data, .data, .data, .data, .data, .data], laidTests := true, laidLooks := .later }
def EvidenceCheckSpecCardSaid : Prop := Claim7.holds Tryz.pinned (.plain (OpenSpec.ofChange evidenceCheckSpecSpec)) evidenceCheckSpecCard

/-- THE TIED CARD OF 'stopwatchlaw43.EvidenceVerified'. -/
def evidenceVerifiedCard : Claim7 := { stood := { row := evidenceVerifiedRow, standIns := [], harness := (true, "85579bafdf618157d2aa463e13defca1eaca247f4fd272061cce0aa1da9397f5"), looks := false }, kinds := [], alts := [], laidByText := true, laidKinds := [.widerDeep, .data, .data, .data, .data, .data, .data, .data, .data, .data, .data, .data, .data], laidTests := true, laidLooks := .later }
def EvidenceVerifiedCardSaid : Prop := Claim7.holds Tryz.pinned (.plain (OpenSpec.ofChange evidenceVerifiedSpec)) evidenceVerifiedCard

/-- THE SECOND FORM's CARD OF 'stopwatchlaw43.EvidenceMore'. -/
def evidenceMoreUptoCard : Claim7 := { stood := { row := evidenceMoreUptoRow, standIns := [], harness := (true, "85579bafdf618157d2aa463e13defca1eaca247f4fd272061cce0aa1da9397f5"), looks := false }, kinds := [], alts := [], laidByText := true, laidKinds := [.widerDeep, .data, .data, .data, .data, .data, .data, .data, .data, .data, .data, .data, .data], laidTests := true, laidLooks := .later }
def EvidenceMoreUptoCardSaid : Prop := Claim7.holds Tryz.pinned (.plain (OpenSpec.upto evidenceMoreSpec)) evidenceMoreUptoCard

/-- THE SECOND FORM's CARD OF 'stopwatchlaw14.LedgerNewSpec'. -/
def ledgerNewSpecUptoCard : Claim7 := { stood := { row := ledgerNewSpecUptoRow, standIns := [], harness := (true, "85579bafdf618157d2aa463e13defca1eaca247f4fd272061cce0aa1da9397f5"), looks := false }, kinds := [], alts := [], laidByText := true, laidKinds := [.widerDeep, .data, .data, .data, .data, .data, .data, .data, .data, .data, .data, .data, .data], laidTests := true, laidLooks := .later }
def LedgerNewSpecUptoCardSaid : Prop := Claim7.holds Tryz.pinned (.plain (OpenSpec.upto ledgerNewSpecSpec)) ledgerNewSpecUptoCard

/-- THE SECOND FORM's CARD OF 'stopwatchlaw14.LedgerAddSpec'. -/
def ledgerAddSpecUptoCard : Claim7 := { stood := { row := ledgerAddSpecUptoRow, standIns := [], harness := (true, "85579bafdf618157d2aa463e13defca1eaca247f4fd272061cce0aa1da9397f5"), looks := false }, kinds := [], alts := [], laidByText := true, laidKinds := [.widerDeep, .data, .data, .data, .data, .data, .data, .data, .data, .data, .data, .data, .data], laidTests := true, laidLooks := .later }
def LedgerAddSpecUptoCardSaid : Prop := Claim7.holds Tryz.pinned (.plain (OpenSpec.upto ledgerAddSpecSpec)) ledgerAddSpecUptoCard

/-- THE SECOND FORM's CARD OF 'stopwatchlaw13.CrewsSignSpec'. -/
def crewsSignSpecUptoCard : Claim7 := { stood := { row := crewsSignSpecUptoRow, standIns := [], harness := (true, "85579bafdf618157d2aa463e13defca1eaca247f4fd272061cce0aa1da9397f5"), looks := false }, kinds := [], alts := [], laidByText := true, laidKinds := [.widerDeep, .data, .data, .data, .data, .data, .data, .data, .data, .data, .data, .data, .data], laidTests := true, laidLooks := .later }
def CrewsSignSpecUptoCardSaid : Prop := Claim7.holds Tryz.pinned (.plain (OpenSpec.upto crewsSignSpecSpec)) crewsSignSpecUptoCard

/-- THE SECOND FORM's CARD OF 'stopwatchlaw13.CrewsVerifySpec'. -/
def crewsVerifySpecUptoCard : Claim7 := { stood := { row := crewsVerifySpecUptoRow, standIns := [], harness := (true, "85579bafdf618157d2aa463e13defca1eaca247f4fd272061cce0aa1da9397f5"), looks := false }, kinds := [], alts := [], laidByText := true, laidKinds := [.widerDeep, .data, .data, .data, .data, .data, .data, .data, .data, .data, .data, .data, .data], laidTests := true, laidLooks := .later }
def CrewsVerifySpecUptoCardSaid : Prop := Claim7.holds Tryz.pinned (.plain (OpenSpec.upto crewsVerifySpecSpec)) crewsVerifySpecUptoCard

/-- THE SECOND FORM's CARD OF 'stopwatchlaw13.CrewsForks'. -/
def crewsForksUptoCard : Claim7 := { stood := { row := crewsForksUptoRow, standIns := [], harness := (true, "85579bafdf618157d2aa463e13defca1eaca247f4fd272061cce0aa1da9397f5"), looks := false }, kinds := [], alts := [], laidByText := true, laidKinds := [.widerDeep, .data, .data, .data, .data, .data, .data, .data, .data, .data, .data, .data, .data], laidTests := true, laidLooks := .later }
def CrewsForksUptoCardSaid : Prop := Claim7.holds Tryz.pinned (.plain (OpenSpec.upto crewsForksSpec)) crewsForksUptoCard

/-- THE SECOND FORM's CARD OF 'stopwatchlaw43.EvidenceCheckSpec'. -/
def evidenceCheckSpecUptoCard : Claim7 := { stood := { row := evidenceCheckSpecUptoRow, standIns := [], harness := (true, "85579bafdf618157d2aa463e13defca1eaca247f4fd272061cce0aa1da9397f5"), looks := false }, kinds := [], alts := [], laidByText := true, laidKinds := [.widerDeep, .data, .data, .data, .data, .data, .data, .data, .data, .data, .data, .data, .data], laidTests := true, laidLooks := .later }
def EvidenceCheckSpecUptoCardSaid : Prop := Claim7.holds Tryz.pinned (.plain (OpenSpec.upto evidenceCheckSpecSpec)) evidenceCheckSpecUptoCard

/-- THE SECOND FORM's CARD OF 'stopwatchlaw43.EvidenceVerified'. -/
def evidenceVerifiedUptoCard : Claim7 := { stood := { row := evidenceVerifiedUptoRow, standIns := [], harness := (true, "85579bafdf618157d2aa463e13defca1eaca247f4fd272061cce0aa1da9397f5"), looks := false }, kinds := [], alts := [], laidByText := true, laidKinds := [.widerDeep, .data, .data, .data, .data, .data, .data, .data, .data, .data, .data, .data, .data], laidTests := true, laidLooks := .later }
def EvidenceVerifiedUptoCardSaid : Prop := Claim7.holds Tryz.pinned (.plain (OpenSpec.upto evidenceVerifiedSpec)) evidenceVerifiedUptoCard
end Rows
end Go.Proofs.YtnljenjcaeophaaGreatDoor
