/-
  DERIVED. GIVEN WITH THE SEED: THE CARDS: each row of YtfgcgagcpnbgmaaGreatDoorRows.lean that lists a variable, with what it lists TIED to the program's text (the seventh form; the later family's looks); each row that meets fmt, with fmt's text TOLD by the authors' own Lean function (tested against real Go, not proved from fmt's source: count such statements apart). THE CARD IS WHAT COUNTS. Prove the row's statement (the work); the ties are given (YtfgcgagcpnbgmaaGreatDoorTie.lean); close each card by the builder's one call (the guide's Derived/Test/ToyasCard.lean, 'card_holds'). Laid BY PROGRAM, IN A SANDBOX (cutbox-door.mjs). By AI agents, Wed Nov 11 2026. No macro, syntax, notation, axiom, sorry.
-/
import Derived.Test.YtfgcgagcpnbgmaaGreatDoorRows
import GoSem.ClaimSeven
namespace Go.Proofs.YtfgcgagcpnbgmaaGreatDoor
namespace Rows

/-- THE TIED CARD OF 'stopwatchlaw44.RemoteNewSpec'. -/
def remoteNewSpecCard : Claim7 := { stood := { row := remoteNewSpecRow, standIns := [], harness := (true, "f764148190a6db167d136c8786372b7f12f188d73b807f914eb99d55b857976a"), looks := true }, kinds := [], alts := [], laidByText := true, laidKinds := [.widerDeep, .data, .data, .data, .data, .data, .data, .data, .data, .data, .data, .data, .data], laidTests := true, laidLooks := .later }
def RemoteNewSpecCardSaid : Prop := Claim7.holds Tryz.pinned (.plain (OpenSpec.ofChange remoteNewSpecSpec)) remoteNewSpecCard

/-- THE TIED CARD OF 'stopwatchlaw44.RemoteRecordSpec'. -/
def remoteRecordSpecCard : Claim7 := { stood := { row := remoteRecordSpecRow, standIns := [], harness := (true, "f764148190a6db167d136c8786372b7f12f188d73b807f914eb99d55b857976a"), looks := true }, kinds := [], alts := [], laidByText := true, laidKinds := [.widerDeep, .data, .data, .data, .data, .data, .data, .data, .data, .data, .data, .data, .data], laidTests := true, laidLooks := .later }
def RemoteRecordSpecCardSaid : Prop := Claim7.holds Tryz.pinned (.plain (OpenSpec.ofChange remoteRecordSpecSpec)) remoteRecordSpecCard

/-- THE TIED CARD OF 'stopwatchlaw44.RemoteBatchSpec'. -/
def remoteBatchSpecCard : Claim7 := { stood := { row := remoteBatchSpecRow, standIns := [], harness := (true, "f764148190a6db167d136c8786372b7f12f188d73b807f914eb99d55b857976a"), looks := true }, kinds := [], alts := [], laidByText := true, laidKinds := [.widerDeep, .data, .data, .data, .data, .data, .data, .data, .data, .data, .data, .data, .data], laidTests := true, laidLooks := .later }
def RemoteBatchSpecCardSaid : Prop := Claim7.holds Tryz.pinned (.plain (OpenSpec.ofChange remoteBatchSpecSpec)) remoteBatchSpecCard

/-- THE TIED CARD OF 'stopwatchlaw44.RemoteAgain'. -/
def remoteAgainCard : Claim7 := { stood := { row := remoteAgainRow, standIns := [], harness := (true, "f764148190a6db167d136c8786372b7f12f188d73b807f914eb99d55b857976a"), looks := true }, kinds := [], alts := [], laidByText := true, laidKinds := [.widerDeep, .data, .data, .data, .data, .data, .data, .data, .data, .data, .data, .data, .data], laidTests := true, laidLooks := .later }
def RemoteAgainCardSaid : Prop := Claim7.holds Tryz.pinned (.plain (OpenSpec.ofChange remoteAgainSpec)) remoteAgainCard

/-- THE TIED CARD OF 'stopwatchlaw44.RemoteAltered'. -/
def remoteAlteredCard : Claim7 := { stood := { row := remoteAlteredRow, standIns := [], harness := (true, "f764148190a6db167d136c8786372b7f12f188d73b807f914eb99d55b857976a"), looks := true }, kinds := [], alts := [], laidByText := true, laidKinds := [.widerDeep, .data, .data, .data, .data, .data, .data, .data, .data, .data, .data, .data, .data], laidTests := true, laidLooks := .later }
def RemoteAlteredCardSaid : Prop := Claim7.holds Tryz.pinned (.plain (OpenSpec.ofChange remoteAlteredSpec)) remoteAlteredCard

/-- THE TIED CARD OF 'stopwatchlaw44.RemoteNumbers'. -/
def remoteNumbersCard : Claim7 := { stood := { row := remoteNumbersRow, standIns := [], harness := (true, "f764148190a6db167d136c8786372b7f12f188d73b807f914eb99d55b857976a"), looks := true }, kinds := [], alts := [], laidByText := true, laidKinds := [.widerDeep, .data, .data, .data, .data, .data, .data, .data, .data, .data, .data, .data, .data], laidTests := true, laidLooks := .later }
def RemoteNumbersCardSaid : Prop := Claim7.holds Tryz.pinned (.plain (OpenSpec.ofChange remoteNumbersSpec)) remoteNumbersCard

/-- THE TIED CARD OF 'stopwatchlaw44.RemoteDurable'. -/
def remoteDurableCard : Claim7 := { stood := { row := remoteDurableRow, standIns := [], harness := (true, "f764148190a6db167d136c8786372b7f12f188d73b807f914eb99d55b857976a"), looks := true }, kinds := [], alts := [], laidByText := true, laidKinds := [.widerDeep, .data, .data, .data, .data, .data, .data, .data, .data, .data, .data, .data, .data], laidTests := true, laidLooks := .later }
def RemoteDurableCardSaid : Prop := Claim7.holds Tryz.pinned (.plain (OpenSpec.ofChange remoteDurableSpec)) remoteDurableCard

/-- THE SECOND FORM's CARD OF 'stopwatchlaw44.RemoteNewSpec'. -/
def remoteNewSpecUptoCard : Claim7 := { stood := { row := remoteNewSpecUptoRow, standIns := [], harness := (true, "f764148190a6db167d136c8786372b7f12f188d73b807f914eb99d55b857976a"), looks := true }, kinds := [], alts := [], laidByText := true, laidKinds := [.widerDeep, .data, .data, .data, .data, .data, .data, .data, .data, .data, .data, .data, .data], laidTests := true, laidLooks := .later }
def RemoteNewSpecUptoCardSaid : Prop := Claim7.holds Tryz.pinned (.plain (OpenSpec.upto remoteNewSpecSpec)) remoteNewSpecUptoCard

/-- THE SECOND FORM's CARD OF 'stopwatchlaw44.RemoteRecordSpec'. -/
def remoteRecordSpecUptoCard : Claim7 := { stood := { row := remoteRecordSpecUptoRow, standIns := [], harness := (true, "f764148190a6db167d136c8786372b7f12f188d73b807f914eb99d55b857976a"), looks := true }, kinds := [], alts := [], laidByText := true, laidKinds := [.widerDeep, .data, .data, .data, .data, .data, .data, .data, .data, .data, .data, .data, .data], laidTests := true, laidLooks := .later }
def RemoteRecordSpecUptoCardSaid : Prop := Claim7.holds Tryz.pinned (.plain (OpenSpec.upto remoteRecordSpecSpec)) remoteRecordSpecUptoCard

/-- THE SECOND FORM's CARD OF 'stopwatchlaw44.RemoteBatchSpec'. -/
def remoteBatchSpecUptoCard : Claim7 := { stood := { row := remoteBatchSpecUptoRow, standIns := [], harness := (true, "f764148190a6db167d136c8786372b7f12f188d73b807f914eb99d55b857976a"), looks := true }, kinds := [], alts := [], laidByText := true, laidKinds := [.widerDeep, .data, .data, .data, .data, .data, .data, .data, .data, .data, .data, .data, .data], laidTests := true, laidLooks := .later }
def RemoteBatchSpecUptoCardSaid : Prop := Claim7.holds Tryz.pinned (.plain (OpenSpec.upto remoteBatchSpecSpec)) remoteBatchSpecUptoCard

/-- THE SECOND FORM's CARD OF 'stopwatchlaw44.RemoteAgain'. -/
def remoteAgainUptoCard : Claim7 := { stood := { row := remoteAgainUptoRow, standIns := [], harness := (true, "f764148190a6db167d136c8786372b7f12f188d73b807f914eb99d55b857976a"), looks := true }, kinds := [], alts := [], laidByText := true, laidKinds := [.widerDeep, .data, .data, .data, .data, .data, .data, .data, .data, .data, .data, .data, .data], laidTests := true, laidLooks := .later }
def RemoteAgainUptoCardSaid : Prop := Claim7.holds Tryz.pinned (.plain (OpenSpec.upto remoteAgainSpec)) remoteAgainUptoCard

/-- THE SECOND FORM's CARD OF 'stopwatchlaw44.RemoteAltered'. -/
def remoteAlteredUptoCard : Claim7 := { stood := { row := remoteAlteredUptoRow, standIns := [], harness := (true, "f764148190a6db167d136c8786372b7f12f188d73b807f914eb99d55b857976a"), looks := true }, kinds := [], alts := [], laidByText := true, laidKinds := [.widerDeep, .data, .data, .data, .data, .data, .data, .data, .data, .data, .data, .data, .data], laidTests := true, laidLooks := .later }
def RemoteAlteredUptoCardSaid : Prop := Claim7.holds Tryz.pinned (.plain (OpenSpec.upto remoteAlteredSpec)) remoteAlteredUptoCard

/-- THE SECOND FORM's CARD OF 'stopwatchlaw44.RemoteNumbers'. -/
def remoteNumbersUptoCard : Claim7 := { stood := { row := remoteNumbersUptoRow, standIns := [], harness := (true, "f764148190a6db167d136c8786372b7f12f188d73b807f914eb99d55b857976a"), looks := true }, kinds := [], alts := [], laidByText := true, laidKinds := [.widerDeep, .data, .data, .data, .data, .data, .data, .data, .data, .data, .data, .data, .data], laidTests := true, laidLooks := .later }
def RemoteNumbersUptoCardSaid : Prop := Claim7.holds Tryz.pinned (.plain (OpenSpec.upto remoteNumbersSpec)) remoteNumbersUptoCard

/-- THE SECOND FORM's CARD OF 'stopwatchlaw44.RemoteDurable'. -/
def remoteDurableUptoCard : Claim7 := { stood := { row := remoteDurableUptoRow, standIns := [], harness := (true, "f764148190a6db167d136c8786372b7f12f188d73b807f914eb99d55b857976a"), looks := true }, kinds := [], alts := [], laidByText := true, laidKinds := [.widerDeep, .data, .data, .data, .data, .data, .data, .data, .data, .data, .data, .data, .data], laidTests := true, laidLooks := .later }
def RemoteDurableUptoCardSaid : Prop := Claim7.holds Tryz.pinned (.plain (OpenSpec.upto remoteDurableSpec)) remoteDurableUptoCard
end Rows
end Go.Proofs.YtfgcgagcpnbgmaaGreatDoor
