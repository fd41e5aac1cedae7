/-
  DERIVED. GIVEN WITH THE SEED: THE CARDS: each row of YtjfkeicmdaanbaaDoorRows.lean that lists a variable, with what it lists TIED to the program's text (the seventh form; the later family's looks); each row that meets fmt, with fmt's text TOLD by the authors' own Lean function (tested against real Go, not proved from fmt's source: count such statements apart). THE CARD IS WHAT COUNTS. Prove the row's statement (the work); the ties are given (YtjfkeicmdaanbaaDoorTie.lean); close each card by the builder's one call (the guide's Derived/Test/ToyasCard.lean, 'card_holds'). Laid BY PROGRAM, IN A SANDBOX (cutbox-door.mjs). By AI agents, Wed Nov 11 2026. No macro, syntax, notation, axiom, sorry.
-/
import Derived.Test.YtjfkeicmdaanbaaDoorRows
import GoSem.ClaimSeven
namespace Go.Proofs.YtjfkeicmdaanbaaDoor
namespace Rows

/-- THE TIED CARD OF 'stopwatchlaw12.FactsCheckSpec'. -/
def factsCheckSpecCard : Claim7 := { stood := { row := factsCheckSpecRow, standIns := [], harness := (true, "708b5f6f3634f4f0890c02473ea9d4ce3b1f6bb87ec048d1d8962305ea5a8317"), looks := true }, kinds := [], alts := [], laidByText := true, laidKinds := [.data, .data, .data, .data, .data, .data, .data, .data, .data, .data, .data], laidTests := true, laidLooks := .later }
def FactsCheckSpecCardSaid : Prop := Claim7.holds Tryd.pinned (.plain (OpenSpec.ofChange factsCheckSpecSpec)) factsCheckSpecCard

/-- THE TIED CARD OF 'stopwatchlaw12.FactsEncodeSpec'. -/
def factsEncodeSpecCard : Claim7 := { stood := { row := factsEncodeSpecRow, standIns := [], harness := (true, "708b5f6f3634f4f0890c02473ea9d4ce3b1f6bb87ec048d1d8962305ea5a8317"), looks := true }, kinds := [], alts := [], laidByText := true, laidKinds := [.data, .data, .data, .data, .data, .data, .data, .data, .data, .data, .data], laidTests := true, laidLooks := .later }
def FactsEncodeSpecCardSaid : Prop := Claim7.holds Tryd.pinned (.plain (OpenSpec.ofChange factsEncodeSpecSpec)) factsEncodeSpecCard

/-- THE TIED CARD OF 'stopwatchlaw12.FactsBack'. -/
def factsBackCard : Claim7 := { stood := { row := factsBackRow, standIns := [], harness := (true, "708b5f6f3634f4f0890c02473ea9d4ce3b1f6bb87ec048d1d8962305ea5a8317"), looks := true }, kinds := [], alts := [], laidByText := true, laidKinds := [.data, .data, .data, .data, .data, .data, .data, .data, .data, .data, .data], laidTests := true, laidLooks := .later }
def FactsBackCardSaid : Prop := Claim7.holds Tryd.pinned (.plain (OpenSpec.ofChange factsBackSpec)) factsBackCard

/-- THE TIED CARD OF 'stopwatchlaw12.FactsContents'. -/
def factsContentsCard : Claim7 := { stood := { row := factsContentsRow, standIns := [], harness := (true, "708b5f6f3634f4f0890c02473ea9d4ce3b1f6bb87ec048d1d8962305ea5a8317"), looks := true }, kinds := [], alts := [], laidByText := true, laidKinds := [.data, .data, .data, .data, .data, .data, .data, .data, .data, .data, .data], laidTests := true, laidLooks := .later }
def FactsContentsCardSaid : Prop := Claim7.holds Tryd.pinned (.plain (OpenSpec.ofChange factsContentsSpec)) factsContentsCard

/-- THE TIED CARD OF 'stopwatchlaw12.FactsOrder'. -/
def factsOrderCard : Claim7 := { stood := { row := factsOrderRow, standIns := [], harness := (true, "708b5f6f3634f4f0890c02473ea9d4ce3b1f6bb87ec048d1d8962305ea5a8317"), looks := true }, kinds := [], alts := [], laidByText := true, laidKinds := [.data, .data, .data, .data, .data, .data, .data, .data, .data, .data, .data], laidTests := true, laidLooks := .later }
def FactsOrderCardSaid : Prop := Claim7.holds Tryd.pinned (.plain (OpenSpec.ofChange factsOrderSpec)) factsOrderCard

/-- THE TIED CARD OF 'stopwatchlaw12.FactsDifferent'. -/
def factsDifferentCard : Claim7 := { stood := { row := factsDifferentRow, standIns := [], harness := (true, "708b5f6f3634f4f0890c02473ea9d4ce3b1f6bb87ec048d1d8962305ea5a8317"), looks := true }, kinds := [], alts := [], laidByText := true, laidKinds := [.data, .data, .data, .data, .data, .data, .data, .data, .data, .data, .data], laidTests := true, laidLooks := .later }
def FactsDifferentCardSaid : Prop := Claim7.holds Tryd.pinned (.plain (OpenSpec.ofChange factsDifferentSpec)) factsDifferentCard

/-- THE TIED CARD OF 'stopwatchlaw12.FactsOther'. -/
def factsOtherCard : Claim7 := { stood := { row := factsOtherRow, standIns := [], harness := (true, "708b5f6f3634f4f0890c02473ea9d4ce3b1f6bb87ec048d1d8962305ea5a8317"), looks := true }, kinds := [], alts := [], laidByText := true, laidKinds := [.data, .data, .data, .data, .data, .data, .data, .data, .data, .data, .data], laidTests := true, laidLooks := .later }
def FactsOtherCardSaid : Prop := Claim7.holds Tryd.pinned (.plain (OpenSpec.ofChange factsOtherSpec)) factsOtherCard

/-- THE SECOND FORM's CARD OF 'stopwatchlaw12.FactsCheckSpec'. -/
def factsCheckSpecUptoCard : Claim7 := { stood := { row := factsCheckSpecUptoRow, standIns := [], harness := (true, "708b5f6f3634f4f0890c02473ea9d4ce3b1f6bb87ec048d1d8962305ea5a8317"), looks := true }, kinds := [], alts := [], laidByText := true, laidKinds := [.data, .data, .data, .data, .data, .data, .data, .data, .data, .data, .data], laidTests := true, laidLooks := .later }
def FactsCheckSpecUptoCardSaid : Prop := Claim7.holds Tryd.pinned (.plain (OpenSpec.upto factsCheckSpecSpec)) factsCheckSpecUptoCard

/-- THE SECOND FORM's CARD OF 'stopwatchlaw12.FactsEncodeSpec'. -/
def factsEncodeSpecUptoCard : Claim7 := { stood := { row := factsEncodeSpecUptoRow, standIns := [], harness := (true, "708b5f6f3634f4f0890c02473ea9d4ce3b1f6bb87ec048d1d8962305ea5a8317"), looks := true }, kinds := [], alts := [], laidByText := true, laidKinds := [.data, .data, .data, .data, .data, .data, .data, .data, .data, .data, .data], laidTests := true, laidLooks := .later }
def FactsEncodeSpecUptoCardSaid : Prop := Claim7.holds Tryd.pinned (.plain (OpenSpec.upto factsEncodeSpecSpec)) factsEncodeSpecUptoCard

/-- THE SECOND FORM's CARD OF 'stopwatchlaw12.FactsBack'. -/
def factsBackUptoCard : Claim7 := { stood := { row := factsBackUptoRow, standIns := [], harness := (true, "708b5f6f3634f4f0890c02473ea9d4ce3b1f6bb87ec048d1d8962305ea5a8317"), looks := true }, kinds := [], alts := [], laidByText := true, laidKinds := [.data, .data, .data, .data, .data, .data, .data, .data, .data, .data, .data], laidTests := true, laidLooks := .later }
def FactsBackUptoCardSaid : Prop := Claim7.holds Tryd.pinned (.plain (OpenSpec.upto factsBackSpec)) factsBackUptoCard

/-- THE SECOND FORM's CARD OF 'stopwatchlaw12.FactsContents'. -/
def factsContentsUptoCard : Claim7 := { stood := { row := factsContentsUptoRow, standIns := [], harness := (true, "708b5f6f3634f4f0890c02473ea9d4ce3b1f6bb87ec048d1d8962305ea5a8317"), looks := true }, kinds := [], alts := [], laidByText := true, laidKinds := [.data, .data, .data, .data, .data, .data, .data, .data, .data, .data, .data], laidTests := true, laidLooks := .later }
def FactsContentsUptoCardSaid : Prop := Claim7.holds Tryd.pinned (.plain (OpenSpec.upto factsContentsSpec)) factsContentsUptoCard

/-- THE SECOND FORM's CARD OF 'stopwatchlaw12.FactsOrder'. -/
def factsOrderUptoCard : Claim7 := { stood := { row := factsOrderUptoRow, standIns := [], harness := (true, "708b5f6f3634f4f0890c02473ea9d4ce3b1f6bb87ec048d1d8962305ea5a8317"), looks := true }, kinds := [], alts := [], laidByText := true, laidKinds := [.data, .data, .data, .data, .data, .data, .data, .data, .data, .data, .data], laidTests := true, laidLooks := .later }
def FactsOrderUptoCardSaid : Prop := Claim7.holds Tryd.pinned (.plain (OpenSpec.upto factsOrderSpec)) factsOrderUptoCard

/-- THE SECOND FORM's CARD OF 'stopwatchlaw12.FactsDifferent'. -/
def factsDifferentUptoCard : Claim7 := { stood := { row := factsDifferentUptoRow, standIns := [], harness := (true, "708b5f6f3634f4f0890c02473ea9d4ce3b1f6bb87ec048d1d8962305ea5a8317"), looks := true }, kinds := [], alts := [], laidByText := true, laidKinds := [.data, .data, .data, .data, .data, .data, .data, .data, .data, .data, .data], laidTests := true, laidLooks := .later }
def FactsDifferentUptoCardSaid : Prop := Claim7.holds Tryd.pinned (.plain (OpenSpec.upto factsDifferentSpec)) factsDifferentUptoCard

/-- THE SECOND FORM's CARD OF 'stopwatchlaw12.FactsOther'. -/
def factsOtherUptoCard : Claim7 := { stood := { row := factsOtherUptoRow, standIns := [], harness := (true, "708b5f6f3634f4f0890c02473ea9d4ce3b1f6bb87ec048d1d8962305ea5a8317"), looks := true }, kinds := [], alts := [], laidByText := true, laidKinds := [.data, .data, .data, .data, .data, .data, .data, .data, .data, .data, .data], laidTests := true, laidLooks := .later }
def FactsOtherUptoCardSaid : Prop := Claim7.holds Tryd.pinned (.plain (OpenSpec.upto factsOtherSpec)) factsOtherUptoCard
end Rows
end Go.Proofs.YtjfkeicmdaanbaaDoor
