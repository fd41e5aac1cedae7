/-
  DERIVED. GIVEN WITH THE SEED: THE CARDS: each row of YtjjaabidbeoomaaDoorRows.lean that lists a variable, with what it lists TIED to the program's text (the seventh form; the later family's looks); each row that meets fmt, with fmt's text TOLD by the authors' own Lean function (tested against real Go, not proved from fmt's source: count such statements apart). THE CARD IS WHAT COUNTS. Prove the row's statement (the work); the ties are given (YtjjaabidbeoomaaDoorTie.lean); close each card by the builder's one call (the guide's Derived/Test/ToyasCard.lean, 'card_holds'). Laid BY PROGRAM, IN A SANDBOX (cutbox-door.mjs). By AI agents, Wed Nov 11 2026. No macro, syntax, notation, axiom, sorry.
-/
import Derived.Test.YtjjaabidbeoomaaDoorRows
import GoSem.ClaimSeven
namespace Go.Proofs.YtjjaabidbeoomaaDoor
namespace Rows

/-- THE TIED CARD OF 'stopwatchlaw20.RulingsSet'. -/
def rulingsSetCard : Claim7 := { stood := { row := rulingsSetRow, standIns := [], harness := (true, "2995bf8852787ade057219681cbc1b00e1baf72ff4e3dc25f6fa840bd7f2235f"), looks := false }, kinds := [], alts := [], laidByText := true, laidKinds := [.data, .data, .data, .data, .data, .data, .data, .data, .data, .data, .data], laidTests := true, laidLooks := .later }
def RulingsSetCardSaid : Prop := Claim7.holds Tryd.pinned (.plain (OpenSpec.ofChange rulingsSetSpec)) rulingsSetCard

/-- THE TIED CARD OF 'stopwatchlaw20.RulingsPrevail'. -/
def rulingsPrevailCard : Claim7 := { stood := { row := rulingsPrevailRow, standIns := [], harness := (true, "2995bf8852787ade057219681cbc1b00e1baf72ff4e3dc25f6fa840bd7f2235f"), looks := false }, kinds := [], alts := [], laidByText := true, laidKinds := [.data, .data, .data, .data, .data, .data, .data, .data, .data, .data, .data], laidTests := true, laidLooks := .later }
def RulingsPrevailCardSaid : Prop := Claim7.holds Tryd.pinned (.plain (OpenSpec.ofChange rulingsPrevailSpec)) rulingsPrevailCard

/-- THE TIED CARD OF 'stopwatchlaw20.RulingsVoid'. -/
def rulingsVoidCard : Claim7 := { stood := { row := rulingsVoidRow, standIns := [], harness := (true, "2995bf8852787ade057219681cbc1b00e1baf72ff4e3dc25f6fa840bd7f2235f"), looks := false }, kinds := [], alts := [], laidByText := true, laidKinds := [.data, .data, .data, .data, .data, .data, .data, .data, .data, .data, .data], laidTests := true, laidLooks := .later }
def RulingsVoidCardSaid : Prop := Claim7.holds Tryd.pinned (.plain (OpenSpec.ofChange rulingsVoidSpec)) rulingsVoidCard

/-- THE TIED CARD OF 'stopwatchlaw20.RulingsApart'. -/
def rulingsApartCard : Claim7 := { stood := { row := rulingsApartRow, standIns := [], harness := (true, "2995bf8852787ade057219681cbc1b00e1baf72ff4e3dc25f6fa840bd7f2235f"), looks := false }, kinds := [], alts := [], laidByText := true, laidKinds := [.data, .data, .data, .data, .data, .data, .data, .data, .data, .data, .data], laidTests := true, laidLooks := .later }
def RulingsApartCardSaid : Prop := Claim7.holds Tryd.pinned (.plain (OpenSpec.ofChange rulingsApartSpec)) rulingsApartCard

/-- THE TIED CARD OF 'stopwatchlaw20.RulingsAppeal'. -/
def rulingsAppealCard : Claim7 := { stood := { row := rulingsAppealRow, standIns := [], harness := (true, "2995bf8852787ade057219681cbc1b00e1baf72ff4e3dc25f6fa840bd7f2235f"), looks := false }, kinds := [], alts := [], laidByText := true, laidKinds := [.data, .data, .data, .data, .data, .data, .data, .data, .data, .data, .data], laidTests := true, laidLooks := .later }
def RulingsAppealCardSaid : Prop := Claim7.holds Tryd.pinned (.plain (OpenSpec.ofChange rulingsAppealSpec)) rulingsAppealCard

/-- THE SECOND FORM's CARD OF 'stopwatchlaw20.RulingsSet'. -/
def rulingsSetUptoCard : Claim7 := { stood := { row := rulingsSetUptoRow, standIns := [], harness := (true, "2995bf8852787ade057219681cbc1b00e1baf72ff4e3dc25f6fa840bd7f2235f"), looks := false }, kinds := [], alts := [], laidByText := true, laidKinds := [.data, .data, .data, .data, .data, .data, .data, .data, .data, .data, .data], laidTests := true, laidLooks := .later }
def RulingsSetUptoCardSaid : Prop := Claim7.holds Tryd.pinned (.plain (OpenSpec.upto rulingsSetSpec)) rulingsSetUptoCard

/-- THE SECOND FORM's CARD OF 'stopwatchlaw20.RulingsPrevail'. -/
def rulingsPrevailUptoCard : Claim7 := { stood := { row := rulingsPrevailUptoRow, standIns := [], harness := (true, "2995bf8852787ade057219681cbc1b00e1baf72ff4e3dc25f6fa840bd7f2235f"), looks := false }, kinds := [], alts := [], laidByText := true, laidKinds := [.data, .data, .data, .data, .data, .data, .data, .data, .data, .data, .data], laidTests := true, laidLooks := .later }
def RulingsPrevailUptoCardSaid : Prop := Claim7.holds Tryd.pinned (.plain (OpenSpec.upto rulingsPrevailSpec)) rulingsPrevailUptoCard

/-- THE SECOND FORM's CARD OF 'stopwatchlaw20.RulingsVoid'. -/
def rulingsVoidUptoCard : Claim7 := { stood := { row := rulingsVoidUptoRow, standIns := [], harness := (true, "2995bf8852787ade057219681cbc1b00e1baf72ff4e3dc25f6fa840bd7f2235f"), looks := false }, kinds := [], alts := [], laidByText := true, laidKinds := [.data, .data, .data, .data, .data, .data, .data, .data, .data, .data, .data], laidTests := true, laidLooks := .later }
def RulingsVoidUptoCardSaid : Prop := Claim7.holds Tryd.pinned (.plain (OpenSpec.upto rulingsVoidSpec)) rulingsVoidUptoCard

/-- THE SECOND FORM's CARD OF 'stopwatchlaw20.RulingsApart'. -/
def rulingsApartUptoCard : Claim7 := { stood := { row := rulingsApartUptoRow, standIns := [], harness := (true, "2995bf8852787ade057219681cbc1b00e1baf72ff4e3dc25f6fa840bd7f2235f"), looks := false }, kinds := [], alts := [], laidByText := true, laidKinds := [.data, .data, .data, .data, .data, .data, .data, .data, .data, .data, .data], laidTests := true, laidLooks := .later }
def RulingsApartUptoCardSaid : Prop := Claim7.holds Tryd.pinned (.plain (OpenSpec.upto rulingsApartSpec)) rulingsApartUptoCard

/-- THE SECOND FORM's CARD OF 'stopwatchlaw20.RulingsAppeal'. -/
def rulingsAppealUptoCard : Claim7 := { stood := { row := rulingsAppealUptoRow, standIns := [], harness := (true, "2995bf8852787ade057219681cbc1b00e1baf72ff4e3dc25f6fa840bd7f2235f"), looks := false }, kinds := [], alts := [], laidByText := true, laidKinds := [.data, .data, .data, .data, .data, .data, .data, .data, .data, .data, .data], laidTests := true, laidLooks := .later }
def RulingsAppealUptoCardSaid : Prop := Claim7.holds Tryd.pinned (.plain (OpenSpec.upto rulingsAppealSpec)) rulingsAppealUptoCard
end Rows
end Go.Proofs.YtjjaabidbeoomaaDoor
