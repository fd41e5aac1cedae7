/-
  DERIVED. GIVEN WITH THE SEED: THE CARDS: each row of YtjjaabidbeoomaaGreatDoorRows.lean that lists a variable, with what it lists TIED to the program's text (the seventh form; the later family's looks); each row that meets fmt, with fmt's text TOLD by the authors' own Lean function (tested against real Go, not proved from fmt's source: count such statements apart). THE CARD IS WHAT COUNTS. Prove the row's statement (the work); the ties are given (YtjjaabidbeoomaaGreatDoorTie.lean); close each card by the builder's one call (the guide's Derived/Test/ToyasCard.lean, 'card_holds'). Laid BY PROGRAM, IN A SANDBOX (cutbox-door.mjs). By AI agents, Wed Nov 11 2026. No macro, syntax, notation, axiom, sorry.
-/
import Derived.Test.YtjjaabidbeoomaaGreatDoorRows
import GoSem.ClaimSeven
namespace Go.Proofs.YtjjaabidbeoomaaGreatDoor
namespace Rows

/-- THE TIED CARD OF 'stopwatchlaw20.RulingsForceSpec'. -/
def rulingsForceSpecCard : Claim7 := { stood := { row := rulingsForceSpecRow, standIns := [], harness := (true, "6d60be924816329ece5ca28007b1486cdcbb928601bf023fdaa25afca1e8153b"), looks := false }, kinds := [], alts := [], laidByText := true, laidKinds := [.data, .data, .data, .data, .data, .data, .data, .data, .data, .data, .data], laidTests := true, laidLooks := .later }
def RulingsForceSpecCardSaid : Prop := Claim7.holds Tryz.pinned (.plain (OpenSpec.ofChange rulingsForceSpecSpec)) rulingsForceSpecCard

/-- THE TIED CARD OF 'stopwatchlaw20.RulingsVoidSpec'. -/
def rulingsVoidSpecCard : Claim7 := { stood := { row := rulingsVoidSpecRow, standIns := [], harness := (true, "6d60be924816329ece5ca28007b1486cdcbb928601bf023fdaa25afca1e8153b"), looks := false }, kinds := [], alts := [], laidByText := true, laidKinds := [.data, .data, .data, .data, .data, .data, .data, .data, .data, .data, .data], laidTests := true, laidLooks := .later }
def RulingsVoidSpecCardSaid : Prop := Claim7.holds Tryz.pinned (.plain (OpenSpec.ofChange rulingsVoidSpecSpec)) rulingsVoidSpecCard

/-- THE SECOND FORM's CARD OF 'stopwatchlaw20.RulingsForceSpec'. -/
def rulingsForceSpecUptoCard : Claim7 := { stood := { row := rulingsForceSpecUptoRow, standIns := [], harness := (true, "6d60be924816329ece5ca28007b1486cdcbb928601bf023fdaa25afca1e8153b"), looks := false }, kinds := [], alts := [], laidByText := true, laidKinds := [.data, .data, .data, .data, .data, .data, .data, .data, .data, .data, .data], laidTests := true, laidLooks := .later }
def RulingsForceSpecUptoCardSaid : Prop := Claim7.holds Tryz.pinned (.plain (OpenSpec.upto rulingsForceSpecSpec)) rulingsForceSpecUptoCard

/-- THE SECOND FORM's CARD OF 'stopwatchlaw20.RulingsVoidSpec'. -/
def rulingsVoidSpecUptoCard : Claim7 := { stood := { row := rulingsVoidSpecUptoRow, standIns := [], harness := (true, "6d60be924816329ece5ca28007b1486cdcbb928601bf023fdaa25afca1e8153b"), looks := false }, kinds := [], alts := [], laidByText := true, laidKinds := [.data, .data, .data, .data, .data, .data, .data, .data, .data, .data, .data], laidTests := true, laidLooks := .later }
def RulingsVoidSpecUptoCardSaid : Prop := Claim7.holds Tryz.pinned (.plain (OpenSpec.upto rulingsVoidSpecSpec)) rulingsVoidSpecUptoCard
end Rows
end Go.Proofs.YtjjaabidbeoomaaGreatDoor
