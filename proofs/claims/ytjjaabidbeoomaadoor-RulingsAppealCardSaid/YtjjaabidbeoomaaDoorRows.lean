/-
  NARROWER THAN 'FOR EVERY INPUT', by the rows' own cells (each row's printed sentence says how): RulingsSet: laid · RulingsPrevail: laid · RulingsVoid: laid · RulingsApart: laid · RulingsAppeal: laid.
  DERIVED. THE GIVEN ROWS OF THIS SEAT. 5 by the template 'for every input the law returns true; each argument reads behind the call as it read before'; 0 by the template 'total and deterministic' (their statements: YtjjaabidbeoomaaDoorTotals.lean).
  GIVEN WITH THE SEED: the statements are not yours to turn. If you find one false, say at which input.
  Laid BY PROGRAM, IN A SANDBOX (cutbox-rows.mjs): the forced cells as the released guide's own fill.sh prints them over the translation 3e34538f6b6dde96… (all of the seat's roots in one cut). By AI agents, Wed Nov 11 2026. No macro, syntax, notation, axiom, sorry.
-/
import Derived.Test.YtjjaabidbeoomaaDoorChecked
import GoSem.Claim
import GoSem.ClaimJoined
import GoSem.ClaimMapViews
import Derived.JoinedTies
import Derived.KernelRfl
namespace Go.Proofs.YtjjaabidbeoomaaDoor
/- THE CELL 'sum', in the pinned program and in every row, IS THE sha256 OF THE DUMP (.gsa) THAT YtjjaabidbeoomaaDoorProg.lean LOADS. Nothing in Lean hashes anything: it is a label: what it is worth is what the hold of that sum in a sandbox is worth. -/
noncomputable def Tryd.pinned : Pinned := { name := "ytjjaabidbeoomaadoor", sum := "3e34538f6b6dde96d87907582828aefb1970fa19f1d02405adad9aa65daf2e24", checked := Tryd.checked }
namespace Rows
def none {H : Type} : Left H := { results := [], args := [] }

/- WHAT THE LISTED PACKAGE-LEVEL VARIABLES READ AS WHEN THE CALL BEGINS. Each datum BY PROGRAM (the guide's laid-datum.mjs) off the statement by which the dump's own 'gosem.cut.vars' lays the variable. In a bare row this is a premise. The card (YtjjaabidbeoomaaDoorCards.lean) ties it to the program's text. -/
def laid_stopwatch_facts_timeS {H : Type} : DataW H := .agg [.lit (.int .i64 (-1099511627776)), .lit (.int .i64 1099511627776)]
def laid_stopwatch_facts_lengthS {H : Type} : DataW H := .agg [.lit (.int .i64 0), .lit (.int .i64 1099511627776)]
def laid_stopwatch_facts_bibS {H : Type} : DataW H := .agg [.lit (.int .i64 1), .lit (.int .i64 9999)]
def laid_stopwatch_facts_matS {H : Type} : DataW H := .agg [.lit (.int .i64 0), .lit (.int .i64 39)]
def laid_stopwatch_facts_epochS {H : Type} : DataW H := .agg [.lit (.int .i64 0), .lit (.int .i64 255)]
def laid_stopwatch_facts_chipS {H : Type} : DataW H := .agg [.lit (.int .i64 0), .lit (.int .i64 1048576)]
def laid_stopwatch_facts_positionS {H : Type} : DataW H := .agg [.lit (.int .i64 0), .lit (.int .i64 255)]
def laid_stopwatch_facts_caseS {H : Type} : DataW H := .agg [.lit (.int .i64 1), .lit (.int .i64 1048576)]
def laid_stopwatch_facts_crewS {H : Type} : DataW H := .agg [.lit (.int .i64 0), .lit (.int .i64 31)]
def laid_stopwatch_facts_numberS {H : Type} : DataW H := .agg [.lit (.int .i64 1), .lit (.int .i64 1048576)]
def laid_stopwatch_facts_bitS {H : Type} : DataW H := .agg [.lit (.int .i64 0), .lit (.int .i64 1)]

/-- 'stopwatchlaw20.RulingsSet': WHATEVER THE INPUT: true; the input reads as it did. -/
def rulingsSetSpec : ChangeSpec := { name := "rulingsSet", fn := fun _ => fun
  | [d1, d2] => { results := [.lit (.bool true)], args := [d1, d2] }
  | _ => none }
def rulingsSetRow : OpenClaim := { program := "ytjjaabidbeoomaadoor", sum := "3e34538f6b6dde96d87907582828aefb1970fa19f1d02405adad9aa65daf2e24", func := "stopwatch/stopwatchlaw20.RulingsSet", spec := "rulingsSet", inPlace := ["internal/bytealg.Compare"], unfollowed := true, recurses := true, named := ["stopwatch/facts.bibS", "stopwatch/facts.timeS", "stopwatch/facts.chipS", "stopwatch/facts.matS", "stopwatch/facts.epochS", "stopwatch/facts.lengthS", "stopwatch/facts.positionS", "stopwatch/facts.caseS", "stopwatch/facts.bitS", "stopwatch/facts.crewS", "stopwatch/facts.numberS"], apart := false, laid := [("stopwatch/facts.timeS", laid_stopwatch_facts_timeS), ("stopwatch/facts.lengthS", laid_stopwatch_facts_lengthS), ("stopwatch/facts.bibS", laid_stopwatch_facts_bibS), ("stopwatch/facts.matS", laid_stopwatch_facts_matS), ("stopwatch/facts.epochS", laid_stopwatch_facts_epochS), ("stopwatch/facts.chipS", laid_stopwatch_facts_chipS), ("stopwatch/facts.positionS", laid_stopwatch_facts_positionS), ("stopwatch/facts.caseS", laid_stopwatch_facts_caseS), ("stopwatch/facts.crewS", laid_stopwatch_facts_crewS), ("stopwatch/facts.numberS", laid_stopwatch_facts_numberS), ("stopwatch/facts.bitS", laid_stopwatch_facts_bitS)] }
def RulingsSetSaid : Prop := rulingsSetRow.holds Tryd.pinned (OpenSpec.ofChange rulingsSetSpec)

/-- ITS FALSE NEIGHBOUR: 'it returns false'. Refute it at one input. -/
def rulingsSetWrong : ChangeSpec := { name := "rulingsSet", fn := fun _ => fun
  | [d1, d2] => { results := [.lit (.bool false)], args := [d1, d2] }
  | _ => none }
def RulingsSetWrongFalsely : Prop := rulingsSetRow.holds Tryd.pinned (OpenSpec.ofChange rulingsSetWrong)

/-- 'stopwatchlaw20.RulingsPrevail': WHATEVER THE INPUT: true; the input reads as it did. -/
def rulingsPrevailSpec : ChangeSpec := { name := "rulingsPrevail", fn := fun _ => fun
  | [d] => { results := [.lit (.bool true)], args := [d] }
  | _ => none }
def rulingsPrevailRow : OpenClaim := { program := "ytjjaabidbeoomaadoor", sum := "3e34538f6b6dde96d87907582828aefb1970fa19f1d02405adad9aa65daf2e24", func := "stopwatch/stopwatchlaw20.RulingsPrevail", spec := "rulingsPrevail", inPlace := ["internal/bytealg.Compare"], unfollowed := true, recurses := true, named := ["stopwatch/facts.bibS", "stopwatch/facts.timeS", "stopwatch/facts.chipS", "stopwatch/facts.matS", "stopwatch/facts.epochS", "stopwatch/facts.lengthS", "stopwatch/facts.positionS", "stopwatch/facts.caseS", "stopwatch/facts.bitS", "stopwatch/facts.crewS", "stopwatch/facts.numberS"], apart := false, laid := [("stopwatch/facts.timeS", laid_stopwatch_facts_timeS), ("stopwatch/facts.lengthS", laid_stopwatch_facts_lengthS), ("stopwatch/facts.bibS", laid_stopwatch_facts_bibS), ("stopwatch/facts.matS", laid_stopwatch_facts_matS), ("stopwatch/facts.epochS", laid_stopwatch_facts_epochS), ("stopwatch/facts.chipS", laid_stopwatch_facts_chipS), ("stopwatch/facts.positionS", laid_stopwatch_facts_positionS), ("stopwatch/facts.caseS", laid_stopwatch_facts_caseS), ("stopwatch/facts.crewS", laid_stopwatch_facts_crewS), ("stopwatch/facts.numberS", laid_stopwatch_facts_numberS), ("stopwatch/facts.bitS", laid_stopwatch_facts_bitS)] }
def RulingsPrevailSaid : Prop := rulingsPrevailRow.holds Tryd.pinned (OpenSpec.ofChange rulingsPrevailSpec)

/-- ITS FALSE NEIGHBOUR: 'it returns false'. Refute it at one input. -/
def rulingsPrevailWrong : ChangeSpec := { name := "rulingsPrevail", fn := fun _ => fun
  | [d] => { results := [.lit (.bool false)], args := [d] }
  | _ => none }
def RulingsPrevailWrongFalsely : Prop := rulingsPrevailRow.holds Tryd.pinned (OpenSpec.ofChange rulingsPrevailWrong)

/-- 'stopwatchlaw20.RulingsVoid': WHATEVER THE INPUT: true; the input reads as it did. -/
def rulingsVoidSpec : ChangeSpec := { name := "rulingsVoid", fn := fun _ => fun
  | [d] => { results := [.lit (.bool true)], args := [d] }
  | _ => none }
def rulingsVoidRow : OpenClaim := { program := "ytjjaabidbeoomaadoor", sum := "3e34538f6b6dde96d87907582828aefb1970fa19f1d02405adad9aa65daf2e24", func := "stopwatch/stopwatchlaw20.RulingsVoid", spec := "rulingsVoid", inPlace := ["internal/bytealg.Compare"], unfollowed := true, recurses := true, named := ["stopwatch/facts.bibS", "stopwatch/facts.timeS", "stopwatch/facts.chipS", "stopwatch/facts.matS", "stopwatch/facts.epochS", "stopwatch/facts.lengthS", "stopwatch/facts.positionS", "stopwatch/facts.caseS", "stopwatch/facts.bitS", "stopwatch/facts.crewS", "stopwatch/facts.numberS"], apart := false, laid := [("stopwatch/facts.timeS", laid_stopwatch_facts_timeS), ("stopwatch/facts.lengthS", laid_stopwatch_facts_lengthS), ("stopwatch/facts.bibS", laid_stopwatch_facts_bibS), ("stopwatch/facts.matS", laid_stopwatch_facts_matS), ("stopwatch/facts.epochS", laid_stopwatch_facts_epochS), ("stopwatch/facts.chipS", laid_stopwatch_facts_chipS), ("stopwatch/facts.positionS", laid_stopwatch_facts_positionS), ("stopwatch/facts.caseS", laid_stopwatch_facts_caseS), ("stopwatch/facts.crewS", laid_stopwatch_facts_crewS), ("stopwatch/facts.numberS", laid_stopwatch_facts_numberS), ("stopwatch/facts.bitS", laid_stopwatch_facts_bitS)] }
def RulingsVoidSaid : Prop := rulingsVoidRow.holds Tryd.pinned (OpenSpec.ofChange rulingsVoidSpec)

/-- ITS FALSE NEIGHBOUR: 'it returns false'. Refute it at one input. -/
def rulingsVoidWrong : ChangeSpec := { name := "rulingsVoid", fn := fun _ => fun
  | [d] => { results := [.lit (.bool false)], args := [d] }
  | _ => none }
def RulingsVoidWrongFalsely : Prop := rulingsVoidRow.holds Tryd.pinned (OpenSpec.ofChange rulingsVoidWrong)

/-- 'stopwatchlaw20.RulingsApart': WHATEVER THE INPUT: true; the input reads as it did. -/
def rulingsApartSpec : ChangeSpec := { name := "rulingsApart", fn := fun _ => fun
  | [d1, d2] => { results := [.lit (.bool true)], args := [d1, d2] }
  | _ => none }
def rulingsApartRow : OpenClaim := { program := "ytjjaabidbeoomaadoor", sum := "3e34538f6b6dde96d87907582828aefb1970fa19f1d02405adad9aa65daf2e24", func := "stopwatch/stopwatchlaw20.RulingsApart", spec := "rulingsApart", inPlace := ["internal/bytealg.Compare"], unfollowed := true, recurses := true, named := ["stopwatch/facts.bibS", "stopwatch/facts.timeS", "stopwatch/facts.chipS", "stopwatch/facts.matS", "stopwatch/facts.epochS", "stopwatch/facts.lengthS", "stopwatch/facts.positionS", "stopwatch/facts.caseS", "stopwatch/facts.bitS", "stopwatch/facts.crewS", "stopwatch/facts.numberS"], apart := false, laid := [("stopwatch/facts.timeS", laid_stopwatch_facts_timeS), ("stopwatch/facts.lengthS", laid_stopwatch_facts_lengthS), ("stopwatch/facts.bibS", laid_stopwatch_facts_bibS), ("stopwatch/facts.matS", laid_stopwatch_facts_matS), ("stopwatch/facts.epochS", laid_stopwatch_facts_epochS), ("stopwatch/facts.chipS", laid_stopwatch_facts_chipS), ("stopwatch/facts.positionS", laid_stopwatch_facts_positionS), ("stopwatch/facts.caseS", laid_stopwatch_facts_caseS), ("stopwatch/facts.crewS", laid_stopwatch_facts_crewS), ("stopwatch/facts.numberS", laid_stopwatch_facts_numberS), ("stopwatch/facts.bitS", laid_stopwatch_facts_bitS)] }
def RulingsApartSaid : Prop := rulingsApartRow.holds Tryd.pinned (OpenSpec.ofChange rulingsApartSpec)

/-- ITS FALSE NEIGHBOUR: 'it returns false'. Refute it at one input. -/
def rulingsApartWrong : ChangeSpec := { name := "rulingsApart", fn := fun _ => fun
  | [d1, d2] => { results := [.lit (.bool false)], args := [d1, d2] }
  | _ => none }
def RulingsApartWrongFalsely : Prop := rulingsApartRow.holds Tryd.pinned (OpenSpec.ofChange rulingsApartWrong)

/-- 'stopwatchlaw20.RulingsAppeal': WHATEVER THE INPUT: true; the input reads as it did. -/
def rulingsAppealSpec : ChangeSpec := { name := "rulingsAppeal", fn := fun _ => fun
  | [d1, d2] => { results := [.lit (.bool true)], args := [d1, d2] }
  | _ => none }
def rulingsAppealRow : OpenClaim := { program := "ytjjaabidbeoomaadoor", sum := "3e34538f6b6dde96d87907582828aefb1970fa19f1d02405adad9aa65daf2e24", func := "stopwatch/stopwatchlaw20.RulingsAppeal", spec := "rulingsAppeal", inPlace := ["internal/bytealg.Compare"], unfollowed := true, recurses := true, named := ["stopwatch/facts.bibS", "stopwatch/facts.timeS", "stopwatch/facts.chipS", "stopwatch/facts.matS", "stopwatch/facts.epochS", "stopwatch/facts.lengthS", "stopwatch/facts.positionS", "stopwatch/facts.caseS", "stopwatch/facts.bitS", "stopwatch/facts.crewS", "stopwatch/facts.numberS"], apart := false, laid := [("stopwatch/facts.timeS", laid_stopwatch_facts_timeS), ("stopwatch/facts.lengthS", laid_stopwatch_facts_lengthS), ("stopwatch/facts.bibS", laid_stopwatch_facts_bibS), ("stopwatch/facts.matS", laid_stopwatch_facts_matS), ("stopwatch/facts.epochS", laid_stopwatch_facts_epochS), ("stopwatch/facts.chipS", laid_stopwatch_facts_chipS), ("stopwatch/facts.positionS", laid_stopwatch_facts_positionS), ("stopwatch/facts.caseS", laid_stopwatch_facts_caseS), ("stopwatch/facts.crewS", laid_stopwatch_facts_crewS), ("stopwatch/facts.numberS", laid_stopwatch_facts_numberS), ("stopwatch/facts.bitS", laid_stopwatch_facts_bitS)] }
def RulingsAppealSaid : Prop := rulingsAppealRow.holds Tryd.pinned (OpenSpec.ofChange rulingsAppealSpec)

/-- ITS FALSE NEIGHBOUR: 'it returns false'. Refute it at one input. -/
def rulingsAppealWrong : ChangeSpec := { name := "rulingsAppeal", fn := fun _ => fun
  | [d1, d2] => { results := [.lit (.bool false)], args := [d1, d2] }
  | _ => none }
def RulingsAppealWrongFalsely : Prop := rulingsAppealRow.holds Tryd.pinned (OpenSpec.ofChange rulingsAppealWrong)

/- THE SECOND FORM. 'bulk': how many values and letters a reading holds, each counted each time it is reached (what is shared counts as often as it is met; a slice's spare places count too). A statement '..UptoSaid' is the law's where the arguments, and the package variables that the reading takes, are together of bulk at most 1048576: NARROWER than '..Said'. Prove '..Said' where nothing that the law and all that it calls make is longer than what came in: it says more and counts as full. Else prove '..UptoSaid'. A law counts once. -/
mutual
def uptoBulk {H : Type} : DataW H → Nat
  | .lit (.string bytes) => bytes.length + 1
  | .lit _ => 1
  | .nil => 1
  | .ptr d => uptoBulk d + 1
  | .slice elems spare => uptoBulkAll elems + uptoBulkAll spare + 1
  | .agg parts => uptoBulkAll parts + 1
  | .iface _ d => uptoBulk d + 1
  | .map entries => uptoBulkEntries entries + 1
  | .held _ => 1
def uptoBulkAll {H : Type} : List (DataW H) → Nat
  | [] => 0
  | d :: r => uptoBulk d + uptoBulkAll r
def uptoBulkEntries {H : Type} : List (Lit × DataW H) → Nat
  | [] => 0
  | x :: r => uptoBulkEntry x + uptoBulkEntries r
def uptoBulkEntry {H : Type} : Lit × DataW H → Nat
  | (.string bytes, d) => bytes.length + uptoBulk d + 1
  | (_, d) => uptoBulk d + 1
 end
def uptoSmall : (H : Type) → List (DataW H) → Bool := fun _ ds => decide (uptoBulkAll ds ≤ 1048576)
def OpenSpec.upto (s : _root_.Go.ChangeSpec) : _root_.Go.OpenSpec := { _root_.Go.OpenSpec.ofChange s with cond := some uptoSmall }

/-- 'stopwatchlaw20.RulingsSet', WHERE WHAT IT READS IS OF BULK AT MOST 1048576: true; the input reads as it did. -/
def rulingsSetUptoRow : OpenClaim := { program := "ytjjaabidbeoomaadoor", sum := "3e34538f6b6dde96d87907582828aefb1970fa19f1d02405adad9aa65daf2e24", func := "stopwatch/stopwatchlaw20.RulingsSet", spec := "rulingsSet", inPlace := ["internal/bytealg.Compare"], unfollowed := true, recurses := true, named := ["stopwatch/facts.bibS", "stopwatch/facts.timeS", "stopwatch/facts.chipS", "stopwatch/facts.matS", "stopwatch/facts.epochS", "stopwatch/facts.lengthS", "stopwatch/facts.positionS", "stopwatch/facts.caseS", "stopwatch/facts.bitS", "stopwatch/facts.crewS", "stopwatch/facts.numberS"], apart := false, laid := [("stopwatch/facts.timeS", laid_stopwatch_facts_timeS), ("stopwatch/facts.lengthS", laid_stopwatch_facts_lengthS), ("stopwatch/facts.bibS", laid_stopwatch_facts_bibS), ("stopwatch/facts.matS", laid_stopwatch_facts_matS), ("stopwatch/facts.epochS", laid_stopwatch_facts_epochS), ("stopwatch/facts.chipS", laid_stopwatch_facts_chipS), ("stopwatch/facts.positionS", laid_stopwatch_facts_positionS), ("stopwatch/facts.caseS", laid_stopwatch_facts_caseS), ("stopwatch/facts.crewS", laid_stopwatch_facts_crewS), ("stopwatch/facts.numberS", laid_stopwatch_facts_numberS), ("stopwatch/facts.bitS", laid_stopwatch_facts_bitS)], narrowed := true }
def RulingsSetUptoSaid : Prop := rulingsSetUptoRow.holds Tryd.pinned (OpenSpec.upto rulingsSetSpec)

/-- 'stopwatchlaw20.RulingsPrevail', WHERE WHAT IT READS IS OF BULK AT MOST 1048576: true; the input reads as it did. -/
def rulingsPrevailUptoRow : OpenClaim := { program := "ytjjaabidbeoomaadoor", sum := "3e34538f6b6dde96d87907582828aefb1970fa19f1d02405adad9aa65daf2e24", func := "stopwatch/stopwatchlaw20.RulingsPrevail", spec := "rulingsPrevail", inPlace := ["internal/bytealg.Compare"], unfollowed := true, recurses := true, named := ["stopwatch/facts.bibS", "stopwatch/facts.timeS", "stopwatch/facts.chipS", "stopwatch/facts.matS", "stopwatch/facts.epochS", "stopwatch/facts.lengthS", "stopwatch/facts.positionS", "stopwatch/facts.caseS", "stopwatch/facts.bitS", "stopwatch/facts.crewS", "stopwatch/facts.numberS"], apart := false, laid := [("stopwatch/facts.timeS", laid_stopwatch_facts_timeS), ("stopwatch/facts.lengthS", laid_stopwatch_facts_lengthS), ("stopwatch/facts.bibS", laid_stopwatch_facts_bibS), ("stopwatch/facts.matS", laid_stopwatch_facts_matS), ("stopwatch/facts.epochS", laid_stopwatch_facts_epochS), ("stopwatch/facts.chipS", laid_stopwatch_facts_chipS), ("stopwatch/facts.positionS", laid_stopwatch_facts_positionS), ("stopwatch/facts.caseS", laid_stopwatch_facts_caseS), ("stopwatch/facts.crewS", laid_stopwatch_facts_crewS), ("stopwatch/facts.numberS", laid_stopwatch_facts_numberS), ("stopwatch/facts.bitS", laid_stopwatch_facts_bitS)], narrowed := true }
def RulingsPrevailUptoSaid : Prop := rulingsPrevailUptoRow.holds Tryd.pinned (OpenSpec.upto rulingsPrevailSpec)

/-- 'stopwatchlaw20.RulingsVoid', WHERE WHAT IT READS IS OF BULK AT MOST 1048576: true; the input reads as it did. -/
def rulingsVoidUptoRow : OpenClaim := { program := "ytjjaabidbeoomaadoor", sum := "3e34538f6b6dde96d87907582828aefb1970fa19f1d02405adad9aa65daf2e24", func := "stopwatch/stopwatchlaw20.RulingsVoid", spec := "rulingsVoid", inPlace := ["internal/bytealg.Compare"], unfollowed := true, recurses := true, named := ["stopwatch/facts.bibS", "stopwatch/facts.timeS", "stopwatch/facts.chipS", "stopwatch/facts.matS", "stopwatch/facts.epochS", "stopwatch/facts.lengthS", "stopwatch/facts.positionS", "stopwatch/facts.caseS", "stopwatch/facts.bitS", "stopwatch/facts.crewS", "stopwatch/facts.numberS"], apart := false, laid := [("stopwatch/facts.timeS", laid_stopwatch_facts_timeS), ("stopwatch/facts.lengthS", laid_stopwatch_facts_lengthS), ("stopwatch/facts.bibS", laid_stopwatch_facts_bibS), ("stopwatch/facts.matS", laid_stopwatch_facts_matS), ("stopwatch/facts.epochS", laid_stopwatch_facts_epochS), ("stopwatch/facts.chipS", laid_stopwatch_facts_chipS), ("stopwatch/facts.positionS", laid_stopwatch_facts_positionS), ("stopwatch/facts.caseS", laid_stopwatch_facts_caseS), ("stopwatch/facts.crewS", laid_stopwatch_facts_crewS), ("stopwatch/facts.numberS", laid_stopwatch_facts_numberS), ("stopwatch/facts.bitS", laid_stopwatch_facts_bitS)], narrowed := true }
def RulingsVoidUptoSaid : Prop := rulingsVoidUptoRow.holds Tryd.pinned (OpenSpec.upto rulingsVoidSpec)

/-- 'stopwatchlaw20.RulingsApart', WHERE WHAT IT READS IS OF BULK AT MOST 1048576: true; the input reads as it did. -/
def rulingsApartUptoRow : OpenClaim := { program := "ytjjaabidbeoomaadoor", sum := "3e34538f6b6dde96d87907582828aefb1970fa19f1d02405adad9aa65daf2e24", func := "stopwatch/stopwatchlaw20.RulingsApart", spec := "rulingsApart", inPlace := ["internal/bytealg.Compare"], unfollowed := true, recurses := true, named := ["stopwatch/facts.bibS", "stopwatch/facts.timeS", "stopwatch/facts.chipS", "stopwatch/facts.matS", "stopwatch/facts.epochS", "stopwatch/facts.lengthS", "stopwatch/facts.positionS", "stopwatch/facts.caseS", "stopwatch/facts.bitS", "stopwatch/facts.crewS", "stopwatch/facts.numberS"], apart := false, laid := [("stopwatch/facts.timeS", laid_stopwatch_facts_timeS), ("stopwatch/facts.lengthS", laid_stopwatch_facts_lengthS), ("stopwatch/facts.bibS", laid_stopwatch_facts_bibS), ("stopwatch/facts.matS", laid_stopwatch_facts_matS), ("stopwatch/facts.epochS", laid_stopwatch_facts_epochS), ("stopwatch/facts.chipS", laid_stopwatch_facts_chipS), ("stopwatch/facts.positionS", laid_stopwatch_facts_positionS), ("stopwatch/facts.caseS", laid_stopwatch_facts_caseS), ("stopwatch/facts.crewS", laid_stopwatch_facts_crewS), ("stopwatch/facts.numberS", laid_stopwatch_facts_numberS), ("stopwatch/facts.bitS", laid_stopwatch_facts_bitS)], narrowed := true }
def RulingsApartUptoSaid : Prop := rulingsApartUptoRow.holds Tryd.pinned (OpenSpec.upto rulingsApartSpec)

/-- 'stopwatchlaw20.RulingsAppeal', WHERE WHAT IT READS IS OF BULK AT MOST 1048576: true; the input reads as it did. -/
def rulingsAppealUptoRow : OpenClaim := { program := "ytjjaabidbeoomaadoor", sum := "3e34538f6b6dde96d87907582828aefb1970fa19f1d02405adad9aa65daf2e24", func := "stopwatch/stopwatchlaw20.RulingsAppeal", spec := "rulingsAppeal", inPlace := ["internal/bytealg.Compare"], unfollowed := true, recurses := true, named := ["stopwatch/facts.bibS", "stopwatch/facts.timeS", "stopwatch/facts.chipS", "stopwatch/facts.matS", "stopwatch/facts.epochS", "stopwatch/facts.lengthS", "stopwatch/facts.positionS", "stopwatch/facts.caseS", "stopwatch/facts.bitS", "stopwatch/facts.crewS", "stopwatch/facts.numberS"], apart := false, laid := [("stopwatch/facts.timeS", laid_stopwatch_facts_timeS), ("stopwatch/facts.lengthS", laid_stopwatch_facts_lengthS), ("stopwatch/facts.bibS", laid_stopwatch_facts_bibS), ("stopwatch/facts.matS", laid_stopwatch_facts_matS), ("stopwatch/facts.epochS", laid_stopwatch_facts_epochS), ("stopwatch/facts.chipS", laid_stopwatch_facts_chipS), ("stopwatch/facts.positionS", laid_stopwatch_facts_positionS), ("stopwatch/facts.caseS", laid_stopwatch_facts_caseS), ("stopwatch/facts.crewS", laid_stopwatch_facts_crewS), ("stopwatch/facts.numberS", laid_stopwatch_facts_numberS), ("stopwatch/facts.bitS", laid_stopwatch_facts_bitS)], narrowed := true }
def RulingsAppealUptoSaid : Prop := rulingsAppealUptoRow.holds Tryd.pinned (OpenSpec.upto rulingsAppealSpec)

end Rows
end Go.Proofs.YtjjaabidbeoomaaDoor
